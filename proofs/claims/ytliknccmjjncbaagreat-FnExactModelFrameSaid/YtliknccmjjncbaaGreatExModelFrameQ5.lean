/- Proved: for every input the law 'FnExactModelFrame' returns true and its arguments read behind the call as before: part 5 of its proof. No condition. -/
import Derived.WalkKit
import Derived.Lib.Hide
import Derived.WalkSpells
import Derived.Laws.OwnMore
import Derived.Deep.AppendLies
import Derived.Deep.Draws
import Derived.Maps.AppendAt
import Derived.RegionTactic
import Derived.OwnWalk
import Derived.Below
import Derived.Laws.AppendOwnNone
import Derived.Deep.QuietTactic
import Derived.BigQuiet
import Derived.StillTailTactics
import Derived.Laws.Cells
import Derived.Laws.IdiomCopy
import Derived.ChangeKeysEq
import Derived.Laws.BytesArg
import Derived.Laws.StructEq
import Derived.Laws.Tables
import Derived.Great.BuildSlice
import Derived.StillTail
import Derived.ArgAppend
import Derived.OrdersHeld
import Derived.Test.YtliknccmjjncbaaGreatProg
import Derived.Deep.Slices
import Derived.Deep.Fields
import Derived.ChangeSame
import Derived.OpenShut
import Derived.Laws.ResultCell
import Derived.Deep.RegionWith
import Derived.Laws.IdiomStrings
import Derived.Test.YtliknccmjjncbaaGreatExModelFrameQ4
set_option linter.unusedVariables false
set_option linter.unusedSimpArgs false
namespace Go.Proofs.YtliknccmjjncbaaGreat
open Go.RowKit
set_option maxRecDepth 100000
def tT:List aQ:=[]
def vT:List (Nat×Nat×Bool×List Nat):=[]
def kw:UP:=.f<|.i 4<|.cl 107 [(true,[9,8,7,6,5,4,3,2]),(false,[0])] au<|.i 3<|.b .leq 1 0<|.ite 0 (.sel [5,6,7,8,9,10,11,12]<|.cl 108 [(true,[7,6,5,4,3,2,1,0])] au<|.ite 0 (.cl 109 [(true,[8,7,6,5,4,3,2,1])] au<|.i 200<|.b .leq 1 0<|.c 0<|.r 0)<|.f<|.c 0<|.r 0)<|.f<|.f<|.c 0<|.r 0
theorem vz:aM Tryz.prog 75 Tryz.f75 bO tT vT=some ([(true,8)],kw):=by kernel_rfl
def BS:List aQ:=[⟨3000003,2,⟨[aa 11 12,aa 10 10,aa 9 2,aa 3 13,aa 2 8,aC 1 0 0 0,(0,.p true [.d 0,.d 1,.d 2,.d 3,.d 4,.d 5,.d 6,.d 7])],[(0,.var 0 35 [.d 0,.d 1,.d 2,.d 3,.d 4,.d 5,.d 6,.d 7])],1,1,14,[]⟩,[]⟩]
def A4:List (Nat×Nat×Bool×List Nat):=[]
def nV:UP:=.b .lss 1 3<|.ite 0 (.z 2<|.x 8 6 2<|.i 0<|.i 0<|.i 0<|.sel [3,4,5,6,7,8,9,10,12,13]<|.cl 109 [(true,[7,6,5,4,3,2,1,0])] au<|.a 9 0<|.i 1<|.a 12 0<|.jump 0 [0,2])<|.c 1<|.r 1
def oP:UP:=.i 0<|.cl 77 [(true,[8,7,6,5,4,3,2,1])] au<|.l 7<|.i 0<|.sel [0,1,2,9]<|.loop [0,2] nV
theorem AD:aM Tryz.prog 109 Tryz.f109 bO BS A4=some ([(true,8)],oP):=by kernel_rfl
def ve:List aQ:=[]
def uM:List (Nat×Nat×Bool×List Nat):=[]
def kF:UP:=.f<|.i 1<|.e 9 0<|.ite 0 (.t<|.t<|.c 0<|.r 0)<|.i 2<|.e 11 0<|.ite 0 (.t<|.c 0<|.r 0)<|.i 3<|.e 13 0<|.c 0<|.r 0
theorem wo:aM Tryz.prog 105 Tryz.f105 bO ve uM=some ([(true,8)],kF):=by kernel_rfl
def yF:List aQ:=[]
def zA:List (Nat×Nat×Bool×List Nat):=[]
def nQ:UP:=.i 0<|.i 5<|.e 9 0<|.ite 0 (.i 1<|.c 0<|.r 0)<|.l 9<|.l 9<|.a 1 0<|.c 0<|.r 0
theorem yY:aM Tryz.prog 77 Tryz.f77 bO yF zA=some ([(true,8)],nQ):=by kernel_rfl
def Cn:List aQ:=[⟨3000005,2,⟨[aa 13 15,aa 12 13,aa 11 2,aa 9 12,aa 5 16,aa 4 9,aC 2 0 0 0,(0,.p true [.d 0,.d 1,.d 2,.d 3,.d 4,.d 5,.d 6,.d 7]),aa 1 8],[(0,.var 0 35 [.d 0,.d 1,.d 2,.d 3,.d 4,.d 5,.d 6,.d 7])],1,1,17,[(12,false)]⟩,[]⟩]
def CF:List (Nat×Nat×Bool×List Nat):=[]
def oE:UP:=.b .lss 1 3<|.ite 0 (.z 2<|.x 8 7 2<|.i 0<|.i 0<|.i 0<|.i 1<|.b .sub 18 0<|.sel [0,5,6,7,8,9,10,11,12,14,15]<|.cl 107 [(true,[8,7,6,5,4,3,2,1]),(false,[0])] au<|.i 1<|.a 0 1<|.po (.mm true 12 0)<|.i 1<|.a 15 0<|.jump 0 [0,2])<|.c 1<|.r 1
def ll:UP:=.i 0<|.i 0<|.i 0<|.e 3 0<|.ite 0 (.i 1<|.c 0<|.r 0)<|.l 10<|.i 0<|.sel [0,1,4,6,12]<|.loop [0,2] oE
theorem rE:aM Tryz.prog 107 Tryz.f107 bO Cn CF=some ([(true,8),(false,1)],ll):=by kernel_rfl
def rh:List aQ:=[⟨3000004,1,⟨[aa 11 13,aa 10 11,aa 9 2,aa 7 10,aa 2 8,aC 1 0 0 0,(0,.p true [.d 0,.d 1,.d 2,.d 3,.d 4,.d 5,.d 6,.d 7])],[(0,.var 0 35 [.d 0,.d 1,.d 2,.d 3,.d 4,.d 5,.d 6,.d 7])],1,1,14,[(10,false),(8,false)]⟩,[]⟩]
def qR:List (Nat×Nat×Bool×List Nat):=[]
def ge:UP:=.b .lss 0 2<|.ite 0 (.z 1<|.x 8 4 1<|.i 0<|.i 0<|.i 0<|.sel [3,4,5,6,7,8,9,10,12]<|.cl 108 [(true,[7,6,5,4,3,2,1,0])] au<|.n 0<|.ite 0 (.f<|.c 0<|.r 0)<|.i 1<|.a 11 0<|.jump 0 [0])<|.t<|.c 0<|.r 0
def iP:UP:=.f<|.cl 123 [(true,[8,7,6,5,4,3,2,1])] au<|.n 0<|.ite 0 (.f<|.c 0<|.r 0)<|.l 8<|.i 0<|.sel [0,1,10]<|.loop [0] ge
theorem qS:aM Tryz.prog 108 Tryz.f108 bO rh qR=some ([(true,8)],iP):=by kernel_rfl
def ro:List aQ:=[⟨2000003,5,⟨[aa 187 35,aa 160 36,aC 7 1 1 0,aa 148 34,aa 147 33,aa 146 31,aa 145 1,aa 143 30,aa 128 29,aa 93 28,aa 80 27,aa 54 26,aa 53 25,aa 52 23,aa 51 3,aa 49 22,aa 33 21,aa 3 9,aa 2 8,aC 1 0 0 0,(0,.p true [.d 0,.d 1,.d 2,.d 3,.d 4,.d 5,.d 6,.d 7])],[(0,.var 0 35 [.d 0,.d 1,.d 2,.d 3,.d 4,.d 5,.d 6,.d 7]),(1,.var 1 78 [.d 37,.d 38,.d 39])],2,2,40,[(34,true),(30,false),(29,false),(28,false),(27,false),(26,false),(22,false),(21,false),(18,false),(15,false),(13,false),(11,false),(8,false)]⟩,[]⟩,⟨3000021,1,⟨[aa 147 33,aa 146 31,aa 145 1,aa 143 30,aa 128 29,aa 93 28,aa 80 27,aa 54 26,aa 53 25,aa 52 23,aa 51 3,aa 49 22,aa 33 21,aa 3 9,aa 2 8,aC 1 0 0 0,(0,.p true [.d 0,.d 1,.d 2,.d 3,.d 4,.d 5,.d 6,.d 7])],[(0,.var 0 35 [.d 0,.d 1,.d 2,.d 3,.d 4,.d 5,.d 6,.d 7])],1,1,34,[(30,false),(29,false),(28,false),(27,false),(26,false),(22,false),(21,false),(18,false),(15,false),(13,false),(11,false),(8,false)]⟩,[]⟩,⟨18,1,⟨[aa 143 30,aa 128 29,aa 93 28,aa 80 27,aa 54 26,aa 53 25,aa 52 23,aa 51 3,aa 49 22,aa 33 21,aa 3 9,aa 2 8,aC 1 0 0 0,(0,.p true [.d 0,.d 1,.d 2,.d 3,.d 4,.d 5,.d 6,.d 7])],[(0,.var 0 35 [.d 0,.d 1,.d 2,.d 3,.d 4,.d 5,.d 6,.d 7])],1,1,31,[(29,false),(28,false),(27,false),(26,false),(22,false),(21,false),(18,false),(15,false),(13,false),(11,false),(8,false)]⟩,[]⟩,⟨16,1,⟨[aa 128 29,aa 93 28,aa 80 27,aa 54 26,aa 53 25,aa 52 23,aa 51 3,aa 49 22,aa 33 21,aa 3 9,aa 2 8,aC 1 0 0 0,(0,.p true [.d 0,.d 1,.d 2,.d 3,.d 4,.d 5,.d 6,.d 7])],[(0,.var 0 35 [.d 0,.d 1,.d 2,.d 3,.d 4,.d 5,.d 6,.d 7])],1,1,30,[(28,false),(27,false),(26,false),(22,false),(21,false),(18,false),(15,false),(13,false),(11,false),(8,false)]⟩,[]⟩,⟨14,1,⟨[aa 93 28,aa 80 27,aa 54 26,aa 53 25,aa 52 23,aa 51 3,aa 49 22,aa 33 21,aa 3 9,aa 2 8,aC 1 0 0 0,(0,.p true [.d 0,.d 1,.d 2,.d 3,.d 4,.d 5,.d 6,.d 7])],[(0,.var 0 35 [.d 0,.d 1,.d 2,.d 3,.d 4,.d 5,.d 6,.d 7])],1,1,29,[(27,false),(26,false),(22,false),(21,false),(18,false),(15,false),(13,false),(11,false),(8,false)]⟩,[]⟩,⟨12,1,⟨[aa 80 27,aa 54 26,aa 53 25,aa 52 23,aa 51 3,aa 49 22,aa 33 21,aa 3 9,aa 2 8,aC 1 0 0 0,(0,.p true [.d 0,.d 1,.d 2,.d 3,.d 4,.d 5,.d 6,.d 7])],[(0,.var 0 35 [.d 0,.d 1,.d 2,.d 3,.d 4,.d 5,.d 6,.d 7])],1,1,28,[(26,false),(22,false),(21,false),(18,false),(15,false),(13,false),(11,false),(8,false)]⟩,[]⟩,⟨3000007,1,⟨[aa 53 25,aa 52 23,aa 51 3,aa 49 22,aa 33 21,aa 3 9,aa 2 8,aC 1 0 0 0,(0,.p true [.d 0,.d 1,.d 2,.d 3,.d 4,.d 5,.d 6,.d 7])],[(0,.var 0 35 [.d 0,.d 1,.d 2,.d 3,.d 4,.d 5,.d 6,.d 7])],1,1,26,[(22,false),(21,false),(18,false),(15,false),(13,false),(11,false),(8,false)]⟩,[]⟩,⟨4,1,⟨[aa 49 22,aa 33 21,aa 3 9,aa 2 8,aC 1 0 0 0,(0,.p true [.d 0,.d 1,.d 2,.d 3,.d 4,.d 5,.d 6,.d 7])],[(0,.var 0 35 [.d 0,.d 1,.d 2,.d 3,.d 4,.d 5,.d 6,.d 7])],1,1,23,[(21,false),(18,false),(15,false),(13,false),(11,false),(8,false)]⟩,[]⟩]
def qA:List (Nat×Nat×Bool×List Nat):=[]
def dJ:UP:=.i 1<|.a 7 0<|.jump 1 [0]
def gq:UP:=.b .lss 0 2<|.ite 0 (.join 5 dJ<|.z 1<|.x 3 10 1<|.i 0<|.i 0<|.s #[]<|.sel [3,4,5,10,11,12,13,14,15,16,17]<|.cl 105 [(true,[10,9,8,7,6,5,4,3])] au<|.n 0<|.ite 0 (.t<|.f<|.c 0<|.r 0)<|.sel [2,3,4,7,12]<|.cl 132 [(false,[4]),(true,[2,1,0])] au<|.n 0<|.ite 0 (.f<|.c 0<|.r 0)<|.l 5<|.i 0<|.b .gtr 1 0<|.ite 0 (.sel [3,5,6,7,8]<|.cl 74 [(true,[3,2,1])] au<|.n 0<|.ite 0 (.i 1<|.b .neq 5 0<|.ite 0 (.t<|.t<|.f<|.c 0<|.r 0)<|.i 1<|.b .lss 8 0<|.ite 0 (.t<|.f<|.c 0<|.r 0)<|.l 10<|.b .gtr 10 0<|.ite 0 (.f<|.c 0<|.r 0)<|.jump 2 [0,8,11,10,9])<|.f<|.jump 2 [0,3,6,5,4])<|.f<|.f<|.jump 2 [0,5,9,8,7])<|.t<|.c 0<|.r 0
def gM:UP:=.ite 0 (.f<|.c 0<|.r 0)<|.l 10<|.i 0<|.sel [0,1,6,7,8,9,10,11,12,13]<|.loop [0] gq
def gO:UP:=.ite 0 (.f<|.c 0<|.r 0)<|.join 1 gM<|.i 0<|.e 11 0<|.ite 0 (.l 11<|.i 0<|.b .gtr 1 0<|.ite 0 (.t<|.jump 1 [0])<|.l 11<|.i 0<|.b .gtr 1 0<|.jump 1 [0])<|.f<|.jump 1 [0]
def gH:UP:=.ite 0 (.f<|.c 0<|.r 0)<|.join 1 gO<|.i 5<|.e 10 0<|.ite 0 (.l 10<|.i 0<|.b .gtr 1 0<|.ite 0 (.t<|.t<|.t<|.t<|.t<|.jump 1 [0])<|.l 11<|.i 0<|.b .gtr 1 0<|.ite 0 (.t<|.t<|.t<|.t<|.jump 1 [0])<|.i (-999)<|.b .lss 12 0<|.ite 0 (.t<|.t<|.t<|.jump 1 [0])<|.i 99999<|.b .gtr 14 0<|.ite 0 (.t<|.t<|.jump 1 [0])<|.i 0<|.b .lss 15 0<|.ite 0 (.t<|.jump 1 [0])<|.i 99999<|.b .gtr 17 0<|.jump 1 [0])<|.f<|.jump 1 [0]
def gr:UP:=.ite 0 (.f<|.c 0<|.r 0)<|.join 1 gH<|.i 5<|.b .neq 9 0<|.ite 0 (.i 0<|.b .neq 5 0<|.ite 0 (.t<|.jump 1 [0])<|.i 0<|.b .neq 6 0<|.jump 1 [0])<|.f<|.jump 1 [0]
def gV:UP:=.b .lss 0 2<|.ite 0 (.z 1<|.x 1 10 1<|.m 0<|.i 60<|.b .gtr 1 0<|.ite 0 (.f<|.c 0<|.r 0)<|.i 1<|.a 6 0<|.jump 0 [0])<|.sel [6,7,8,9,10,11,12,13]<|.join 1 gr<|.l 2<|.i 0<|.b .gtr 1 0<|.ite 0 (.i 2<|.b .neq 11 0<|.ite 0 (.t<|.jump 1 [0])<|.l 10<|.i 0<|.b .gtr 1 0<|.ite 0 (.i 4<|.b .neq 16 0<|.jump 1 [0])<|.f<|.jump 1 [0])<|.f<|.l 9<|.i 0<|.b .gtr 1 0<|.ite 0 (.i 4<|.b .neq 15 0<|.jump 1 [0])<|.f<|.jump 1 [0]
def gG:UP:=.ite 0 (.f<|.c 0<|.r 0)<|.l 6<|.i 0<|.loop [0] gV
def iA:UP:=.f<|.cl 77 [(true,[8,7,6,5,4,3,2,1])] au<|.i 0<|.b .lss 10 0<|.ite 0 (.t<|.t<|.t<|.t<|.f<|.c 0<|.r 0)<|.i 5<|.b .gtr 12 0<|.ite 0 (.t<|.t<|.t<|.f<|.c 0<|.r 0)<|.i 40<|.b .gtr 5 0<|.ite 0 (.t<|.t<|.f<|.c 0<|.r 0)<|.i 3<|.sel [0,7,9,10,11,12,13,14,15,16]<|.cl 131 [(false,[5]),(false,[0])] au<|.n 0<|.ite 0 (.t<|.f<|.c 0<|.r 0)<|.i 20<|.cl 131 [(false,[7]),(false,[0])] au<|.n 0<|.ite 0 (.f<|.c 0<|.r 0)<|.sel [6,7,8,9,10,11,12,13,14]<|.join 1 gG<|.l 5<|.i 0<|.b .gtr 1 0<|.ite 0 (.l 8<|.b .neq 0 4<|.ite 0 (.t<|.jump 0 [0])<|.sel [10]<|.cl 110 [(false,[0])] au<|.jump 0 [0])<|.f<|.jump 0 [0]
theorem qQ:aM Tryz.prog 123 Tryz.f123 bO ro qA=some ([(true,8)],iA):=by kernel_rfl
theorem xN(k:Int)(its:List It)(ps:List aX)(ns cl lv:List ByteArray)(c e:Int)(hb:X5 its ps ns cl lv):aB Tryz.prog 77 [(true,ap (.mk k its ps ns cl lv c e))] [(false,[.sc (.int .i64 (lC k its.length ps.length))],true)]:=by
 obtain⟨b1,b2,-,-,-,-⟩:=hb;simp only[ap,al,aq];refine ah Tryz.func77 yY rfl ?_;simp only[nQ];unfold lC
 repeat' (first|(with_reducible first|refine ae ?_|refine ac ‹_› rfl ?_|refine ab ‹_› rfl ?_|refine ak (λhbr=>?_) λhbr=>?_)|simp(disch:=first|omega|(simp only[ax];omega)|simp only[av,Nat.reduceAdd]) only[go_sem,true_and])
 ·rw[if_pos ‹_›];rfl
 ·rw[if_neg ‹_›];rfl
def Qr(k:Int):Bool:=decide (k=1)||(decide (k=2)||decide (k=3))
theorem M8(v:aX)(k:Int)(hk:∃its ps ns cl lv c e,v=.mk k its ps ns cl lv c e):aB Tryz.prog 105 [(true,ap v)] [(false,[.sc (.bool (Qr k))],true)]:=by
 obtain⟨its,ps,ns,cl,lv,c,e,rfl⟩:=hk;simp only[ap,al,aq];refine ah Tryz.func105 wo rfl ?_;simp only[kF];unfold Qr
 repeat' (first|(with_reducible first|refine ae ?_|refine ac ‹_› rfl ?_|refine ab ‹_› rfl ?_|refine ak (λhbr=>?_) λhbr=>?_)|simp(disch:=first|omega|(simp only[ax];omega)|simp only[av,Nat.reduceAdd]) only[go_sem,true_and])
 all_goals exact aO (by simp[*])
theorem Yx(n:Nat):decide (0<(n:Int))= !decide (n=0):=by rw[Bool.eq_iff_iff];simp;omega
def hA(k n:Int)(cl lv:List ByteArray):Bool:=decide (0<=k/\k<=5)&&(decide (n<=40)&&(dc cl 3&&dc lv 20))
def hB(n:Int)(ns:List ByteArray):Bool:=decide (ns.length=0)||(decide ((ns.length:Int)=n)&& !bg (Cc ns) ns.length)
def hC(k:Int)(np nl:Nat):Bool:=(decide (nl=0)||decide (k=2))&&(decide (np=0)||decide (k=4))
def hD(k c e:Int):Bool:=decide (k=5)||(decide (c=0)&&decide (e=0))
def hE(k c e:Int)(ni nn:Nat):Bool:=!decide (k=5)||(decide (ni=0)&&(decide (nn=0)&&(decide (-999<=c/\c<=99999)&&decide (0<=e/\e<=99999))))
def hF(k:Int)(ni nc:Nat):Bool:=!decide (k=0)||(decide (ni=0)&&decide (nc=0))
def KG(k:Int)(m:Nat)(x:It):Bool:=Qr k&&(DZ k x&&(decide (m=0)||(decide (x=bC)||(decide (x.den=1)&&decide (1<=x.num/\x.num<=(m:Int))))))
def hh(k n:Int)(its:List It)(np:Nat)(ns cl lv:List ByteArray)(c e:Int):Bool:=
 hA k n cl lv&&(hB n ns&&(bg (q9 ns) ns.length&&(hC k np lv.length&&(hD k c e&&(hE k c e its.length ns.length&&(hF k its.length cl.length&&bg (λj=>KG k lv.length (its.getD j default)) its.length))))))
theorem Us(k:Int)(m:Nat)(x:It):KG k m x=(Qr k&&dk k m x):=by
 unfold KG dk;cases hv:DZ k x
 ·rfl
 ·have:=mW hv;rw[show decide (x=bC)=decide (x.den=0)from by rw[Bool.eq_iff_iff,decide_eq_true_eq,decide_eq_true_eq];exact this]
theorem Ll(b:Bool)(p:Nat->Bool)(n:Nat):bg (λj=>b&&p j) n=(decide (n=0)||(b&&bg p n)):=by
 cases n with
 |zero=>rfl
 |succ n=>
  rw[decide_eq_false (by omega),Bool.false_or];cases b
  ·rw[Bool.false_and];exact bB (i:=0) (by omega) rfl
  ·simp only[Bool.true_and]
theorem XQ(k:Int)(its:List It)(np:Nat)(ns cl lv:List ByteArray)(c e:Int):hh k (lC k its.length np) its np ns cl lv c e=wD k its np ns cl lv c e:=by
 unfold hh wD;rw[show(λj=>KG k lv.length (its.getD j default))=(λj=>Qr k&&dk k lv.length (its.getD j default))from funext λj=>Us _ _ _,Ll];unfold hA hB hC hD hE hF gA gB gC QC Qr;have hl:=D4 k its.length np;have hz:k=0->(lC k its.length np=(its.length:Int)+np):=λh=>by unfold lC;rw[if_neg (by omega)]
 have hx1:its.length=0->bg (λj=>dk k lv.length (its.getD j default)) its.length=true:=λh=>by rw[h];rfl
 generalize hln:lC k its.length np=ln at *;generalize bg (λj=>dk k lv.length (its.getD j default)) its.length=x1 at hx1 ⊢;generalize bg (q9 ns) ns.length=x2;generalize bg (Cc ns) ns.length=x3;generalize dc cl 3=x4;generalize dc lv 20=x5;generalize ns.length=nn at *;generalize cl.length=nc at *;generalize lv.length=nl at *;generalize its.length=ni at *;cases x4
 ·simp
 cases x5
 ·simp
 cases x2
 ·simp
 rw[Bool.eq_iff_iff];by_cases k5:k=5
 ·subst k5;cases x1<;>cases x3<;>grind
 by_cases k0:k=0
 ·subst k0;cases x1<;>cases x3<;>grind
 by_cases k4:k=4
 ·subst k4;cases x1<;>cases x3<;>grind
 rw[if_neg k5,if_neg k0,if_neg k4];cases x1<;>cases x3<;>grind
set_option maxHeartbeats 4000000 in
theorem S5(v:aX)(k:Int)(its:List It)(ps:List aX)(ns cl lv:List ByteArray)(c e:Int)(hve:v=.mk k its ps ns cl lv c e)(hb:X5 its ps ns cl lv):aB Tryz.prog 123 [(true,ap v)] [(false,[.sc (.bool (wD k its ps.length ns cl lv c e))],true)]:=by
 have h0:=M8 v k ⟨_,_,_,_,_,_,_,hve⟩;subst hve;have h1:=xN k its ps ns cl lv c e hb;obtain⟨b1,b2,b3,b4,b5,b6⟩:=hb;have h2:=Ox 9 ns b3;have h3:=LM 9 cl 3 b4;have h4:=LM 9 lv 20 b5;have h8:=λi=>QD k (its.getD i default)
 have h9:=λi=>fX (its.getD i default)
 simp only[ao]at h8 h9;rw[<-XQ];have hlen:=EH (k:=k) b1 b2;unfold hh;generalize hln:lC k its.length ps.length=ln at *;simp only[ap,al,aq]at h0 h1 ⊢;refine ah Tryz.func123 qQ rfl ?_;simp only[iA];simp(disch:=first|omega|(simp only[ax];omega)|simp only[av,Nat.reduceAdd]) only[go_sem,true_and];refine ac h1 rfl ?_;have hA0:hA k ln cl lv=false->∀b,(hA k ln cl lv&&b)=false:=λh b=>by rw[h];rfl
 simp(disch:=first|omega|(simp only[ax];omega)|simp only[av,Nat.reduceAdd]) only[go_sem,true_and];refine eJ (λhk1=>?_) (λhk1=>?_)
 ·repeat' (first|(with_reducible first|refine ae ?_|refine ac ‹_› rfl ?_|refine ab ‹_› rfl ?_|refine ak (λhbr=>?_) λhbr=>?_)|simp(disch:=first|omega|(simp only[ax];omega)|simp only[av,Nat.reduceAdd]) only[go_sem,true_and])
  exact aO (hA0 (by unfold hA;rw[decide_eq_false (by omega)];rfl) _)
 simp(disch:=first|omega|(simp only[ax];omega)|simp only[av,Nat.reduceAdd]) only[go_sem,true_and];refine eJ (λhk2=>?_) (λhk2=>?_)
 ·repeat' (first|(with_reducible first|refine ae ?_|refine ac ‹_› rfl ?_|refine ab ‹_› rfl ?_|refine ak (λhbr=>?_) λhbr=>?_)|simp(disch:=first|omega|(simp only[ax];omega)|simp only[av,Nat.reduceAdd]) only[go_sem,true_and])
  exact aO (hA0 (by unfold hA;rw[decide_eq_false (by omega)];rfl) _)
 simp(disch:=first|omega|(simp only[ax];omega)|simp only[av,Nat.reduceAdd]) only[go_sem,true_and];refine eJ (λhk3=>?_) (λhk3=>?_)
 ·repeat' (first|(with_reducible first|refine ae ?_|refine ac ‹_› rfl ?_|refine ab ‹_› rfl ?_|refine ak (λhbr=>?_) λhbr=>?_)|simp(disch:=first|omega|(simp only[ax];omega)|simp only[av,Nat.reduceAdd]) only[go_sem,true_and])
  exact aO (hA0 (by unfold hA;rw[decide_eq_false (show¬ln<=40 by omega),Bool.false_and,Bool.and_false]) _)
 simp(disch:=first|omega|(simp only[ax];omega)|simp only[av,Nat.reduceAdd]) only[go_sem,true_and];refine ac h3 rfl ?_;cases hx3:dc cl 3
 ·repeat' (first|(with_reducible first|refine ae ?_|refine ac ‹_› rfl ?_|refine ab ‹_› rfl ?_|refine ak (λhbr=>?_) λhbr=>?_)|simp(disch:=first|omega|(simp only[ax];omega)|simp only[av,Nat.reduceAdd]) only[go_sem,true_and])
  exact aO (hA0 (by unfold hA;rw[hx3,Bool.false_and,Bool.and_false,Bool.and_false]) _)
 simp(disch:=first|omega|(simp only[ax];omega)|simp only[av,Nat.reduceAdd]) only[go_sem,true_and];refine ac h4 rfl ?_;cases hx4:dc lv 20
 ·repeat' (first|(with_reducible first|refine ae ?_|refine ac ‹_› rfl ?_|refine ab ‹_› rfl ?_|refine ak (λhbr=>?_) λhbr=>?_)|simp(disch:=first|omega|(simp only[ax];omega)|simp only[av,Nat.reduceAdd]) only[go_sem,true_and])
  exact aO (hA0 (by unfold hA;rw[hx4,Bool.and_false,Bool.and_false,Bool.and_false]) _)
 have hA1:hA k ln cl lv=true:=by unfold hA;rw[hx3,hx4,decide_eq_true (show 0<=k/\k<=5 by omega),decide_eq_true (show ln<=40 by omega)];rfl
 rw[hA1,Bool.true_and];clear hA0 hx3 hx4;simp(disch:=first|omega|(simp only[ax];omega)|simp only[av,Nat.reduceAdd]) only[go_sem,true_and];refine yg [.sc (.bool (!hB ln ns))] ?_ ?_
 ·unfold hB
  repeat' (first|(with_reducible first|refine ae ?_|refine ac ‹_› rfl ?_|refine ab ‹_› rfl ?_|refine ak (λhbr=>?_) λhbr=>?_)|simp(disch:=first|omega|(simp only[ax];omega)|simp only[av,Nat.reduceAdd]) only[go_sem,true_and])
  all_goals first
   |(refine bb ?_;simp[*];done)
   |(refine bb ?_;simp_all;done)
   |(refine bb ?_;grind)
   |skip
 simp only[gG];cases hxB:hB ln ns
 ·repeat' (first|(with_reducible first|refine ae ?_|refine ac ‹_› rfl ?_|refine ab ‹_› rfl ?_|refine ak (λhbr=>?_) λhbr=>?_)|simp(disch:=first|omega|(simp only[ax];omega)|simp only[av,Nat.reduceAdd]) only[go_sem,true_and])
  all_goals exact aO rfl
 rw[Bool.true_and];simp(disch:=first|omega|(simp only[ax];omega)|simp only[av,Nat.reduceAdd]) only[go_sem,true_and];refine lp (λi:Nat=>[.sc (.int .i64 i)]) (λi=>i<=ns.length/\bg (q9 ns) i=true) (λi=>ns.length-i) 0 rfl ⟨Nat.zero_le _,rfl⟩ ?_;rintro i ⟨hi,ha⟩;simp only[gV];by_cases hlt:i<ns.length
 ·simp(disch:=first|omega|(simp only[ax];omega)|simp only[av,Nat.reduceAdd]) only[go_sem,true_and];refine eJ (λhx=>?_) (λhx=>absurd (by omega) hx)
  repeat' (first|(with_reducible first|refine ae ?_|refine ac ‹_› rfl ?_|refine ab ‹_› rfl ?_|refine ak (λhbr=>?_) λhbr=>?_)|simp(disch:=first|omega|(simp only[ax];omega)|simp only[av,Nat.reduceAdd]) only[go_sem,true_and])
  all_goals first
   |omega
   |exact aO (by rw[bB (p:=q9 ns) hlt (by(first|(simp[-List.getD_eq_getElem?_getD,q9, *];done)|(simp_all[-List.getD_eq_getElem?_getD,q9];done)|(simp[-List.getD_eq_getElem?_getD,q9, *];omega)|(simp_all[-List.getD_eq_getElem?_getD,q9];omega)|omega)),Bool.false_and])
   |exact⟨i+1,rfl,⟨by omega,bf ha (by(first|(simp[-List.getD_eq_getElem?_getD,q9, *];done)|(simp_all[-List.getD_eq_getElem?_getD,q9];done)|(simp[-List.getD_eq_getElem?_getD,q9, *];omega)|(simp_all[-List.getD_eq_getElem?_getD,q9];omega)|omega))⟩,by omega⟩
   |skip
 obtain rfl:i=ns.length:=by omega
 rw[ha,Bool.true_and];simp(disch:=first|omega|(simp only[ax];omega)|simp only[av,Nat.reduceAdd]) only[go_sem,true_and];refine eJ (λhx=>absurd hx (by omega)) (λ_=>?_);simp(disch:=first|omega|(simp only[ax];omega)|simp only[av,Nat.reduceAdd]) only[go_sem,true_and];refine yg [.sc (.bool (!hC k ps.length lv.length))] ?_ ?_
 ·unfold hC
  repeat' (first|(with_reducible first|refine ae ?_|refine ac ‹_› rfl ?_|refine ab ‹_› rfl ?_|refine ak (λhbr=>?_) λhbr=>?_)|simp(disch:=first|omega|(simp only[ax];omega)|simp only[av,Nat.reduceAdd]) only[go_sem,true_and])
  all_goals first
   |(refine bb ?_;simp[*];done)
   |(refine bb ?_;simp_all;done)
   |(refine bb ?_;grind)
   |skip
 simp only[gr];cases hxC:hC k ps.length lv.length
 ·repeat' (first|(with_reducible first|refine ae ?_|refine ac ‹_› rfl ?_|refine ab ‹_› rfl ?_|refine ak (λhbr=>?_) λhbr=>?_)|simp(disch:=first|omega|(simp only[ax];omega)|simp only[av,Nat.reduceAdd]) only[go_sem,true_and])
  all_goals exact aO rfl
 rw[Bool.true_and];simp(disch:=first|omega|(simp only[ax];omega)|simp only[av,Nat.reduceAdd]) only[go_sem,true_and];refine yg [.sc (.bool (!hD k c e))] ?_ ?_
 ·unfold hD
  repeat' (first|(with_reducible first|refine ae ?_|refine ac ‹_› rfl ?_|refine ab ‹_› rfl ?_|refine ak (λhbr=>?_) λhbr=>?_)|simp(disch:=first|omega|(simp only[ax];omega)|simp only[av,Nat.reduceAdd]) only[go_sem,true_and])
  all_goals first
   |(refine bb ?_;simp[*];done)
   |(refine bb ?_;simp_all;done)
   |(refine bb ?_;grind)
   |skip
 simp only[gH];cases hxD:hD k c e
 ·repeat' (first|(with_reducible first|refine ae ?_|refine ac ‹_› rfl ?_|refine ab ‹_› rfl ?_|refine ak (λhbr=>?_) λhbr=>?_)|simp(disch:=first|omega|(simp only[ax];omega)|simp only[av,Nat.reduceAdd]) only[go_sem,true_and])
  all_goals exact aO rfl
 rw[Bool.true_and];simp(disch:=first|omega|(simp only[ax];omega)|simp only[av,Nat.reduceAdd]) only[go_sem,true_and];refine yg [.sc (.bool (!hE k c e its.length ns.length))] ?_ ?_
 ·unfold hE
  repeat' (first|(with_reducible first|refine ae ?_|refine ac ‹_› rfl ?_|refine ab ‹_› rfl ?_|refine ak (λhbr=>?_) λhbr=>?_)|simp(disch:=first|omega|(simp only[ax];omega)|simp only[av,Nat.reduceAdd]) only[go_sem,true_and])
  all_goals first
   |(refine bb ?_;simp[*];done)
   |(refine bb ?_;simp_all;done)
   |(refine bb ?_;grind)
   |(refine bb ?_
     rw[decide_eq_true (show k=5 by assumption),decide_eq_true (show its.length=0 by omega),decide_eq_true (show ns.length=0 by omega),decide_eq_true (show -999<=c/\c<=99999 by omega),show decide (0<=e/\e<=99999)= !decide (99999<e)from by rw[Bool.eq_iff_iff];simp;omega]
     simp;done)
   |skip
 simp only[gO];cases hxE:hE k c e its.length ns.length
 ·repeat' (first|(with_reducible first|refine ae ?_|refine ac ‹_› rfl ?_|refine ab ‹_› rfl ?_|refine ak (λhbr=>?_) λhbr=>?_)|simp(disch:=first|omega|(simp only[ax];omega)|simp only[av,Nat.reduceAdd]) only[go_sem,true_and])
  all_goals exact aO rfl
 rw[Bool.true_and];simp(disch:=first|omega|(simp only[ax];omega)|simp only[av,Nat.reduceAdd]) only[go_sem,true_and];refine yg [.sc (.bool (!hF k its.length cl.length))] ?_ ?_
 ·unfold hF
  repeat' (first|(with_reducible first|refine ae ?_|refine ac ‹_› rfl ?_|refine ab ‹_› rfl ?_|refine ak (λhbr=>?_) λhbr=>?_)|simp(disch:=first|omega|(simp only[ax];omega)|simp only[av,Nat.reduceAdd]) only[go_sem,true_and])
  all_goals first
   |(refine bb ?_;simp[*];done)
   |(refine bb ?_;simp_all;done)
   |(refine bb ?_;grind)
   |(refine bb ?_
     rw[decide_eq_true (show k=0 by assumption),decide_eq_true (show its.length=0 by omega),Yx]
     simp;done)
   |skip
 simp only[gM];cases hxF:hF k its.length cl.length
 ·repeat' (first|(with_reducible first|refine ae ?_|refine ac ‹_› rfl ?_|refine ab ‹_› rfl ?_|refine ak (λhbr=>?_) λhbr=>?_)|simp(disch:=first|omega|(simp only[ax];omega)|simp only[av,Nat.reduceAdd]) only[go_sem,true_and])
  all_goals exact aO rfl
 rw[Bool.true_and];simp(disch:=first|omega|(simp only[ax];omega)|simp only[av,Nat.reduceAdd]) only[go_sem,true_and];refine lp (λi:Nat=>[.sc (.int .i64 i)]) (λi=>i<=its.length/\bg (λj=>KG k lv.length (its.getD j default)) i=true) (λi=>its.length-i) 0 rfl ⟨Nat.zero_le _,rfl⟩ ?_;rintro i ⟨hi2,ha2⟩;simp only[gq];by_cases hlt2:i<its.length
 ·have h8i:=h8 i;have h9i:=h9 i;cases hat:Qr k
  ·rw[hat]at h0
   repeat' (first|(with_reducible first|refine ae ?_|refine ac ‹_› rfl ?_|refine ab ‹_› rfl ?_|refine ak (λhbr=>?_) λhbr=>?_)|simp(disch:=first|omega|(simp only[ax];omega)|simp only[av,Nat.reduceAdd]) only[go_sem,dJ,cD,ao])
   all_goals first
    |omega
    |exact aO (by rw[bB (p:=λj=>KG k lv.length (its.getD j default)) hlt2 (by unfold KG;rw[hat];rfl)])
    |skip
  ·rw[hat]at h0
   repeat' (first|(with_reducible first|refine ae ?_|refine ac ‹_› rfl ?_|refine ab ‹_› rfl ?_|refine ak (λhbr=>?_) λhbr=>?_)|simp(disch:=first|omega|(simp only[ax];omega)|simp only[av,Nat.reduceAdd]) only[go_sem,dJ,cD,ao])
   all_goals first
    |omega
    |exact aO (by rw[bB (p:=λj=>KG k lv.length (its.getD j default)) hlt2 (by unfold KG;rw[hat];(first|(simp[-List.getD_eq_getElem?_getD,true_and, *];done)|(simp_all[-List.getD_eq_getElem?_getD,true_and];done)|(simp[-List.getD_eq_getElem?_getD,true_and, *];omega)|(simp_all[-List.getD_eq_getElem?_getD,true_and];omega)|omega))])
    |exact aO (by rw[bB (p:=λj=>KG k lv.length (its.getD j default)) hlt2 (by grind [KG])])
    |exact⟨i+1,rfl,⟨by omega,bf ha2 (by unfold KG;rw[hat];(first|(simp[-List.getD_eq_getElem?_getD,true_and, *];done)|(simp_all[-List.getD_eq_getElem?_getD,true_and];done)|(simp[-List.getD_eq_getElem?_getD,true_and, *];omega)|(simp_all[-List.getD_eq_getElem?_getD,true_and];omega)|omega))⟩,by omega⟩
    |exact⟨i+1,rfl,⟨by omega,bf ha2 (by grind [KG])⟩,by omega⟩
    |skip
 obtain rfl:i=its.length:=by omega
 repeat' (first|(with_reducible first|refine ae ?_|refine ac ‹_› rfl ?_|refine ab ‹_› rfl ?_|refine ak (λhbr=>?_) λhbr=>?_)|simp(disch:=first|omega|(simp only[ax];omega)|simp only[av,Nat.reduceAdd]) only[go_sem,true_and])
 all_goals first|omega|exact aO ha2|skip
def YC(n:Nat):Prop:=∀v,ck v<=1000000000->LZ n v=true->aB Tryz.prog 108 [(true,ap v)] [(false,[.sc (.bool (d9 n v))],true)]
theorem Fv(n:Nat)(ih:∀m,n=m+1->YC m):YC n:=by
 intro v hw hd
 have hv:∃k its ps ns cl lv c e,v=.mk k its ps ns cl lv c e:=by
  obtain⟨k,its,ps,ns,cl,lv,c,e⟩:=v;exact⟨_,_,_,_,_,_,_,_,rfl⟩
 obtain⟨k,its,ps,ns,cl,lv,c,e,hve⟩:=hv;subst hve;have hb:=BO hw;have h1:=S5 _ k its ps ns cl lv c e rfl hb;obtain⟨b1,b2,b3,b4,b5,b6⟩:=hb;rw[eD];generalize wD k its ps.length ns cl lv c e=sb at *;simp only[ap,al,aq]at h1 ⊢;refine ah Tryz.func108 qS rfl ?_;simp only[iP];simp(disch:=first|omega|(simp only[ax];omega)|simp only[av,Nat.reduceAdd]) only[go_sem,true_and];refine ac h1 rfl ?_;cases sb
 ·repeat' (first|(with_reducible first|refine ae ?_|refine ac ‹_› rfl ?_|refine ab ‹_› rfl ?_|refine ak (λhbr=>?_) λhbr=>?_)|simp(disch:=first|omega|(simp only[ax];omega)|simp only[av,Nat.reduceAdd]) only[go_sem,true_and])
  all_goals exact aO rfl
 rw[Bool.true_and];simp(disch:=first|omega|(simp only[ax];omega)|simp only[av,Nat.reduceAdd]) only[go_sem,true_and];refine lp (λi:Nat=>[.sc (.int .i64 i)]) (λi=>i<=ps.length/\bg (uo n ps) i=true) (λi=>ps.length-i) 0 rfl ⟨Nat.zero_le _,rfl⟩ ?_;rintro i ⟨hi2,ha2⟩;simp only[ge];by_cases hlt2:i<ps.length
 ·rcases n with _|m
  ·rw[LZ]at hd;exact absurd (a9.1 hd i hlt2) (by decide)
  ·have hm:=aK hlt2;rw[LZ]at hd;have hc:=ih m rfl _ (b6 _ hm) (a9.1 hd i hlt2);have hk:uo (m+1) ps i=d9 m (ps.getD i default):=rfl;have hix:cc 8 (some (.sl 35 8 (ps.map ap))) (some (.sc (.int .i64 (i:Int))))=some (ap (ps.getD i default)):=by rw[eL (by omega) (by omega),Int.toNat_natCast]
   generalize ps.getD i default=x at hc hix hk;generalize d9 m x=b at hc hk;obtain⟨x0,x1,x2,x3,x4,x5,x6,x7⟩:=x;simp only[ap,al,aq]at hc hix;cases b
   ·repeat' (first|(with_reducible first|refine ae ?_|refine ac ‹_› rfl ?_|refine ab ‹_› rfl ?_|refine ak (λhbr=>?_) λhbr=>?_)|simp(disch:=first|omega|(simp only[ax];omega)|simp only[av,Nat.reduceAdd]) only[go_sem,hix])
    all_goals first
     |omega
     |exact aO (by rw[bB (p:=uo (m+1) ps) hlt2 hk])
     |skip
   ·repeat' (first|(with_reducible first|refine ae ?_|refine ac ‹_› rfl ?_|refine ab ‹_› rfl ?_|refine ak (λhbr=>?_) λhbr=>?_)|simp(disch:=first|omega|(simp only[ax];omega)|simp only[av,Nat.reduceAdd]) only[go_sem,hix])
    all_goals first
     |omega
     |exact⟨i+1,rfl,⟨by omega,bf ha2 hk⟩,by omega⟩
     |skip
 ·obtain rfl:i=ps.length:=by omega
  repeat' (first|(with_reducible first|refine ae ?_|refine ac ‹_› rfl ?_|refine ab ‹_› rfl ?_|refine ak (λhbr=>?_) λhbr=>?_)|simp(disch:=first|omega|(simp only[ax];omega)|simp only[av,Nat.reduceAdd]) only[go_sem,true_and])
  all_goals first|omega|exact aO ha2|skip
theorem Sr:∀n,YC n
 |0=>Fv 0 λm e=>by omega
 |n+1=>Fv (n+1) λm e=>by obtain rfl:n=m:=by omega
                         exact Sr n
def XY(n:Nat):Prop:=∀v,ck v<=1000000000->aB Tryz.prog 107 [(true,ap v),(false,[.sc (.int .i64 n)])] [(false,[.sc (.int .i64 (Ce n v))],true)]
theorem NX:XY 0:=by
 rintro⟨k,its,ps,ns,cl,lv,c,e⟩ hw;unfold Ce;simp only[ap,al,aq];refine ah Tryz.func107 rE rfl ?_;simp only[ll]
 repeat' (first|(with_reducible first|refine ae ?_|refine ac ‹_› rfl ?_|refine ab ‹_› rfl ?_|refine ak (λhbr=>?_) λhbr=>?_)|simp(disch:=first|omega|(simp only[ax];omega)|simp only[av,Nat.reduceAdd]) only[go_sem,true_and])
 all_goals first|rfl|omega
theorem VI(n:Nat)(k:Int)(its:List It)(ps:List aX)(ns cl lv:List ByteArray)(c e:Int):Ce (n+1) (.mk k its ps ns cl lv c e)=(ps.map λp=>Ce n p+1).foldl max 0:=by rw[Ce]
theorem LL(n:Nat)(hn:n<=1000)(ih:XY n):XY (n+1):=by
 rintro⟨k,its,ps,ns,cl,lv,c,e⟩ hw;obtain⟨b1,b2,b3,b4,b5,b6⟩:=BO hw;rw[VI];simp only[ap,al,aq];have hs:((n+1:Nat):Int)-1=(n:Int):=by omega
 have h0:¬((n+1:Nat):Int)=0:=by omega
 generalize ((n+1:Nat):Int)=n1 at *;refine ah Tryz.func107 rE rfl ?_;simp only[ll];simp(disch:=first|omega|(simp only[ax];omega)|simp only[av,Nat.reduceAdd]) only[go_sem,true_and];refine eJ (λhx=>absurd hx h0) (λ_=>?_);simp(disch:=first|omega|(simp only[ax];omega)|simp only[av,Nat.reduceAdd]) only[go_sem,true_and];refine lp (λi:Nat=>[.sc (.int .i64 i),.sc (.int .i64 (((ps.take i).map λp=>Ce n p+1).foldl max 0:Nat))]) (λi=>i<=ps.length) (λi=>ps.length-i) 0 rfl (Nat.zero_le _) ?_;intro i hi;simp only[oE]
 have hbd:((ps.take i).map λp=>Ce n p+1).foldl max 0<=n+2:=by
  rw[fj];refine⟨by omega,λx hx=>?_⟩;obtain⟨p,hp,rfl⟩:=List.mem_map.1 hx;have:=LP n p;omega
 by_cases hlt:i<ps.length
 ·have hm:=aK hlt;have hc:=ih _ (b6 _ hm)
  have hstep:((ps.take (i+1)).map λp=>Ce n p+1).foldl max 0=max (((ps.take i).map λp=>Ce n p+1).foldl max 0) (Ce n (ps.getD i default)+1):=by
   rw[bh hlt,List.map_append,List.foldl_append];rfl
  have hnb:=LP n (ps.getD i default);have hix:cc 8 (some (.sl 35 8 (ps.map ap))) (some (.sc (.int .i64 (i:Int))))=some (ap (ps.getD i default)):=by rw[eL (by omega) (by omega),Int.toNat_natCast]
  generalize ps.getD i default=x at hc hix hstep hnb;generalize ((ps.take i).map λp=>Ce n p+1).foldl max 0=cur at *;generalize Ce n x=y at *;obtain⟨x0,x1,x2,x3,x4,x5,x6,x7⟩:=x;simp only[ap,al,aq]at hc hix
  repeat' (first|(with_reducible first|refine ae ?_|refine ac ‹_› rfl ?_|refine ab ‹_› rfl ?_|refine ak (λhbr=>?_) λhbr=>?_)|simp(disch:=first|omega|(simp only[ax];omega)|simp only[av,Nat.reduceAdd]) only[go_sem,hix,hs])
  all_goals first
   |omega
   |exact⟨i+1,by rw[hstep];congr 4;omega,by omega,by omega⟩
   |skip
 ·obtain rfl:i=ps.length:=by omega
  rw[List.take_length]at*
  repeat' (first|(with_reducible first|refine ae ?_|refine ac ‹_› rfl ?_|refine ab ‹_› rfl ?_|refine ak (λhbr=>?_) λhbr=>?_)|simp(disch:=first|omega|(simp only[ax];omega)|simp only[av,Nat.reduceAdd]) only[go_sem,true_and])
  all_goals first|omega|exact dz rfl|skip
theorem Sv:∀n,n<=1000->XY n
 |0,_=>NX
 |n+1,h=>LL n (by omega) (Sv n (by omega))
def UW(n:Nat):Prop:=∀v,ck v<=1000000000->d9 n v=true->aB Tryz.prog 109 [(true,ap v)] [(false,[.sc (.int .i64 (vZ n v))],true)]
theorem C1(n:Nat)(hn:n<=3)(ih:∀m,n=m+1->UW m):UW n:=by
 rintro⟨k,its,ps,ns,cl,lv,c,e⟩ hw hv;have hb:=BO hw;have hbd:((vZ n (.mk k its ps ns cl lv c e):Nat):Int)<=3000000:=by have:=NU n hn _ hv;omega
 have h1:=xN k its ps ns cl lv c e hb;obtain⟨b1,b2,b3,b4,b5,b6⟩:=hb;have hlen:=EH (k:=k) b1 b2;rw[HU]at hbd ⊢;rw[eD]at hv;have hkid:=(Bool.and_eq_true _ _▸hv).2;generalize hln:lC k its.length ps.length=ln at *;simp only[ap,al,aq]at h1 ⊢;refine ah Tryz.func109 AD rfl ?_;simp only[oP];simp(disch:=first|omega|(simp only[ax];omega)|simp only[av,Nat.reduceAdd]) only[go_sem,true_and];refine ac h1 rfl ?_;simp(disch:=first|omega|(simp only[ax];omega)|simp only[av,Nat.reduceAdd]) only[go_sem,true_and];refine lp (λi:Nat=>[.sc (.int .i64 i),.sc (.int .i64 (ln+(aA (og n) (ps.take i):Nat)))]) (λi=>i<=ps.length) (λi=>ps.length-i) 0 (by simp[gL,aA]) (Nat.zero_le _) ?_;intro i hi;simp only[nV];have hs1:=jv (og n) ps i;by_cases hlt:i<ps.length
 ·have hs2:=jv (og n) ps (i+1);have hm:=aK hlt;rcases n with _|m
  ·exact absurd (a9.1 hkid i hlt) (by show¬false=true;decide)
  ·have hk:d9 m (ps.getD i default)=true:=a9.1 hkid i hlt;have hc:=ih m rfl _ (b6 _ hm) hk;have hq:og (m+1) (ps.getD i default)=vZ m (ps.getD i default):=rfl;have hs3:=jl (og (m+1)) hlt;have hix:cc 8 (some (.sl 35 8 (ps.map ap))) (some (.sc (.int .i64 (i:Int))))=some (ap (ps.getD i default)):=by rw[eL (by omega) (by omega),Int.toNat_natCast]
   generalize ps.getD i default=x at hc hix hq hs3;rw[hq]at hs3;generalize vZ m x=y at hc hs3;obtain⟨x0,x1,x2,x3,x4,x5,x6,x7⟩:=x;simp only[ap,al,aq]at hc hix
   repeat' (first|(with_reducible first|refine ae ?_|refine ac ‹_› rfl ?_|refine ab ‹_› rfl ?_|refine ak (λhbr=>?_) λhbr=>?_)|simp(disch:=first|omega|(simp only[ax];omega)|simp only[av,Nat.reduceAdd]) only[go_sem,hix])
   all_goals first
    |omega
    |exact⟨i+1,by congr 4;omega,by omega,by omega⟩
    |skip
 ·obtain rfl:i=ps.length:=by omega
  rw[List.take_length]at*
  repeat' (first|(with_reducible first|refine ae ?_|refine ac ‹_› rfl ?_|refine ab ‹_› rfl ?_|refine ak (λhbr=>?_) λhbr=>?_)|simp(disch:=first|omega|(simp only[ax];omega)|simp only[av,Nat.reduceAdd]) only[go_sem,true_and])
  all_goals first|omega|exact dz (by omega)|skip
theorem Ow:∀n,n<=3->UW n
 |0,h=>C1 0 h λm e=>by omega
 |n+1,h=>C1 (n+1) h λm e=>by obtain rfl:n=m:=by omega
                             exact Ow n (by omega)
theorem wh(v:aX)(hw:ck v<=1000000000):aB Tryz.prog 75 [(true,ap v)] [(false,[.sc (.bool (d7 v))],true)]:=by
 have h1:=Sv 4 (by omega) v hw;have h2:=Sr 3 v hw;have h3:=Ow 3 (by omega) v hw;have h4:=Pd 3 v;have h5:=US 3 v;rw[show((4:Nat):Int)=4 from rfl]at h1;unfold d7;generalize vZ 3 v=y at *;generalize Ce 4 v=z at *;generalize LZ 3 v=d at *;generalize d9 3 v=b at *;obtain⟨k,its,ps,ns,cl,lv,c,e⟩:=v;simp only[ap,al,aq]at h1 h2 h3 ⊢;refine ah Tryz.func75 vz rfl ?_;simp only[kw];cases d
 ·have hz:¬(z:Int)<=3:=λh=>by have:=h5.1 (by omega);cases this
  have hb:b=false:=by cases b;rfl;exact absurd (h4 rfl) (by decide)
  subst hb
  repeat' (first|(with_reducible first|refine ae ?_|refine ac ‹_› rfl ?_|refine ab ‹_› rfl ?_|refine ak (λhbr=>?_) λhbr=>?_)|simp(disch:=first|omega|(simp only[ax];omega)|simp only[av,Nat.reduceAdd]) only[go_sem,true_and])
  all_goals first|omega|exact aO rfl
 ·have hz:(z:Int)<=3:=by have:=h5.2 rfl;omega
  have h2':=h2 rfl;cases b
  ·repeat' (first|(with_reducible first|refine ae ?_|refine ac ‹_› rfl ?_|refine ab ‹_› rfl ?_|refine ak (λhbr=>?_) λhbr=>?_)|simp(disch:=first|omega|(simp only[ax];omega)|simp only[av,Nat.reduceAdd]) only[go_sem,true_and])
   all_goals first|omega|exact aO rfl
  ·have h3':=h3 rfl
   repeat' (first|(with_reducible first|refine ae ?_|refine ac ‹_› rfl ?_|refine ab ‹_› rfl ?_|refine ak (λhbr=>?_) λhbr=>?_)|simp(disch:=first|omega|(simp only[ax];omega)|simp only[av,Nat.reduceAdd]) only[go_sem,true_and])
   all_goals first|omega|exact aO rfl
def uj:List aQ:=[]
def vK:List (Nat×Nat×Bool×List Nat):=[]
def kX:UP:=.i 0<|.i 0<|.s #[]<|.i 0<|.i 0<|.s #[]<|.i 1<|.c 3<|.c 0<|.c 7<|.ret [(true,[3,0,7])]
theorem ux:aM Tryz.prog 115 Tryz.f115 bO uj vK=some ([(false,1)],kX):=by kernel_rfl
def ze:List aQ:=[]
def yJ:List (Nat×Nat×Bool×List Nat):=[]
def nN:UP:=.i 0<|.i 0<|.s #[]<|.i 0<|.i 0<|.s #[]<|.i 1<|.c 3<|.c 0<|.c 7<|.ret [(true,[3,0,7])]
theorem yz:aM Tryz.prog 120 Tryz.f120 bO ze yJ=some ([(false,1)],nN):=by kernel_rfl
def O5(s:ByteArray):It:=⟨0,1,s⟩
theorem mL(s:ByteArray):aB Tryz.prog 115 [(false,[.sc (.string s)])] [(true,ao (O5 s),true)]:=by
 refine ah Tryz.func115 ux rfl ?_;simp only[kX]
 repeat' (first|(with_reducible first|refine ae ?_|refine ac ‹_› rfl ?_|refine ab ‹_› rfl ?_|refine ak (λhbr=>?_) λhbr=>?_)|simp(disch:=first|omega|(simp only[ax];omega)|simp only[av,Nat.reduceAdd]) only[go_sem,true_and])
 rfl
theorem ug(s:ByteArray):aB Tryz.prog 120 [(false,[.sc (.string s)])] [(true,ao (O5 s),true)]:=by
 refine ah Tryz.func120 yz rfl ?_;simp only[nN]
 repeat' (first|(with_reducible first|refine ae ?_|refine ac ‹_› rfl ?_|refine ab ‹_› rfl ?_|refine ak (λhbr=>?_) λhbr=>?_)|simp(disch:=first|omega|(simp only[ax];omega)|simp only[av,Nat.reduceAdd]) only[go_sem,true_and])
 rfl
theorem Zk(a:Array UInt8):(ByteArray.mk a).size=a.size:=rfl
theorem Gf:maxLen=9223372036854775807:=rfl
theorem mN(l:List ByteArray)(hl:l.length<=100000000000):aB Tryz.prog 86 [(false,[aq l])] [(false,[aq l],true)]:=by
 refine ah Tryz.func86 sT rfl ?_;simp only[jw];simp only[aq]
 repeat' (first|(with_reducible first|refine ae ?_|refine ac ‹_› rfl ?_|refine ab ‹_› rfl ?_|refine ak (λhbr=>?_) λhbr=>?_)|simp(disch:=first|omega|(simp only[ax];omega)|simp only[av,Nat.reduceAdd]) only[go_sem,true_and])
 rfl
theorem EY{t k:Nat}{l:List It}:pi (some (.sl t k (l.map ao)))=some []:=tD λx=>rfl
theorem Tk(l:List It)(hl:l.length<=100000000000):aB Tryz.prog 106 [(false,[.sl 78 3 (l.map ao)])] [(false,[.sl 78 3 (l.map ao)],true)]:=by
 refine ah Tryz.func106 sw rfl ?_;simp only[jh];simp(disch:=first|omega|(simp only[ax];omega)|simp only[av,Nat.reduceAdd]) only[go_sem,EY];rfl
theorem D6{P:Nat->Prop}{i:Nat}(h:∀j,j<i->P j)(hi:P i):∀j,j<i+1->P j:=λj hj=>by
 rcases Nat.lt_or_ge j i with h1|h1
 ·exact h j h1
 ·obtain rfl:j=i:=by omega
  exact hi
def K7(ns:List ByteArray):List ByteArray:=if bg (Cc ns) ns.length then[]else ns
theorem JE(k:Int)(its:List It)(ps:List aX)(ns cl lv:List ByteArray)(c e:Int)(hn:ns.length<=1000000000):ic Tryz.prog 78 [(true,ap (.mk k its ps ns cl lv c e),true)] [(true,ap (.mk k its ps (K7 ns) cl lv c e),true)]:=by
 have h1:=Ox 9 ns hn;simp only[ap,al,aq];refine et Tryz.func78 s7 rfl (by simp) ?_;simp only[jz];unfold K7
 repeat' (first|(with_reducible first|refine ae ?_|refine ac ‹_› rfl ?_|refine ab ‹_› rfl ?_|refine ak (λhbr=>?_) λhbr=>?_)|simp(disch:=first|omega|(simp only[ax];omega)|simp only[av,Nat.reduceAdd]) only[go_sem,true_and])
 ·rw[if_pos ‹_›];rfl
 ·rw[if_neg (by simp[*])];rfl
theorem NT(k:Int)(its:List It)(ps:List aX)(ns cl lv:List ByteArray)(c e:Int)(hn:ns.length<=1000000000):ic Tryz.prog 97 [(true,ap (.mk k its ps ns cl lv c e),true)] [(true,ap (.mk k its ps (K7 ns) cl lv c e),true)]:=by
 simp only[ap,al,aq];refine et Tryz.func97 wK rfl (by simp) ?_;simp only[lH];simp(disch:=first|omega|(simp only[ax];omega)|simp only[av,Nat.reduceAdd]) only[go_sem,true_and];refine lp (λi:Nat=>[.sc (.int .i64 i)]) (λi=>i<=ns.length/\∀j,j<i->Cc ns j=true) (λi=>ns.length-i) 0 rfl ⟨Nat.zero_le _,λj hj=>by omega⟩ ?_;rintro i ⟨hi,hall⟩;simp only[kR];have t1:bg (Cc ns) ns.length=true->K7 ns=[]:=λh=>if_pos h
 have t2:∀j,j<ns.length->Cc ns j=false->K7 ns=ns:=λj hj h=>if_neg (by rw[bB hj h];simp)
 by_cases hlt:i<ns.length
 ·repeat' (first|(with_reducible first|refine ae ?_|refine ac ‹_› rfl ?_|refine ab ‹_› rfl ?_|refine ak (λhbr=>?_) λhbr=>?_)|simp(disch:=first|omega|(simp only[ax];omega)|simp only[av,Nat.reduceAdd]) only[go_sem,true_and])
  all_goals first
   |omega
   |(rw[t2 i hlt (by simp[Cc,-List.getD_eq_getElem?_getD, *])];rfl)
   |exact⟨i+1,rfl,⟨by omega,D6 hall (by simp[Cc,-List.getD_eq_getElem?_getD, *])⟩,by omega⟩
 ·obtain rfl:i=ns.length:=by omega
  repeat' (first|(with_reducible first|refine ae ?_|refine ac ‹_› rfl ?_|refine ab ‹_› rfl ?_|refine ak (λhbr=>?_) λhbr=>?_)|simp(disch:=first|omega|(simp only[ax];omega)|simp only[av,Nat.reduceAdd]) only[go_sem,true_and])
  all_goals first|omega|(rw[t1 (a9.2 hall)];rfl)
theorem Gy(k:Int)(its:List It)(ps:List aX)(ns cl lv:List ByteArray)(c e:Int)(k2:Int)(its2:List It)(ps2:List aX)(ns2 cl2 lv2:List ByteArray)(c2 e2:Int)(h1:cl2.length<=1000000000)(h2:lv2.length<=1000000000):
 ic Tryz.prog 76 [(true,ap (.mk k its ps ns cl lv c e),true),(true,ap (.mk k2 its2 ps2 ns2 cl2 lv2 c2 e2),false)] [(true,ap (.mk k its ps ns (if lv2=[]then cl else cl2) (if lv2=[]then lv else lv2) c e),true)]:=by
 have g1:=mN cl2 (by omega);have g2:=mN lv2 (by omega);simp only[ap,al,aq]at g1 g2 ⊢;refine et Tryz.func76 qx rfl (by simp) ?_;simp only[iN]
 repeat' (first|(with_reducible first|refine ae ?_|refine ac ‹_› rfl ?_|refine ab ‹_› rfl ?_|refine ak (λhbr=>?_) λhbr=>?_)|simp(disch:=first|omega|(simp only[ax];omega)|simp only[av,Nat.reduceAdd]) only[go_sem,true_and])
 ·have:lv2≠[]:=by rintro rfl;simp at*
  rw[if_neg this,if_neg this];rfl
 ·have:lv2=[]:=List.eq_nil_of_length_eq_zero (by omega);subst this;rfl
def HW(x:It):ByteArray:=if x=bC then⟨#[78,65]⟩else if cq x then(if x.den=1 then ia x.num else ia x.num++⟨#[47]⟩++ia x.den)else⟨#[]⟩
theorem I9{x:It}(h:cq x=true):1<=x.den/\x.den<=999999999/\-999999999<=x.num/\x.num<=999999999:=by
 unfold cq at h;simp only[Bool.and_eq_true,decide_eq_true_eq]at h;omega
theorem zF{n:Int}(h:BU n):(ia n).size<=20:=by
 unfold ia;rw[j6];exact Gw h
theorem Qs(x:It):aB Tryz.prog 136 [(true,ao x)] [(false,[.sc (.string (HW x))],true)]:=by
 have h1:=Ag x;have hb:=@I9 x;have g1:cq x=true->_:=λh=>vo x.num ⟨by have:=hb h;omega,by have:=hb h;omega⟩
 have g2:cq x=true->_:=λh=>vo x.den ⟨by have:=hb h;omega,by have:=hb h;omega⟩
 have s1:cq x=true->_:=λh=>zF (n:=x.num) ⟨by have:=hb h;omega,by have:=hb h;omega⟩
 have s2:cq x=true->_:=λh=>zF (n:=x.den) ⟨by have:=hb h;omega,by have:=hb h;omega⟩
 simp only[ao]at h1 ⊢;refine ah Tryz.func136 ov rfl ?_;simp only[fA];unfold HW;by_cases h0:x=bC
 ·rw[if_pos h0]
  repeat' (first|(with_reducible first|refine ae ?_|refine ac ‹_› rfl ?_|refine ab ‹_› rfl ?_|refine ak (λhbr=>?_) λhbr=>?_)|simp(disch:=first|omega|(simp only[ax];omega)|simp only[av,Nat.reduceAdd]) only[go_sem,dv])
  all_goals first|rfl|simp_all
 rw[if_neg h0]
 cases hn:cq x with
 |true=>
  have g1:=g1 hn;have g2:=g2 hn;have s1:=s1 hn;have s2:=s2 hn;rw[hn]at h1;by_cases h1d:x.den=1
  ·repeat' (first|(with_reducible first|refine ae ?_|refine ac ‹_› rfl ?_|refine ab ‹_› rfl ?_|refine ak (λhbr=>?_) λhbr=>?_)|simp(disch:=first|omega|(simp only[ax];omega)|simp only[av,Nat.reduceAdd]) only[go_sem,dv])
   all_goals first|(rw[if_pos h1d];rfl)|simp_all
  ·repeat' (first|(with_reducible refine ae ?_)|(with_reducible refine ac ‹_› rfl ?_)|(with_reducible refine ak (λhbr=>?_) λhbr=>?_)|simp(disch:=first|omega|(simp only[ByteArray.size_append,Zk,List.size_toArray,List.length_cons,List.length_nil,Nat.zero_add,Nat.reduceAdd,Gf];omega)|(simp only[List.length_append,List.map_cons,List.map_nil,List.length_map,List.length_cons,List.length_nil];omega)|(simp only[List.length_cons,List.length_nil,Nat.zero_add,Nat.reduceAdd])) only[go_sem,yl,ByteArray.append_assoc,Nc,L7,uv,Lg,Cm,T3,Uo,NP,Nr,Nf,MQ,dv])
   all_goals first|(rw[if_neg h1d];rfl)|simp_all
 |false=>
  rw[hn]at h1
  repeat' (first|(with_reducible first|refine ae ?_|refine ac ‹_› rfl ?_|refine ab ‹_› rfl ?_|refine ak (λhbr=>?_) λhbr=>?_)|simp(disch:=first|omega|(simp only[ax];omega)|simp only[av,Nat.reduceAdd]) only[go_sem,dv])
  all_goals first|rfl|simp_all
theorem Qa(x:It):aB Tryz.prog 122 [(true,ao x)] [(false,[.sc (.string (HW x))],true)]:=by
 have h1:=BL x;have hb:=@I9 x;have g1:cq x=true->_:=λh=>uJ x.num ⟨by have:=hb h;omega,by have:=hb h;omega⟩
 have g2:cq x=true->_:=λh=>uJ x.den ⟨by have:=hb h;omega,by have:=hb h;omega⟩
 have s1:cq x=true->_:=λh=>zF (n:=x.num) ⟨by have:=hb h;omega,by have:=hb h;omega⟩
 have s2:cq x=true->_:=λh=>zF (n:=x.den) ⟨by have:=hb h;omega,by have:=hb h;omega⟩
 simp only[ao]at h1 ⊢;refine ah Tryz.func122 oB rfl ?_;simp only[fw];unfold HW;by_cases h0:x=bC
 ·rw[if_pos h0]
  repeat' (first|(with_reducible first|refine ae ?_|refine ac ‹_› rfl ?_|refine ab ‹_› rfl ?_|refine ak (λhbr=>?_) λhbr=>?_)|simp(disch:=first|omega|(simp only[ax];omega)|simp only[av,Nat.reduceAdd]) only[go_sem,dv])
  all_goals first|rfl|simp_all
 rw[if_neg h0]
 cases hn:cq x with
 |true=>
  have g1:=g1 hn;have g2:=g2 hn;have s1:=s1 hn;have s2:=s2 hn;rw[hn]at h1;by_cases h1d:x.den=1
  ·repeat' (first|(with_reducible first|refine ae ?_|refine ac ‹_› rfl ?_|refine ab ‹_› rfl ?_|refine ak (λhbr=>?_) λhbr=>?_)|simp(disch:=first|omega|(simp only[ax];omega)|simp only[av,Nat.reduceAdd]) only[go_sem,dv])
   all_goals first|(rw[if_pos h1d];rfl)|simp_all
  ·repeat' (first|(with_reducible refine ae ?_)|(with_reducible refine ac ‹_› rfl ?_)|(with_reducible refine ak (λhbr=>?_) λhbr=>?_)|simp(disch:=first|omega|(simp only[ByteArray.size_append,Zk,List.size_toArray,List.length_cons,List.length_nil,Nat.zero_add,Nat.reduceAdd,Gf];omega)|(simp only[List.length_append,List.map_cons,List.map_nil,List.length_map,List.length_cons,List.length_nil];omega)|(simp only[List.length_cons,List.length_nil,Nat.zero_add,Nat.reduceAdd])) only[go_sem,yl,ByteArray.append_assoc,Nc,L7,uv,Lg,Cm,T3,Uo,NP,Nr,Nf,MQ,dv])
   all_goals first|(rw[if_neg h1d];rfl)|simp_all
 |false=>
  rw[hn]at h1
  repeat' (first|(with_reducible first|refine ae ?_|refine ac ‹_› rfl ?_|refine ab ‹_› rfl ?_|refine ak (λhbr=>?_) λhbr=>?_)|simp(disch:=first|omega|(simp only[ax];omega)|simp only[av,Nat.reduceAdd]) only[go_sem,dv])
  all_goals first|rfl|simp_all
def cvI(k m:Int)(x:It):It:=if x=bC\/k=m\/m≠3 then x else if k=2 then O5 (HW x)else if x.num=1 then O5 ⟨#[84,82,85,69]⟩else O5 ⟨#[70,65,76,83,69]⟩
theorem UJ(x:It)(k m:Int)(h1:1<=k/\k<=m)(h2:m<=3):aB Tryz.prog 127 [(true,ao x),(false,[.sc (.int .i64 k)]),(false,[.sc (.int .i64 m)])] [(true,ao (cvI k m x),true)]:=by
 have g1:=fX x;have g2:=Qs x;have g3:=mL (HW x);have g4:=mL ⟨#[84,82,85,69]⟩;have g5:=mL ⟨#[70,65,76,83,69]⟩;simp only[ao]at g1 g2 g3 g4 g5 ⊢;refine ah Tryz.func127 pt rfl ?_;simp only[gK];unfold cvI;by_cases h0:x=bC\/k=m\/m≠3
 ·rw[if_pos h0]
  repeat' (first|(with_reducible first|refine ae ?_|refine ac ‹_› rfl ?_|refine ab ‹_› rfl ?_|refine ak (λhbr=>?_) λhbr=>?_)|simp(disch:=first|omega|(simp only[ax];omega)|simp only[av,Nat.reduceAdd]) only[go_sem,true_and])
  all_goals first|rfl|(exfalso;rcases h0 with h|h|h<;>first|contradiction|omega)
 ·rw[if_neg h0]
  repeat' (first|(with_reducible first|refine ae ?_|refine ac ‹_› rfl ?_|refine ab ‹_› rfl ?_|refine ak (λhbr=>?_) λhbr=>?_)|simp(disch:=first|omega|(simp only[ax];omega)|simp only[av,Nat.reduceAdd]) only[go_sem,true_and])
  all_goals first|(exfalso;simp_all;done)|(simp_all;rfl)
theorem W3{t:Nat}{a:DV}{l:List (List DV)}:cc 1 (some (.sl t 1 ([a]::l))) (some (.sc (.int .i64 0)))=some [a]:=rfl
theorem Wa{t:Nat}{a b:DV}{l:List (List DV)}:cc 1 (some (.sl t 1 ([a]::[b]::l))) (some (.sc (.int .i64 1)))=some [b]:=rfl
theorem WJ{t:Nat}{a:DV}{l:List (List DV)}:Er 1 (some (.sl t 1 ([a]::l))) (some (.sc (.int .i64 0)))=some []:=by simp[Er]
theorem W7{t:Nat}{a b:DV}{l:List (List DV)}:Er 1 (some (.sl t 1 ([a]::[b]::l))) (some (.sc (.int .i64 1)))=some []:=by simp[Er]
theorem Lj(x:It)(k m:Int)(h1:1<=k/\k<=m)(h2:m<=3)(hb:k=1->x=bC\/x.num=0\/x.num=1):aB Tryz.prog 101 [(false,[.sc (.int .i64 k)]),(false,[.sc (.int .i64 m)]),(true,ao x)] [(true,ao (cvI k m x),true)]:=by
 have g2:=Qa x;have g3:=ug (HW x);have g4:=ug ⟨#[84,82,85,69]⟩;have g5:=ug ⟨#[70,65,76,83,69]⟩;simp only[ao]at g2 g3 g4 g5 ⊢;refine ah Tryz.func101 Ct rfl ?_;simp only[ry];unfold cvI;by_cases h0:x=bC\/k=m\/m≠3
 ·rw[if_pos h0]
  repeat' (first|(with_reducible first|refine ae ?_|refine ac ‹_› rfl ?_|refine ab ‹_› rfl ?_|refine ak (λhbr=>?_) λhbr=>?_)|simp(disch:=first|omega|(simp only[ax];omega)|simp only[av,Nat.reduceAdd]) only[go_sem,dv])
  all_goals first|rfl|(exfalso;rcases h0 with h|h|h<;>first|contradiction|omega)
 ·rw[if_neg h0];by_cases hk:k=1
  ·rcases hb hk with h|h|h
   ·exact absurd (.inl h) h0
   ·rw[if_neg (by omega),if_neg (by omega)]
    repeat' (first|(with_reducible first|refine ae ?_|refine ac ‹_› rfl ?_|refine ab ‹_› rfl ?_|refine ak (λhbr=>?_) λhbr=>?_)|simp(disch:=first|omega|(simp only[ax];omega)|simp only[av,Nat.reduceAdd]) only[go_sem,dv])
    all_goals first|(exfalso;simp_all;done)|skip
    rw[h]
    repeat' (first|(with_reducible first|refine ae ?_|refine ac ‹_› rfl ?_|refine ab ‹_› rfl ?_|refine ak (λhbr=>?_) λhbr=>?_)|simp(disch:=first|omega|(simp only[ax];omega)|simp only[av,Nat.reduceAdd]) only[go_sem,W3,WJ])
    all_goals first|(simp_all;rfl)
   ·rw[if_neg (by omega),if_pos h]
    repeat' (first|(with_reducible first|refine ae ?_|refine ac ‹_› rfl ?_|refine ab ‹_› rfl ?_|refine ak (λhbr=>?_) λhbr=>?_)|simp(disch:=first|omega|(simp only[ax];omega)|simp only[av,Nat.reduceAdd]) only[go_sem,dv])
    all_goals first|(exfalso;simp_all;done)|skip
    rw[h]
    repeat' (first|(with_reducible first|refine ae ?_|refine ac ‹_› rfl ?_|refine ab ‹_› rfl ?_|refine ak (λhbr=>?_) λhbr=>?_)|simp(disch:=first|omega|(simp only[ax];omega)|simp only[av,Nat.reduceAdd]) only[go_sem,Wa,W7])
    all_goals first|(simp_all;rfl)
  ·rw[if_pos (by omega)]
   repeat' (first|(with_reducible first|refine ae ?_|refine ac ‹_› rfl ?_|refine ab ‹_› rfl ?_|refine ak (λhbr=>?_) λhbr=>?_)|simp(disch:=first|omega|(simp only[ax];omega)|simp only[av,Nat.reduceAdd]) only[go_sem,dv])
   all_goals first|rfl|(exfalso;simp_all;done)|(simp_all;rfl)
theorem dT{t ti:Nat}{l:List aX}{v:aX}(h:l.length<=1000000000):sN t 8 144 (some (.sl t 8 (l.map (fD ti t)))) (some (.sl t 8 [fD ti t v]))=some [.sl t 8 ((l++[v]).map (fD ti t))]:=by
 have h1:((l.map (fD ti t)).length+[fD ti t v].length)*144<=1000000001*144:=Nat.mul_le_mul_right _ (by simp;omega);rw[List.map_append];have h3:(l.map (fD ti t)).length+[fD ti t v].length<=9223372036854775807:=by simp;omega
 grind [sN]
def Zl(v:aX):Prop:=ck v<=1000000000->aB Tryz.prog 71 [(true,ap v)] [(true,ap v,true)]
theorem DE(v:aX):Zl v:=aX.ind (λk its ps ns cl lv c e ih hw=>by
 obtain⟨b1,b2,b3,b4,b5,b6⟩:=BO hw;have g1:=Tk its (by omega);have g2:=mN ns (by omega);have g3:=mN cl (by omega);have g4:=mN lv (by omega);simp only[ap,al,aq]at g1 g2 g3 g4 ⊢;refine ah Tryz.func71 rc rfl ?_;simp only[ig]
 repeat' (first|(with_reducible first|refine ae ?_|refine ac ‹_› rfl ?_|refine ab ‹_› rfl ?_|refine ak (λhbr=>?_) λhbr=>?_)|simp(disch:=first|omega|(simp only[ax];omega)|simp only[av,Nat.reduceAdd]) only[go_sem,true_and])
 refine lp (λi:Nat=>[.sc (.int .i64 i),.sl 35 8 ((ps.take i).map ap)]) (λi=>i<=ps.length) (λi=>ps.length-i) 0 rfl (Nat.zero_le _) ?_;intro i hi;simp only[gE];by_cases hlt:i<ps.length
 ·have hm:=aK hlt;have hc:=ih _ hm (b6 _ hm);have hix:cc 8 (some (.sl 35 8 (ps.map ap))) (some (.sc (.int .i64 (i:Int))))=some (ap (ps.getD i default)):=by rw[eL (by omega) (by omega),Int.toNat_natCast]
  have hap:=dT (t:=35) (ti:=78) (l:=ps.take i) (v:=ps.getD i default) (by simp;omega);rw[<-bh hlt]at hap;generalize ps.getD i default=x at hc hix hap;obtain⟨x0,x1,x2,x3,x4,x5,x6,x7⟩:=x;simp only[ap,al,aq]at hc hix hap
  repeat' (first|(with_reducible first|refine ae ?_|refine ac ‹_› rfl ?_|refine ab ‹_› rfl ?_|refine ak (λhbr=>?_) λhbr=>?_)|simp(disch:=first|omega|(simp only[ax];omega)|simp only[av,Nat.reduceAdd]) only[go_sem,hix,hap])
  all_goals first|omega|exact⟨i+1,rfl,by omega,by omega⟩
 ·obtain rfl:i=ps.length:=by omega
  rw[List.take_length]
  repeat' (first|(with_reducible first|refine ae ?_|refine ac ‹_› rfl ?_|refine ab ‹_› rfl ?_|refine ak (λhbr=>?_) λhbr=>?_)|simp(disch:=first|omega|(simp only[ax];omega)|simp only[av,Nat.reduceAdd]) only[go_sem,true_and])
  all_goals first|omega|rfl) v
theorem gZ:∀(n:Nat) (v:aX),d9 n v=true->d9 (n+1) v=true
 |0,.mk k its ps ns cl lv c e,h=>by
  rw[eD,Bool.and_eq_true]at h ⊢;refine⟨h.1,?_⟩
  cases ps with
  |nil=>rfl
  |cons p r=>have:=a9.1 h.2 0 (by simp);cases this
 |n+1,.mk k its ps ns cl lv c e,h=>by
  rw[eD,Bool.and_eq_true]at h ⊢;exact⟨h.1,a9.2 λj hj=>gZ n _ (a9.1 h.2 j hj)⟩
def aX.kids:aX->List aX|.mk _ _ ps _ _ _ _ _=>ps
theorem B0{v:aX}(h:d9 3 v=true):∀p∈v.kids,d9 3 p=true:=by
 obtain⟨k,its,ps,ns,cl,lv,c,e⟩:=v;rw[eD,Bool.and_eq_true]at h;intro p hp;change p∈ps at hp;obtain⟨j,hj,rfl⟩:=List.mem_iff_getElem.1 hp;have h2:d9 2 (ps.getD j default)=true:=a9.1 h.2 j hj;rw[List.getD_eq_getElem?_getD,List.getElem?_eq_getElem hj]at h2;exact gZ 2 _ h2
def Ze(v:aX):Prop:=ck v<=1000000000->(∀p∈v.kids,d9 3 p=true)->v.kids.length<=40->aB Tryz.prog 96 [(true,ap v)] [(true,ap v,true)]
theorem AX{v:aX}(h:d9 3 v=true):v.kids.length<=40:=by
 obtain⟨k,its,ps,ns,cl,lv,c,e⟩:=v;rw[eD,Bool.and_eq_true]at h;have h1:=h.1;unfold wD gA gB lC at h1;simp only[Bool.and_eq_true,Bool.or_eq_true,decide_eq_true_eq]at h1;obtain⟨⟨-,h2,-⟩,⟨-,-,h3⟩,-⟩:=h1;show ps.length<=40;split at h2<;>omega
theorem MI(ps:List aX)(ih:∀p∈ps,Ze p)(hw:∀p∈ps,ck p<=1000000000)(hv:∀p∈ps,d9 3 p=true)(hl:ps.length<=40):aB Tryz.prog 92 [(false,[.sl 35 8 (ps.map ap)])] [(false,[.sl 35 8 (ps.map ap)],true)]:=by
 refine ah Tryz.func92 vU rfl ?_;simp only[kA];simp(disch:=first|omega|(simp only[ax];omega)|simp only[av,Nat.reduceAdd]) only[go_sem,true_and];refine lp (λi:Nat=>[.sc (.int .i64 i),.sl 35 8 ((ps.take i).map ap)]) (λi=>i<=ps.length) (λi=>ps.length-i) 0 rfl (Nat.zero_le _) ?_;intro i hi;simp only[jY];by_cases hlt:i<ps.length
 ·have hm:=aK hlt;have hc:=ih _ hm (hw _ hm) (B0 (hv _ hm)) (AX (hv _ hm));have hs:aB Tryz.prog 93 [(true,ap (ps.getD i default)),(false,[.sc (.int .i64 3)])] [(false,[.sc (.bool (d9 3 (ps.getD i default)))],true)]:=Ol 3 (by omega) _ (hw _ hm);rw[hv _ hm]at hs;have hix:cc 8 (some (.sl 35 8 (ps.map ap))) (some (.sc (.int .i64 (i:Int))))=some (ap (ps.getD i default)):=by rw[eL (by omega) (by omega),Int.toNat_natCast]
  have hap:=dT (t:=35) (ti:=78) (l:=ps.take i) (v:=ps.getD i default) (by simp;omega);rw[<-bh hlt]at hap;generalize ps.getD i default=x at hc hix hap hs;obtain⟨x0,x1,x2,x3,x4,x5,x6,x7⟩:=x;simp only[ap,al,aq]at hc hix hap hs
  repeat' (first|(with_reducible first|refine ae ?_|refine ac ‹_› rfl ?_|refine ab ‹_› rfl ?_|refine ak (λhbr=>?_) λhbr=>?_)|simp(disch:=first|omega|(simp only[ax];omega)|simp only[av,Nat.reduceAdd]) only[go_sem,hix,hap,jN])
  all_goals first|omega|exact⟨i+1,rfl,by omega,by omega⟩
 ·obtain rfl:i=ps.length:=by omega
  rw[List.take_length]
  repeat' (first|(with_reducible first|refine ae ?_|refine ac ‹_› rfl ?_|refine ab ‹_› rfl ?_|refine ak (λhbr=>?_) λhbr=>?_)|simp(disch:=first|omega|(simp only[ax];omega)|simp only[av,Nat.reduceAdd]) only[go_sem,true_and])
  all_goals first|omega|rfl
theorem MU(v:aX):Ze v:=aX.ind (λk its ps ns cl lv c e ih hw hv hl=>by
 obtain⟨b1,b2,b3,b4,b5,b6⟩:=BO hw;have g:=MI ps ih b6 hv hl;simp only[ap,al,aq]at g ⊢;refine ah Tryz.func96 zt rfl ?_;simp only[nJ]
 repeat' (first|(with_reducible first|refine ae ?_|refine ac ‹_› rfl ?_|refine ab ‹_› rfl ?_|refine ak (λhbr=>?_) λhbr=>?_)|simp(disch:=first|omega|(simp only[ax];omega)|simp only[av,Nat.reduceAdd]) only[go_sem,EY])
 all_goals ((try simp only[List.isEmpty_iff]at*);(try subst_vars);rfl)) v
structure VF(k:Int)(its:List It)(ps:List aX)(ns cl lv:List ByteArray)(c e:Int):Prop where
 k0:0<=k
 k5:k<=5
 i0:k=0\/k=4\/k=5->its=[]
 p0:k≠4->ps=[]
 il:its.length<=40
 pl:ps.length<=40
 nl:ns=[]\/k≠5/\ns.length=its.length+ps.length
 n5:k=0\/k=5->ns=[]
 nm:QC ns=true
 l0:k≠2->lv=[]
 lb:dc lv 20=true
 lc:dc cl 3=true
 ce:k≠5->c=0/\e=0
 it:∀x∈its,dk k lv.length x=true
 kd:∀p∈ps,d9 2 p=true
 c0:k=0->cl=[]
theorem vf{k:Int}{its:List It}{ps:List aX}{ns cl lv:List ByteArray}{c e:Int}(h:d9 3 (.mk k its ps ns cl lv c e)=true):VF k its ps ns cl lv c e:=by
 rw[eD,Bool.and_eq_true]at h;obtain⟨h1,h2⟩:=h;unfold wD gA gB lC gC at h1;simp only[Bool.and_eq_true,Bool.or_eq_true,decide_eq_true_eq]at h1;obtain⟨⟨a1,a2,a3,a5,a6,a7⟩,⟨b1,b2,b3⟩,b4⟩:=h1;have nl:∀{α:Type} {l:List α},l.length=0->l=[]:=λh=>List.eq_nil_of_length_eq_zero h
 have hk:∀p∈ps,d9 2 p=true:=λp hp=>by
  obtain⟨j,hj,rfl⟩:=List.mem_iff_getElem.1 hp;have h3:d9 2 (ps.getD j default)=true:=a9.1 h2 j hj
  rwa [List.getD_eq_getElem?_getD,List.getElem?_eq_getElem hj]at h3
 have hit:∀{p:Nat->Bool} {q:It->Prop},bg p its.length=true->(∀j,j<its.length->p j=true->q (its.getD j default))->∀x∈its,q x:=λhp hq x hx=>by
  obtain⟨j,hj,rfl⟩:=List.mem_iff_getElem.1 hx;have:=hq j hj (a9.1 hp j hj)
  rwa [List.getD_eq_getElem?_getD,List.getElem?_eq_getElem hj]at this
 have b3':k≠4->ps=[]:=λh=>nl (b3.resolve_left h)
 have i0:k=0\/k=4\/k=5->its=[]:=by
  rintro(rfl|rfl|rfl)
  ·simp at b4 a2;exact nl (by omega)
  ·simp at b4;exact nl (by simpa using b4)
  ·simp at b4;exact nl (by simpa using b4.1)
 have n5:k=0\/k=5->ns=[]:=by
  rintro(rfl|rfl)
  ·simp at b4 a2 a3;exact nl (by rcases a3 with h|h;simp[h];omega)
  ·simp at b4;exact nl (by simpa using b4.2.1)
 have hln:(its.length:Int)+ps.length<=40:=by
  by_cases h5:k=5
  ·rw[i0 (.inr (.inr h5)),b3' (by omega)];decide
  ·rw[if_neg h5]at a2;exact a2
 refine⟨a1.1,a1.2,i0,b3',by omega,by omega,?_,n5,a5,λh=>nl (b2.resolve_left h),a7,a6,λh=>b1.resolve_left h,?_,hk,?_⟩
 ·rcases a3 with h|h
  ·exact .inl (nl h)
  ·by_cases h5:k=5
   ·exact .inl (n5 (.inr h5))
   ·rw[if_neg h5]at h;exact .inr ⟨h5,by omega⟩
 ·by_cases h5:k=0\/k=4\/k=5
  ·rw[i0 h5];simp
  ·rw[if_neg (by omega),if_neg (by omega),if_neg (by omega)]at b4;exact hit b4 λj hj h=>h
 ·rintro rfl;simp at b4;exact nl (by simp[b4])
def VG:aX->Int->aX
 |.mk k its ps ns cl lv c e,m=>.mk m (if m=4 then[]else its.map (cvI k m)) (if m=4 then(if k=5 then[.mk k its ps ns cl lv c e]else ps++its.map λx=>fV k [x])else[]) ns [] [] 0 0
theorem OF{l:List aX}{m:List It}{x:It}{k:Int}{i:Nat}(h:l.length<=1048000)(hm:m.length<=100)(hi:i<m.length)(hx:x=m.getD i default):
 sN 35 8 144 (some (.sl 35 8 ((l++(m.take i).map λx=>fV k [x]).map ap))) (some (.sl 35 8 [cN k [x]]))=some [.sl 35 8 ((l++(m.take (i+1)).map λx=>fV k [x]).map ap)]:=by
 rw[<-Hl,dT (by simp;omega),bh hi,hx];simp
theorem Xz{k:Int}{its:List It}{ps:List aX}{ns cl lv:List ByteArray}{c e:Int}(h:VF k its ps ns cl lv c e)(hw:ck (.mk k its ps ns cl lv c e)<=1000000000){m:Int}(hm:k<=m\/k=5)(hm4:m<=4)(hm5:k=5->m=4):
 aB Tryz.prog 117 [(true,ap (.mk k its ps ns cl lv c e)),(false,[.sc (.int .i64 m)])] [(true,ap (VG (.mk k its ps ns cl lv c e) m),true),(false,[.sc (.bool true)],true)]:=by
 obtain⟨b1,b2,b3,b4,b5,b6⟩:=BO hw;have g1:=mN ns (by omega);have g2:=DE _ hw;have hk0:=h.k0;simp only[VG];by_cases h5:k=5
 ·have hm4:=hm5 h5;have hi:=h.i0 (.inr (.inr h5));subst hi;rw[if_pos hm4,if_pos hm4,if_pos h5];simp only[ap,al,aq,List.map_cons,List.map_nil]at g1 g2 ⊢;refine ah Tryz.func117 fS rfl ?_;simp only[dU]
  repeat' (first|(with_reducible first|refine ae ?_|refine ac ‹_› rfl ?_|refine ab ‹_› rfl ?_|refine ak (λhbr=>?_) λhbr=>?_)|simp(disch:=first|omega|(simp only[ax];omega)|simp only[av,Nat.reduceAdd]) only[go_sem,true_and])
  all_goals first|omega|(subst hm4;rfl)
 rw[if_neg h5];by_cases h4:m=4
 ·rw[if_pos h4,if_pos h4];simp only[ap,al,aq]at g1 ⊢;refine ah Tryz.func117 fS rfl ?_;simp only[dU]
  repeat' (first|(with_reducible first|refine ae ?_|refine ac ‹_› rfl ?_|refine ab ‹_› rfl ?_|refine ak (λhbr=>?_) λhbr=>?_)|simp(disch:=first|omega|(simp only[ax];omega)|simp only[av,Nat.reduceAdd]) only[go_sem,true_and])
  all_goals first|omega|skip
  refine lp (λi:Nat=>[.sc (.int .i64 i),.sl 35 8 ((ps.take i).map ap)]) (λi=>i<=ps.length) (λi=>ps.length-i) 0 rfl (Nat.zero_le _) ?_;intro i hi;simp only[kv];by_cases hlt:i<ps.length
  ·have hm:=aK hlt;have hc:=DE _ (b6 _ hm);have hix:cc 8 (some (.sl 35 8 (ps.map ap))) (some (.sc (.int .i64 (i:Int))))=some (ap (ps.getD i default)):=by rw[eL (by omega) (by omega),Int.toNat_natCast]
   have hap:=dT (t:=35) (ti:=78) (l:=ps.take i) (v:=ps.getD i default) (by simp;omega);rw[<-bh hlt]at hap;generalize ps.getD i default=x at hc hix hap;obtain⟨x0,x1,x2,x3,x4,x5,x6,x7⟩:=x;simp only[ap,al,aq]at hc hix hap
   repeat' (first|(with_reducible first|refine ae ?_|refine ac ‹_› rfl ?_|refine ab ‹_› rfl ?_|refine ak (λhbr=>?_) λhbr=>?_)|simp(disch:=first|omega|(simp only[ax];omega)|simp only[av,Nat.reduceAdd]) only[go_sem,hix,hap])
   all_goals first|omega|exact⟨i+1,rfl,by omega,by omega⟩
  ·obtain rfl:i=ps.length:=by omega
   rw[List.take_length]
   repeat' (first|(with_reducible first|refine ae ?_|refine ac ‹_› rfl ?_|refine ab ‹_› rfl ?_|refine ak (λhbr=>?_) λhbr=>?_)|simp(disch:=first|omega|(simp only[ax];omega)|simp only[av,Nat.reduceAdd]) only[go_sem,true_and])
   all_goals first|omega|skip
   refine lp (λi:Nat=>[.sc (.int .i64 i),.sl 35 8 ((ps++(its.take i).map λx=>fV k [x]).map ap)]) (λi=>i<=its.length) (λi=>its.length-i) 0 (by simp[gL]) (Nat.zero_le _) ?_;intro i hi;simp only[ky];by_cases hlt:i<its.length
   ·have hix:=cD (t:=78) (l:=its) (kd:=.i64) (z:=(i:Int)) (by omega) (by omega);rw[Int.toNat_natCast]at hix;have hap:=OF (l:=ps) (m:=its) (i:=i) (k:=k) (by have:=h.pl;omega) (by have:=h.il;omega) hlt rfl;generalize its.getD i default=x at hix hap;simp only[cN,ao,List.map_cons,List.map_nil]at hix hap
    repeat' (first|(with_reducible first|refine ae ?_|refine ac ‹_› rfl ?_|refine ab ‹_› rfl ?_|refine ak (λhbr=>?_) λhbr=>?_)|simp(disch:=first|omega|(simp only[ax];omega)|simp only[av,Nat.reduceAdd]) only[go_sem,hix,hap])
    all_goals first|omega|exact⟨i+1,rfl,by omega,by omega⟩
   ·obtain rfl:i=its.length:=by omega
    rw[List.take_length]
    repeat' (first|(with_reducible first|refine ae ?_|refine ac ‹_› rfl ?_|refine ab ‹_› rfl ?_|refine ak (λhbr=>?_) λhbr=>?_)|simp(disch:=first|omega|(simp only[ax];omega)|simp only[av,Nat.reduceAdd]) only[go_sem,true_and])
    all_goals first|omega|(subst h4;rfl)
 ·rw[if_neg h4,if_neg h4];simp only[ap,al,aq,List.map_nil]at g1 ⊢;refine ah Tryz.func117 fS rfl ?_;simp only[dU]
  repeat' (first|(with_reducible first|refine ae ?_|refine ac ‹_› rfl ?_|refine ab ‹_› rfl ?_|refine ak (λhbr=>?_) λhbr=>?_)|simp(disch:=first|omega|(simp only[ax];omega)|simp only[av,Nat.reduceAdd]) only[go_sem,true_and])
  all_goals first|omega|skip
  refine lp (λi:Nat=>[.sc (.int .i64 i),.sl 78 3 (((its.take i).map (cvI k m)).map ao)]) (λi=>i<=its.length) (λi=>its.length-i) 0 rfl (Nat.zero_le _) ?_;intro i hi;simp only[ld];by_cases hlt:i<its.length
  ·have hix:=cD (t:=78) (l:=its) (kd:=.i64) (z:=(i:Int)) (by omega) (by omega);rw[Int.toNat_natCast]at hix
   have hk1:1<=k:=by
    rcases Int.lt_or_le 0 k with h1|h1
    ·omega
    ·rw[h.i0 (.inl (by omega))]at hlt;simp at hlt
   have hc:=UJ (its.getD i default) k m ⟨hk1,by omega⟩ (by omega);have hap:((its.take i).map (cvI k m)).map ao++[ao (cvI k m (its.getD i default))]=((its.take (i+1)).map (cvI k m)).map ao:=by rw[bh hlt];simp
   generalize cvI k m (its.getD i default)=y at hc hap;generalize its.getD i default=x at hix hc;simp only[ao]at hix hc hap
   repeat' (first|(with_reducible first|refine ae ?_|refine ac ‹_› rfl ?_|refine ab ‹_› rfl ?_|refine ak (λhbr=>?_) λhbr=>?_)|simp(disch:=first|omega|(simp only[ax];omega)|simp only[av,Nat.reduceAdd]) only[go_sem,hix,qY,hap])
   all_goals first|omega|exact⟨i+1,rfl,by omega,by omega⟩
  ·obtain rfl:i=its.length:=by omega
   rw[List.take_length]
   repeat' (first|(with_reducible first|refine ae ?_|refine ac ‹_› rfl ?_|refine ab ‹_› rfl ?_|refine ak (λhbr=>?_) λhbr=>?_)|simp(disch:=first|omega|(simp only[ax];omega)|simp only[av,Nat.reduceAdd]) only[go_sem,true_and])
   all_goals first|omega|rfl
def Cd{α:Type}(f:α->α)(l:List α)(i:Nat):List α:=(l.take i).map f++l.drop i
section
variable {α:Type}{f:α->α}{l:List α}{i:Nat}
theorem Ge:Cd f l 0=l:=by simp[Cd]
theorem IP:Cd f l l.length=l.map f:=by simp[Cd]
theorem Ec:(Cd f l i).length=l.length:=by simp[Cd];omega
theorem IW[Inhabited α](h:i<l.length):(Cd f l i).getD i default=l.getD i default:=by
 have:i-min i l.length=0:=by omega
 simp[Cd,List.getElem?_append,this,Nat.min_eq_left (Nat.le_of_lt h)]
theorem Ey[Inhabited α](h:i<l.length):(Cd f l i).set i (f (l.getD i default))=Cd f l (i+1):=by
 have hlen:((l.take i).map f).length=i:=by rw[List.length_map,List.length_take];omega
 unfold Cd;rw[List.drop_eq_getElem_cons h,List.set_append_right _ _ (by omega),hlen,Nat.sub_self,List.set_cons_zero,List.take_succ_eq_append_getElem h,List.map_append,List.append_assoc,List.getD_eq_getElem?_getD,List.getElem?_eq_getElem h];rfl
theorem Fj[Inhabited α](h:i<l.length)(e:f (l.getD i default)=l.getD i default):Cd f l (i+1)=Cd f l i:=by
 rw[<-Ey h,e,<-IW (f:=f) h];apply List.ext_getElem?;intro j;rw[List.getElem?_set];split
 ·rename_i e;subst e;have:=Ec (f:=f) (l:=l) (i:=i);rw[if_pos (by omega),List.getD_eq_getElem?_getD,List.getElem?_eq_getElem (by omega)];rfl
 ·rfl
end
def zo(lv:List ByteArray)(x:It):It:=if x=bC then x else O5 (lv.getD (x.num-1).toNat default)
def Cg(k:Int)(lv:List ByteArray):Int:=if lv=[]then k else 3
def GF(lv:List ByteArray)(its:List It):List It:=if lv=[]then its else its.map (zo lv)
theorem EM{k:Int}{m:Nat}{x:It}(h:dk k m x=true)(hm:m≠0)(hx:¬x=bC):1<=x.num/\x.num<=m/\x.den≠0:=by
 unfold dk at h;simp only[Bool.and_eq_true,Bool.or_eq_true,decide_eq_true_eq]at h;have:=mW h.1;have hd:x.den≠0:=λe=>hx (this.2 e)
 omega
theorem MB{t:Nat}{l:List It}{kd:IntKind}{z:Int}{y:It}(h:0<=z)(h1:z<l.length):Ac 3 0 (some (.sl t 3 (l.map ao))) (some (.sc (.int kd z))) (some (ao y))=some [.sl t 3 ((l.set z.toNat y).map ao)]:=by
 rw[List.map_set];exact l9 (e:=ao) (k:=3) (λ_=>rfl) h h1 rfl
theorem Sd{k:Int}{its:List It}{ns cl lv:List ByteArray}{c e:Int}(h:VF k its [] ns cl lv c e)(hw:ck (.mk k its [] ns cl lv c e)<=1000000000)(h5:k≠5):
 aB Tryz.prog 83 [(true,ap (.mk k its [] ns cl lv c e))] [(true,cN (Cg k lv) (GF lv its),true)]:=by
 have g1:=DE _ hw;obtain⟨rfl,rfl⟩:=h.ce h5;have hil:=h.il;have hit:=h.it;have hlb:lv.length<=20:=by have:=h.lb;unfold dc at this;simp only[Bool.and_eq_true,decide_eq_true_eq]at this;omega
 clear h;simp only[ap,al,aq,cN,List.map_nil]at g1 ⊢;by_cases hl:lv=[]
 ·subst hl;simp only[List.map_nil]at g1;refine ah Tryz.func83 pB rfl ?_;simp only[jE]
  repeat' (first|(with_reducible first|refine ae ?_|refine ac ‹_› rfl ?_|refine ab ‹_› rfl ?_|refine ak (λhbr=>?_) λhbr=>?_)|simp(disch:=first|omega|(simp only[ax];omega)|simp only[av,Nat.reduceAdd]) only[go_sem,true_and])
  all_goals first|omega|rfl
 unfold Cg GF;rw[if_neg hl,if_neg hl];have hl0:lv.length≠0:=λe=>hl (List.eq_nil_of_length_eq_zero e)
 refine ah Tryz.func83 pB rfl ?_;simp only[jE]
 repeat' (first|(with_reducible first|refine ae ?_|refine ac ‹_› rfl ?_|refine ab ‹_› rfl ?_|refine ak (λhbr=>?_) λhbr=>?_)|simp(disch:=first|omega|(simp only[ax];omega)|simp only[av,Nat.reduceAdd]) only[go_sem,true_and])
 all_goals first|omega|skip
 refine lp (λi:Nat=>[.sc (.int .i64 i),.sl 78 3 ((Cd (zo lv) its i).map ao)]) (λi=>i<=its.length) (λi=>its.length-i) 0 (by rw[Ge];rfl) (Nat.zero_le _) ?_;intro i hi;simp only[nH];have hml:=Ec (f:=zo lv) (l:=its) (i:=i);by_cases hlt:i<its.length
 ·have hix:=cD (t:=78) (l:=its) (kd:=.i64) (z:=(i:Int)) (by omega) (by omega);rw[Int.toNat_natCast]at hix;have hs:=Ey (f:=zo lv) hlt;have hk:=Fj (f:=zo lv) hlt;have hx:=EM (hit _ (aK hlt)) hl0;have hms:=fX (its.getD i default);generalize its.getD i default=x at hix hs hk hx hms;have htx:=mL (lv.getD (x.num-1).toNat default);have hst:=λ(y:It)=>MB (t:=78) (l:=Cd (zo lv) its i) (kd:=.i64) (z:=(i:Int)) (y:=y) (by omega) (by omega)
  have hst:=hst (zo lv x);rw[Int.toNat_natCast,hs]at hst;have hch:=ja (e:=ao) (k:=3) (t:=78) (l:=Cd (zo lv) its i) (kd:=.i64) (z:=(i:Int)) (by omega) (by omega);by_cases h0:x=bC
  ·rw[decide_eq_true h0]at hms;have hk:=hk (by unfold zo;rw[if_pos h0]);simp only[ao]at hix hms
   repeat' (first|(with_reducible first|refine ae ?_|refine ac ‹_› rfl ?_|refine ab ‹_› rfl ?_|refine ak (λhbr=>?_) λhbr=>?_)|simp(disch:=first|omega|(simp only[ax];omega)|simp only[av,Nat.reduceAdd]) only[go_sem,hix,hU])
   all_goals first|omega|exact⟨i+1,by rw[hk],by omega,by omega⟩
  ·rw[decide_eq_false h0]at hms;obtain⟨x1,x2,x3⟩:=hx h0;have hpl:zo lv x=O5 (lv.getD (x.num-1).toNat default):=by unfold zo;rw[if_neg h0]
   rw[hpl]at hst;generalize hL:Cd (zo lv) its (i+1)=L at hst;simp only[ao]at hix hms hst htx
   repeat' (first|(with_reducible first|refine ae ?_|refine ac ‹_› rfl ?_|refine ab ‹_› rfl ?_|refine ak (λhbr=>?_) λhbr=>?_)|simp(disch:=first|omega|(simp only[ax];omega)|simp only[av,Nat.reduceAdd]) only[go_sem,hix,hst,hch,hU])
   all_goals first|omega|exact⟨i+1,by rw[hL],by omega,by omega⟩
 ·obtain rfl:i=its.length:=by omega
  rw[IP]
  repeat' (first|(with_reducible first|refine ae ?_|refine ac ‹_› rfl ?_|refine ab ‹_› rfl ?_|refine ak (λhbr=>?_) λhbr=>?_)|simp(disch:=first|omega|(simp only[ax];omega)|simp only[av,Nat.reduceAdd]) only[go_sem,true_and])
  all_goals first|omega|rfl
theorem SD{k:Int}{its:List It}{ns cl lv:List ByteArray}{c e:Int}(h:VF k its [] ns cl lv c e)(hw:ck (.mk k its [] ns cl lv c e)<=1000000000):
 aB Tryz.prog 99 [(true,ap (.mk k its [] ns cl lv c e))] [(true,cN (Cg k lv) (GF lv its),true)]:=by
 obtain⟨b1,-,b3,b4,b5,-⟩:=BO hw;have hil:=h.il;have hit:=h.it;have hlb:lv.length<=20:=by have:=h.lb;unfold dc at this;simp only[Bool.and_eq_true,decide_eq_true_eq]at this;omega
 clear h;simp only[ap,al,aq,cN,List.map_nil];by_cases hl:lv=[]
 ·subst hl;simp only[List.map_nil];refine ah Tryz.func99 mt rfl ?_;simp only[fO]
  repeat' (first|(with_reducible first|refine ae ?_|refine ac ‹_› rfl ?_|refine ab ‹_› rfl ?_|refine ak (λhbr=>?_) λhbr=>?_)|simp(disch:=first|omega|(simp only[ax];omega)|simp only[av,Nat.reduceAdd]) only[go_sem,EY,eW])
  all_goals refine lp (λi:Nat=>[.sc (.int .i64 i),.sc (.int .i64 k),.sl 78 3 (its.map ao)]) (λi=>True) (λi=>0) 0 (by first|rfl|(simp only[List.isEmpty_iff]at *;simp_all[gL])) trivial ?_
  all_goals
   intro i _;simp only[fl]
   repeat' (first|(with_reducible first|refine ae ?_|refine ac ‹_› rfl ?_|refine ab ‹_› rfl ?_|refine ak (λhbr=>?_) λhbr=>?_)|simp(disch:=first|omega|(simp only[ax];omega)|simp only[av,Nat.reduceAdd]) only[go_sem,true_and])
   all_goals first|omega|rfl
 unfold Cg GF;rw[if_neg hl,if_neg hl];have hl0:lv.length≠0:=λe=>hl (List.eq_nil_of_length_eq_zero e)
 refine ah Tryz.func99 mt rfl ?_;simp only[fO]
 repeat' (first|(with_reducible first|refine ae ?_|refine ac ‹_› rfl ?_|refine ab ‹_› rfl ?_|refine ak (λhbr=>?_) λhbr=>?_)|simp(disch:=first|omega|(simp only[ax];omega)|simp only[av,Nat.reduceAdd]) only[go_sem,EY,eW])
 all_goals refine lp (λi:Nat=>[.sc (.int .i64 i),.sc (.int .i64 (if i=0 then k else 3)),.sl 78 3 ((Cd (zo lv) its i).map ao)]) (λi=>i<=its.length) (λi=>its.length-i) 0 (by rw[Ge];first|rfl|(simp only[List.isEmpty_iff]at *;simp_all[gL])) (Nat.zero_le _) ?_
 all_goals
  intro i hi;simp only[fl];have hml:=Ec (f:=zo lv) (l:=its) (i:=i);by_cases hlt:i<its.length
  ·have hix:=cD (t:=78) (l:=its) (kd:=.i64) (z:=(i:Int)) (by omega) (by omega);have hix2:=cD (t:=78) (l:=Cd (zo lv) its i) (kd:=.i64) (z:=(i:Int)) (by omega) (by omega);rw[Int.toNat_natCast]at hix hix2;rw[IW hlt]at hix2;have hs:=Ey (f:=zo lv) hlt;have hk:=Fj (f:=zo lv) hlt;have hx:=EM (hit _ (aK hlt)) hl0;have hst:=λ(y:It)=>MB (t:=78) (l:=Cd (zo lv) its i) (kd:=.i64) (z:=(i:Int)) (y:=y) (by omega) (by omega)
   generalize its.getD i default=x at hix hix2 hs hk hx;have htx:=ug (lv.getD (x.num-1).toNat default);have hst:=hst (zo lv x);rw[Int.toNat_natCast,hs]at hst;have hch:=ja (e:=ao) (k:=3) (t:=78) (l:=Cd (zo lv) its i) (kd:=.i64) (z:=(i:Int)) (by omega) (by omega);have hch2:=ja (e:=ao) (k:=3) (t:=78) (l:=its) (kd:=.i64) (z:=(i:Int)) (by omega) (by omega);by_cases h0:x=bC
   ·have hk:=hk (by unfold zo;rw[if_pos h0]);have hd:x.den=0:=by rw[h0];rfl
    simp only[ao]at hix hix2
    repeat' (first|(with_reducible first|refine ae ?_|refine ac ‹_› rfl ?_|refine ab ‹_› rfl ?_|refine ak (λhbr=>?_) λhbr=>?_)|simp(disch:=first|omega|(simp only[ax];omega)|simp only[av,Nat.reduceAdd]) only[go_sem,hix,hix2,hch,hch2,eU])
    all_goals first|omega|exact⟨i+1,by rw[hk];simp,by omega,by omega⟩
   ·obtain⟨x1,x2,x3⟩:=hx h0;have hpl:zo lv x=O5 (lv.getD (x.num-1).toNat default):=by unfold zo;rw[if_neg h0]
    rw[hpl]at hst;generalize hL:Cd (zo lv) its (i+1)=L at hst;simp only[ao]at hix hix2 hst htx
    repeat' (first|(with_reducible first|refine ae ?_|refine ac ‹_› rfl ?_|refine ab ‹_› rfl ?_|refine ak (λhbr=>?_) λhbr=>?_)|simp(disch:=first|omega|(simp only[ax];omega)|simp only[av,Nat.reduceAdd]) only[go_sem,hix,hix2,hst,hch,hch2,eU])
    all_goals first|omega|exact⟨i+1,by rw[hL];simp,by omega,by omega⟩
  ·obtain rfl:i=its.length:=by omega
   rw[IP]
   repeat' (first|(with_reducible first|refine ae ?_|refine ac ‹_› rfl ?_|refine ab ‹_› rfl ?_|refine ak (λhbr=>?_) λhbr=>?_)|simp(disch:=first|omega|(simp only[ax];omega)|simp only[av,Nat.reduceAdd]) only[go_sem,true_and])
   all_goals first|omega|rfl
end Go.Proofs.YtliknccmjjncbaaGreat
namespace Go.Proofs.YtliknccmjjncbaaGreat
open Go.RowKit
set_option maxRecDepth 100000
def pj:ByteArray:=⟨#[60,78,65,62]⟩
def cz{α:Type}[Inhabited α](l:List α)(d:α)(p:Int):α:=if 1<=p/\p<=l.length then l.getD (p-1).toNat default else d
def de:aX->List Int->aX
 |.mk k its ps ns cl lv c e,l=>.mk k (if k=4 then[]else l.map (cz its bC)) (if k=4 then l.map (cz ps (fV 0 []))else[]) (K7 (if ns=[]then[]else l.map (cz ns pj))) (if lv=[]then[]else cl) (if lv=[]then[]else lv) 0 0
theorem uW{l:List aX}(h:l.length<=1000000000):sN 35 8 144 (some (.sl 35 8 (l.map ap))) (some (.sl 35 8 [cN 0 []]))=some [.sl 35 8 ((l++[fV 0 []]).map ap)]:=by
 rw[<-Hl,dT h]
theorem sG{α:Type}[Inhabited α]{l:List α}{d:α}{p:Int}(h:1<=p)(h':p<=l.length):cz l d p=l.getD (p-1).toNat default:=if_pos ⟨h,h'⟩
theorem qo{α:Type}[Inhabited α]{l:List α}{d:α}{p:Int}(h:¬(1<=p/\p<=l.length)):cz l d p=d:=if_neg h
set_option maxHeartbeats 2000000 in
theorem Xb{k:Int}{its:List It}{ps:List aX}{ns cl lv:List ByteArray}{c e:Int}(h:VF k its ps ns cl lv c e)(hw:ck (.mk k its ps ns cl lv c e)<=1000000000)(hk:1<=k/\k<=4)(l:List Int)(hl:l.length<=1000000):
 aB Tryz.prog 35 [(true,ap (.mk k its ps ns cl lv c e)),(false,[aZ l])] [(true,ap (de (.mk k its ps ns cl lv c e) l),true)]:=by
 obtain⟨b1,b2,b3,b4,b5,b6⟩:=BO hw;have g1:=Gy k [] [] [] [] [] 0 0 k its ps ns cl lv c e b4 b5;have g2:=xN k its ps ns cl lv c e (BO hw);have hln:lC k its.length ps.length=(its.length+ps.length:Nat):=by unfold lC;rw[if_neg (by omega)];omega
 rw[hln]at g2;have g3:=JE k (if k=4 then[]else l.map (cz its bC)) (if k=4 then l.map (cz ps (fV 0 []))else[]) (if ns=[]then[]else l.map (cz ns pj)) (if lv=[]then[]else cl) (if lv=[]then[]else lv) 0 0 (by split<;>simp;omega);simp only[de];generalize (if lv=[]then([]:List ByteArray)else cl)=cl' at *;generalize (if lv=[]then([]:List ByteArray)else lv)=lv' at *;generalize K7 (if ns=[]then[]else l.map (cz ns pj))=ns' at *;have hi4:k=4->its=[]:=λe=>h.i0 (.inr (.inl e))
 have hp4:=h.p0;have hnl:=h.nl;clear h hln;simp only[ap,al,aq,aZ,List.map_nil]at g1 g2 g3 ⊢;refine ah Tryz.func35 yA rfl ?_;simp only[nU]
 repeat' (first|(with_reducible first|refine ae ?_|refine ac ‹_› rfl ?_|refine ab ‹_› rfl ?_|refine ak (λhbr=>?_) λhbr=>?_)|simp(disch:=first|omega|(simp only[ax];omega)|simp only[av,Nat.reduceAdd]) only[go_sem,true_and])
 refine nv (f:=76) (bits:=1) (by decide) g1 rfl ?_
 repeat' (first|(with_reducible first|refine ae ?_|refine ac ‹_› rfl ?_|refine ab ‹_› rfl ?_|refine ak (λhbr=>?_) λhbr=>?_)|simp(disch:=first|omega|(simp only[ax];omega)|simp only[av,Nat.reduceAdd]) only[go_sem,true_and])
 refine lp (λi:Nat=>[.sc (.int .i64 i),.sl 9 1 ((if ns=[]then[]else(l.take i).map (cz ns pj)).map bG),.sl 35 8 ((if k=4 then(l.take i).map (cz ps (fV 0 []))else[]).map ap),.sl 78 3 ((if k=4 then[]else(l.take i).map (cz its bC)).map ao)]) (λi=>i<=l.length) (λi=>l.length-i) 0 (by simp[gL]) (Nat.zero_le _) ?_;intro i hi;simp only[mb];by_cases hlt:i<l.length
 ·have hz:=Cm (t:=3) (l:=l) (kd:=.i64) (z:=(i:Int)) (by omega) (by omega);rw[Int.toNat_natCast]at hz;have ht:l.take (i+1)=l.take i++[l.getD i default]:=bh hlt;generalize l.getD i default=p at hz ht;have e1:=@sG It _ its bC p;have e2:=@sG aX _ ps (fV 0 []) p;have e3:=@sG ByteArray _ ns pj p;have f1:=@qo It _ its bC p;have f2:=@qo aX _ ps (fV 0 []) p;have f3:=@qo ByteArray _ ns pj p;by_cases h4:k=4
  ·have hits:=hi4 h4;subst hits h4;simp only[if_true,List.length_nil,Nat.zero_add,List.map_nil]at g2 ⊢;by_cases hn:ns=[]
   ·simp only[if_pos hn];subst hn;clear hnl;simp only[List.map_nil]at g2 ⊢;by_cases hin:1<=p/\p<=ps.length
    ·have hm:=aK (l:=ps) (i:=(p-1).toNat) (by omega);have hc:=DE _ (b6 _ hm);have hix:cc 8 (some (.sl 35 8 (ps.map ap))) (some (.sc (.int .i64 (p-1))))=some (ap (ps.getD (p-1).toNat default)):=eL (by omega) (by omega);have hap:=dT (t:=35) (ti:=78) (l:=(l.take i).map (cz ps (fV 0 []))) (v:=ps.getD (p-1).toNat default) (by simp;omega);have hM:(l.take i).map (cz ps (fV 0 []))++[ps.getD (p-1).toNat default]=(l.take (i+1)).map (cz ps (fV 0 [])):=by rw[ht,List.map_append,List.map_singleton,e2 hin.1 hin.2]
     rw[hM]at hap;generalize ps.getD (p-1).toNat default=x at hc hix hap;obtain⟨x0,x1,x2,x3,x4,x5,x6,x7⟩:=x;simp only[ap,al,aq]at hc hix hap
     repeat' (first|(with_reducible first|refine ae ?_|refine ac ‹_› rfl ?_|refine ab ‹_› rfl ?_|refine ak (λhbr=>?_) λhbr=>?_)|simp(disch:=first|omega|(simp only[ax];omega)|simp only[av,Nat.reduceAdd]) only[go_sem,hz,hix,hap,bw,bu,bq,bx])
     all_goals first|omega|exact⟨i+1,rfl,by omega,by omega⟩|skip
    ·have hap:=uW (l:=(l.take i).map (cz ps (fV 0 []))) (by simp;omega);have hM:(l.take i).map (cz ps (fV 0 []))++[fV 0 []]=(l.take (i+1)).map (cz ps (fV 0 [])):=by rw[ht,List.map_append,List.map_singleton,f2 hin]
     rw[hM]at hap;simp only[cN,List.map_nil]at hap
     repeat' (first|(with_reducible first|refine ae ?_|refine ac ‹_› rfl ?_|refine ab ‹_› rfl ?_|refine ak (λhbr=>?_) λhbr=>?_)|simp(disch:=first|omega|(simp only[ax];omega)|simp only[av,Nat.reduceAdd]) only[go_sem,hz,hap,bw,bu,bq,bx])
     all_goals first|omega|exact⟨i+1,rfl,by omega,by omega⟩|skip
   ·simp only[if_neg hn];have hnl:=(hnl.resolve_left hn).2;simp only[List.length_nil,Nat.zero_add]at hnl;have hn0:ns.length≠0:=λe=>hn (List.eq_nil_of_length_eq_zero e)
    by_cases hin:1<=p/\p<=ps.length
    ·have hm:=aK (l:=ps) (i:=(p-1).toNat) (by omega);have hc:=DE _ (b6 _ hm);have hix:cc 8 (some (.sl 35 8 (ps.map ap))) (some (.sc (.int .i64 (p-1))))=some (ap (ps.getD (p-1).toNat default)):=eL (by omega) (by omega);have hap:=dT (t:=35) (ti:=78) (l:=(l.take i).map (cz ps (fV 0 []))) (v:=ps.getD (p-1).toNat default) (by simp;omega);have hM:(l.take i).map (cz ps (fV 0 []))++[ps.getD (p-1).toNat default]=(l.take (i+1)).map (cz ps (fV 0 [])):=by rw[ht,List.map_append,List.map_singleton,e2 hin.1 hin.2]
     rw[hM]at hap;have hN:(l.take i).map (cz ns pj)++[ns.getD (p-1).toNat default]=(l.take (i+1)).map (cz ns pj):=by rw[ht,List.map_append,List.map_singleton,e3 hin.1 (by omega)]
     generalize ps.getD (p-1).toNat default=x at hc hix hap;obtain⟨x0,x1,x2,x3,x4,x5,x6,x7⟩:=x;simp only[ap,al,aq]at hc hix hap
     repeat' (first|(with_reducible first|refine ae ?_|refine ac ‹_› rfl ?_|refine ab ‹_› rfl ?_|refine ak (λhbr=>?_) λhbr=>?_)|simp(disch:=first|omega|(simp only[ax];omega)|simp only[av,Nat.reduceAdd]) only[go_sem,hz,hix,hap,hN,bw,bu,bq,bx])
     all_goals first|omega|exact⟨i+1,rfl,by omega,by omega⟩|skip
    ·have hap:=uW (l:=(l.take i).map (cz ps (fV 0 []))) (by simp;omega);have hM:(l.take i).map (cz ps (fV 0 []))++[fV 0 []]=(l.take (i+1)).map (cz ps (fV 0 [])):=by rw[ht,List.map_append,List.map_singleton,f2 hin]
     rw[hM]at hap;simp only[cN,List.map_nil]at hap;have hN:(l.take i).map (cz ns pj)++[pj]=(l.take (i+1)).map (cz ns pj):=by rw[ht,List.map_append,List.map_singleton,f3 (by omega)]
     unfold pj at hN ⊢
     repeat' (first|(with_reducible first|refine ae ?_|refine ac ‹_› rfl ?_|refine ab ‹_› rfl ?_|refine ak (λhbr=>?_) λhbr=>?_)|simp(disch:=first|omega|(simp only[ax];omega)|simp only[av,Nat.reduceAdd]) only[go_sem,hz,hap,hN,bw,bu,bq,bx])
     all_goals first|omega|exact⟨i+1,rfl,by omega,by omega⟩|skip
  ·have hps:=hp4 h4;subst hps;simp only[if_neg h4,List.length_nil,Nat.add_zero,List.map_nil]at g2 ⊢;by_cases hn:ns=[]
   ·simp only[if_pos hn];subst hn;clear hnl;simp only[List.map_nil]at g2 ⊢;by_cases hin:1<=p/\p<=its.length
    ·have hix:cc 3 (some (.sl 78 3 (its.map ao))) (some (.sc (.int .i64 (p-1))))=some (ao (its.getD (p-1).toNat default)):=cD (by omega) (by omega);have hM:(l.take i).map (cz its bC)++[its.getD (p-1).toNat default]=(l.take (i+1)).map (cz its bC):=by rw[ht,List.map_append,List.map_singleton,e1 hin.1 hin.2]
     generalize its.getD (p-1).toNat default=x at hix hM;have hM:=congrArg (List.map ao) hM;simp only[ao,List.map_append,List.map_cons,List.map_nil]at hix hM
     repeat' (first|(with_reducible first|refine ae ?_|refine ac ‹_› rfl ?_|refine ab ‹_› rfl ?_|refine ak (λhbr=>?_) λhbr=>?_)|simp(disch:=first|omega|(simp only[ax];omega)|simp only[av,Nat.reduceAdd]) only[go_sem,hz,hix,qY,hM,h4,bw,bu,bq,bx])
     all_goals first|omega|exact⟨i+1,rfl,by omega,by omega⟩|skip
    ·have hM:(l.take i).map (cz its bC)++[bC]=(l.take (i+1)).map (cz its bC):=by rw[ht,List.map_append,List.map_singleton,f1 hin]
     have hM:((l.take i).map (cz its bC)).map ao++[[.sc (.int .i64 0),.sc (.int .i64 0),.sc (.string ⟨#[]⟩)]]=((l.take (i+1)).map (cz its bC)).map ao:=by rw[<-hM,List.map_append];rfl
     repeat' (first|(with_reducible first|refine ae ?_|refine ac ‹_› rfl ?_|refine ab ‹_› rfl ?_|refine ak (λhbr=>?_) λhbr=>?_)|simp(disch:=first|omega|(simp only[ax];omega)|simp only[av,Nat.reduceAdd]) only[go_sem,hz,qY,hM,h4,bw,bu,bq,bx])
     all_goals first|omega|exact⟨i+1,rfl,by omega,by omega⟩|skip
   ·simp only[if_neg hn];have hnl:=(hnl.resolve_left hn).2;simp only[List.length_nil,Nat.add_zero]at hnl;have hn0:ns.length≠0:=λe=>hn (List.eq_nil_of_length_eq_zero e)
    by_cases hin:1<=p/\p<=its.length
    ·have hix:cc 3 (some (.sl 78 3 (its.map ao))) (some (.sc (.int .i64 (p-1))))=some (ao (its.getD (p-1).toNat default)):=cD (by omega) (by omega);have hM:(l.take i).map (cz its bC)++[its.getD (p-1).toNat default]=(l.take (i+1)).map (cz its bC):=by rw[ht,List.map_append,List.map_singleton,e1 hin.1 hin.2]
     have hN:(l.take i).map (cz ns pj)++[ns.getD (p-1).toNat default]=(l.take (i+1)).map (cz ns pj):=by rw[ht,List.map_append,List.map_singleton,e3 hin.1 (by omega)]
     generalize its.getD (p-1).toNat default=x at hix hM;have hM:=congrArg (List.map ao) hM;simp only[ao,List.map_append,List.map_cons,List.map_nil]at hix hM
     repeat' (first|(with_reducible first|refine ae ?_|refine ac ‹_› rfl ?_|refine ab ‹_› rfl ?_|refine ak (λhbr=>?_) λhbr=>?_)|simp(disch:=first|omega|(simp only[ax];omega)|simp only[av,Nat.reduceAdd]) only[go_sem,hz,hix,qY,hM,h4,hN,bw,bu,bq,bx])
     all_goals first|omega|exact⟨i+1,rfl,by omega,by omega⟩|skip
    ·have hM:(l.take i).map (cz its bC)++[bC]=(l.take (i+1)).map (cz its bC):=by rw[ht,List.map_append,List.map_singleton,f1 hin]
     have hM:((l.take i).map (cz its bC)).map ao++[[.sc (.int .i64 0),.sc (.int .i64 0),.sc (.string ⟨#[]⟩)]]=((l.take (i+1)).map (cz its bC)).map ao:=by rw[<-hM,List.map_append];rfl
     have hN:(l.take i).map (cz ns pj)++[pj]=(l.take (i+1)).map (cz ns pj):=by rw[ht,List.map_append,List.map_singleton,f3 (by omega)]
     unfold pj at hN ⊢
     repeat' (first|(with_reducible first|refine ae ?_|refine ac ‹_› rfl ?_|refine ab ‹_› rfl ?_|refine ak (λhbr=>?_) λhbr=>?_)|simp(disch:=first|omega|(simp only[ax];omega)|simp only[av,Nat.reduceAdd]) only[go_sem,hz,qY,hM,h4,hN,bw,bu,bq,bx])
     all_goals first|omega|exact⟨i+1,rfl,by omega,by omega⟩|skip
 ·obtain rfl:i=l.length:=by omega
  rw[List.take_length]
  repeat' (first|(with_reducible first|refine ae ?_|refine ac ‹_› rfl ?_|refine ab ‹_› rfl ?_|refine ak (λhbr=>?_) λhbr=>?_)|simp(disch:=first|omega|(simp only[ax];omega)|simp only[av,Nat.reduceAdd]) only[go_sem,true_and])
  all_goals first|omega|skip
  refine nv (f:=78) (bits:=1) (by decide) g3 rfl ?_
  repeat' (first|(with_reducible first|refine ae ?_|refine ac ‹_› rfl ?_|refine ab ‹_› rfl ?_|refine ak (λhbr=>?_) λhbr=>?_)|simp(disch:=first|omega|(simp only[ax];omega)|simp only[av,Nat.reduceAdd]) only[go_sem,true_and])
  all_goals first|omega|rfl
set_option maxHeartbeats 4000000 in
theorem Sq{k:Int}{its:List It}{ps:List aX}{ns cl lv:List ByteArray}{c e:Int}(hv:d9 3 (.mk k its ps ns cl lv c e)=true)(hw:ck (.mk k its ps ns cl lv c e)<=1000000000)(hk:1<=k/\k<=4)(l:List Int)(hl:l.length<=1000000)(hr:∀p∈l,0<=p/\p<=1000000):
 aB Tryz.prog 60 [(true,ap (.mk k its ps ns cl lv c e)),(false,[aZ l])] [(true,ap (de (.mk k its ps ns cl lv c e) l),true)]:=by
 have h:=vf hv;obtain⟨b1,b2,b3,b4,b5,b6⟩:=BO hw;have g2:=H0 k its ps ns cl lv c e (BO hw);have hln:lC k its.length ps.length=(its.length+ps.length:Nat):=by unfold lC;rw[if_neg (by omega)];omega
 rw[hln]at g2;have g3:=NT k (if k=4 then[]else l.map (cz its bC)) (if k=4 then l.map (cz ps (fV 0 []))else[]) (if ns=[]then[]else l.map (cz ns pj)) (if lv=[]then[]else cl) (if lv=[]then[]else lv) 0 0 (by split<;>simp;omega);simp only[de]
 have hcl:(lv=[]/\(if lv=[]then([]:List ByteArray)else cl)=[]/\(if lv=[]then([]:List ByteArray)else lv)=[])\/(lv.length≠0/\(if lv=[]then([]:List ByteArray)else cl)=cl/\(if lv=[]then([]:List ByteArray)else lv)=lv):=by
  by_cases h:lv=[]
  ·exact .inl ⟨h,if_pos h,if_pos h⟩
  ·exact .inr ⟨λe=>h (List.eq_nil_of_length_eq_zero e),if_neg h,if_neg h⟩
 generalize (if lv=[]then([]:List ByteArray)else cl)=cl' at *;generalize (if lv=[]then([]:List ByteArray)else lv)=lv' at *;generalize K7 (if ns=[]then[]else l.map (cz ns pj))=ns' at *;have hi4:k=4->its=[]:=λe=>h.i0 (.inr (.inl e))
 have hp4:=h.p0;have hnl:=h.nl;have hkd:∀p∈ps,d9 3 p=true:=λp hp=>gZ 2 p (h.kd p hp)
 clear h hln hv;simp only[ap,al,aq,aZ,List.map_nil]at g2 g3 ⊢;refine ah Tryz.func60 zj rfl ?_;simp only[nD];rcases hcl with⟨rfl,rfl,rfl⟩|⟨hcl,rfl,rfl⟩
 all_goals (try simp only[List.map_nil]at g2 g3 ⊢)
 all_goals repeat' (first|(with_reducible first|refine ae ?_|refine ac ‹_› rfl ?_|refine ab ‹_› rfl ?_|refine ak (λhbr=>?_) λhbr=>?_)|simp(disch:=first|omega|(simp only[ax];omega)|simp only[av,Nat.reduceAdd]) only[go_sem,ma])
 all_goals first|omega|skip
 all_goals refine lp (λi:Nat=>[.sc (.int .i64 i),.sl 9 1 ((if ns=[]then[]else(l.take i).map (cz ns pj)).map bG),.sl 35 8 ((if k=4 then(l.take i).map (cz ps (fV 0 []))else[]).map ap),.sl 78 3 ((if k=4 then[]else(l.take i).map (cz its bC)).map ao)]) (λi=>i<=l.length) (λi=>l.length-i) 0 (by simp[gL]) (Nat.zero_le _) ?_
 all_goals
  intro i hi;simp only[mz];by_cases hlt:i<l.length
  ·have hz:=Cm (t:=3) (l:=l) (kd:=.i64) (z:=(i:Int)) (by omega) (by omega);rw[Int.toNat_natCast]at hz;have ht:l.take (i+1)=l.take i++[l.getD i default]:=bh hlt;have hpr:=hr _ (aK hlt);have hq:=VN (l.getD i default-1) 0 ((its.length+ps.length:Nat)-1);generalize l.getD i default=p at hz ht hq hpr;have e1:=@sG It _ its bC p;have e2:=@sG aX _ ps (fV 0 []) p;have e3:=@sG ByteArray _ ns pj p;have f1:=@qo It _ its bC p;have f2:=@qo aX _ ps (fV 0 []) p;have f3:=@qo ByteArray _ ns pj p;by_cases h4:k=4
   ·have hits:=hi4 h4;subst hits h4;simp only[if_true,List.length_nil,Nat.zero_add,List.map_nil]at g2 hq ⊢;by_cases hn:ns=[]
    ·simp only[if_pos hn];subst hn;clear hnl;simp only[List.map_nil]at g2 hq ⊢;by_cases hin:1<=p/\p<=ps.length
     ·rw[decide_eq_true (by omega)]at hq;have hm:=aK (l:=ps) (i:=(p-1).toNat) (by omega);have hc:=MU _ (b6 _ hm) (B0 (hkd _ hm)) (AX (hkd _ hm));have hix:cc 8 (some (.sl 35 8 (ps.map ap))) (some (.sc (.int .i64 (p-1))))=some (ap (ps.getD (p-1).toNat default)):=eL (by omega) (by omega);have hap:=dT (t:=35) (ti:=78) (l:=(l.take i).map (cz ps (fV 0 []))) (v:=ps.getD (p-1).toNat default) (by simp;omega);have hM:(l.take i).map (cz ps (fV 0 []))++[ps.getD (p-1).toNat default]=(l.take (i+1)).map (cz ps (fV 0 [])):=by rw[ht,List.map_append,List.map_singleton,e2 hin.1 hin.2]
      rw[hM]at hap;generalize ps.getD (p-1).toNat default=x at hc hix hap;obtain⟨x0,x1,x2,x3,x4,x5,x6,x7⟩:=x;simp only[ap,al,aq]at hc hix hap
      repeat' (first|(with_reducible first|refine ae ?_|refine ac ‹_› rfl ?_|refine ab ‹_› rfl ?_|refine ak (λhbr=>?_) λhbr=>?_)|simp(disch:=first|omega|(simp only[ax];omega)|simp only[av,Nat.reduceAdd]) only[go_sem,hz,hix,hap,br,bz,bv])
      all_goals first|omega|exact⟨i+1,rfl,by omega,by omega⟩|skip
     ·rw[decide_eq_false (by omega)]at hq;have hap:=uW (l:=(l.take i).map (cz ps (fV 0 []))) (by simp;omega);have hM:(l.take i).map (cz ps (fV 0 []))++[fV 0 []]=(l.take (i+1)).map (cz ps (fV 0 [])):=by rw[ht,List.map_append,List.map_singleton,f2 hin]
      rw[hM]at hap;simp only[cN,List.map_nil]at hap
      repeat' (first|(with_reducible first|refine ae ?_|refine ac ‹_› rfl ?_|refine ab ‹_› rfl ?_|refine ak (λhbr=>?_) λhbr=>?_)|simp(disch:=first|omega|(simp only[ax];omega)|simp only[av,Nat.reduceAdd]) only[go_sem,hz,hap,br,bz,bv])
      all_goals first|omega|exact⟨i+1,rfl,by omega,by omega⟩|skip
    ·simp only[if_neg hn];have hnl:=(hnl.resolve_left hn).2;simp only[List.length_nil,Nat.zero_add]at hnl;have hn0:ns.length≠0:=λe=>hn (List.eq_nil_of_length_eq_zero e)
     by_cases hin:1<=p/\p<=ps.length
     ·rw[decide_eq_true (by omega)]at hq;have hm:=aK (l:=ps) (i:=(p-1).toNat) (by omega);have hc:=MU _ (b6 _ hm) (B0 (hkd _ hm)) (AX (hkd _ hm));have hix:cc 8 (some (.sl 35 8 (ps.map ap))) (some (.sc (.int .i64 (p-1))))=some (ap (ps.getD (p-1).toNat default)):=eL (by omega) (by omega);have hap:=dT (t:=35) (ti:=78) (l:=(l.take i).map (cz ps (fV 0 []))) (v:=ps.getD (p-1).toNat default) (by simp;omega);have hM:(l.take i).map (cz ps (fV 0 []))++[ps.getD (p-1).toNat default]=(l.take (i+1)).map (cz ps (fV 0 [])):=by rw[ht,List.map_append,List.map_singleton,e2 hin.1 hin.2]
      rw[hM]at hap;have hN:(l.take i).map (cz ns pj)++[ns.getD (p-1).toNat default]=(l.take (i+1)).map (cz ns pj):=by rw[ht,List.map_append,List.map_singleton,e3 hin.1 (by omega)]
      generalize ps.getD (p-1).toNat default=x at hc hix hap;obtain⟨x0,x1,x2,x3,x4,x5,x6,x7⟩:=x;simp only[ap,al,aq]at hc hix hap
      repeat' (first|(with_reducible first|refine ae ?_|refine ac ‹_› rfl ?_|refine ab ‹_› rfl ?_|refine ak (λhbr=>?_) λhbr=>?_)|simp(disch:=first|omega|(simp only[ax];omega)|simp only[av,Nat.reduceAdd]) only[go_sem,hz,hix,hap,hN,br,bz,bv])
      all_goals first|omega|exact⟨i+1,rfl,by omega,by omega⟩|skip
     ·rw[decide_eq_false (by omega)]at hq;have hap:=uW (l:=(l.take i).map (cz ps (fV 0 []))) (by simp;omega);have hM:(l.take i).map (cz ps (fV 0 []))++[fV 0 []]=(l.take (i+1)).map (cz ps (fV 0 [])):=by rw[ht,List.map_append,List.map_singleton,f2 hin]
      rw[hM]at hap;simp only[cN,List.map_nil]at hap;have hN:(l.take i).map (cz ns pj)++[pj]=(l.take (i+1)).map (cz ns pj):=by rw[ht,List.map_append,List.map_singleton,f3 (by omega)]
      unfold pj at hN ⊢
      repeat' (first|(with_reducible first|refine ae ?_|refine ac ‹_› rfl ?_|refine ab ‹_› rfl ?_|refine ak (λhbr=>?_) λhbr=>?_)|simp(disch:=first|omega|(simp only[ax];omega)|simp only[av,Nat.reduceAdd]) only[go_sem,hz,hap,hN,br,bz,bv])
      all_goals first|omega|exact⟨i+1,rfl,by omega,by omega⟩|skip
   ·have hps:=hp4 h4;subst hps;simp only[if_neg h4,List.length_nil,Nat.add_zero,List.map_nil]at g2 hq ⊢;by_cases hn:ns=[]
    ·simp only[if_pos hn];subst hn;clear hnl;simp only[List.map_nil]at g2 hq ⊢;by_cases hin:1<=p/\p<=its.length
     ·rw[decide_eq_true (by omega)]at hq;have hix:cc 3 (some (.sl 78 3 (its.map ao))) (some (.sc (.int .i64 (p-1))))=some (ao (its.getD (p-1).toNat default)):=cD (by omega) (by omega);have hM:(l.take i).map (cz its bC)++[its.getD (p-1).toNat default]=(l.take (i+1)).map (cz its bC):=by rw[ht,List.map_append,List.map_singleton,e1 hin.1 hin.2]
      generalize its.getD (p-1).toNat default=x at hix hM;have hM:=congrArg (List.map ao) hM;simp only[ao,List.map_append,List.map_cons,List.map_nil]at hix hM
      repeat' (first|(with_reducible first|refine ae ?_|refine ac ‹_› rfl ?_|refine ab ‹_› rfl ?_|refine ak (λhbr=>?_) λhbr=>?_)|simp(disch:=first|omega|(simp only[ax];omega)|simp only[av,Nat.reduceAdd]) only[go_sem,hz,hix,qY,hM,h4,br,bz,bv])
      all_goals first|omega|exact⟨i+1,rfl,by omega,by omega⟩|skip
     ·rw[decide_eq_false (by omega)]at hq;have hM:(l.take i).map (cz its bC)++[bC]=(l.take (i+1)).map (cz its bC):=by rw[ht,List.map_append,List.map_singleton,f1 hin]
      have hM:((l.take i).map (cz its bC)).map ao++[[.sc (.int .i64 0),.sc (.int .i64 0),.sc (.string ⟨#[]⟩)]]=((l.take (i+1)).map (cz its bC)).map ao:=by rw[<-hM,List.map_append];rfl
      repeat' (first|(with_reducible first|refine ae ?_|refine ac ‹_› rfl ?_|refine ab ‹_› rfl ?_|refine ak (λhbr=>?_) λhbr=>?_)|simp(disch:=first|omega|(simp only[ax];omega)|simp only[av,Nat.reduceAdd]) only[go_sem,hz,qY,hM,h4,br,bz,bv])
      all_goals first|omega|exact⟨i+1,rfl,by omega,by omega⟩|skip
    ·simp only[if_neg hn];have hnl:=(hnl.resolve_left hn).2;simp only[List.length_nil,Nat.add_zero]at hnl;have hn0:ns.length≠0:=λe=>hn (List.eq_nil_of_length_eq_zero e)
     by_cases hin:1<=p/\p<=its.length
     ·rw[decide_eq_true (by omega)]at hq;have hix:cc 3 (some (.sl 78 3 (its.map ao))) (some (.sc (.int .i64 (p-1))))=some (ao (its.getD (p-1).toNat default)):=cD (by omega) (by omega);have hM:(l.take i).map (cz its bC)++[its.getD (p-1).toNat default]=(l.take (i+1)).map (cz its bC):=by rw[ht,List.map_append,List.map_singleton,e1 hin.1 hin.2]
      have hN:(l.take i).map (cz ns pj)++[ns.getD (p-1).toNat default]=(l.take (i+1)).map (cz ns pj):=by rw[ht,List.map_append,List.map_singleton,e3 hin.1 (by omega)]
      generalize its.getD (p-1).toNat default=x at hix hM;have hM:=congrArg (List.map ao) hM;simp only[ao,List.map_append,List.map_cons,List.map_nil]at hix hM
      repeat' (first|(with_reducible first|refine ae ?_|refine ac ‹_› rfl ?_|refine ab ‹_› rfl ?_|refine ak (λhbr=>?_) λhbr=>?_)|simp(disch:=first|omega|(simp only[ax];omega)|simp only[av,Nat.reduceAdd]) only[go_sem,hz,hix,qY,hM,h4,hN,br,bz,bv])
      all_goals first|omega|exact⟨i+1,rfl,by omega,by omega⟩|skip
     ·rw[decide_eq_false (by omega)]at hq;have hM:(l.take i).map (cz its bC)++[bC]=(l.take (i+1)).map (cz its bC):=by rw[ht,List.map_append,List.map_singleton,f1 hin]
      have hM:((l.take i).map (cz its bC)).map ao++[[.sc (.int .i64 0),.sc (.int .i64 0),.sc (.string ⟨#[]⟩)]]=((l.take (i+1)).map (cz its bC)).map ao:=by rw[<-hM,List.map_append];rfl
      have hN:(l.take i).map (cz ns pj)++[pj]=(l.take (i+1)).map (cz ns pj):=by rw[ht,List.map_append,List.map_singleton,f3 (by omega)]
      unfold pj at hN ⊢
      repeat' (first|(with_reducible first|refine ae ?_|refine ac ‹_› rfl ?_|refine ab ‹_› rfl ?_|refine ak (λhbr=>?_) λhbr=>?_)|simp(disch:=first|omega|(simp only[ax];omega)|simp only[av,Nat.reduceAdd]) only[go_sem,hz,qY,hM,h4,hN,br,bz,bv])
      all_goals first|omega|exact⟨i+1,rfl,by omega,by omega⟩|skip
  ·obtain rfl:i=l.length:=by omega
   rw[List.take_length]
   repeat' (first|(with_reducible first|refine ae ?_|refine ac ‹_› rfl ?_|refine ab ‹_› rfl ?_|refine ak (λhbr=>?_) λhbr=>?_)|simp(disch:=first|omega|(simp only[ax];omega)|simp only[av,Nat.reduceAdd]) only[go_sem,true_and])
   all_goals first|omega|skip
   refine nv (f:=97) (bits:=1) (by decide) g3 rfl ?_
   repeat' (first|(with_reducible first|refine ae ?_|refine ac ‹_› rfl ?_|refine ab ‹_› rfl ?_|refine ak (λhbr=>?_) λhbr=>?_)|simp(disch:=first|omega|(simp only[ax];omega)|simp only[av,Nat.reduceAdd]) only[go_sem,true_and])
   all_goals first|omega|rfl
def eh:ByteArray:=⟨#[]⟩
section
variable {α β:Type}[Inhabited α]{l:List α}{i:Nat}
end
end Go.Proofs.YtliknccmjjncbaaGreat
namespace Go.Proofs.YtliknccmjjncbaaGreat
open Go.RowKit
set_option maxRecDepth 100000
def vd:List aQ:=[⟨2000001,7,⟨[aa 25 26,aa 8 27,aa 19 28,aC 7 5 4 0,aa 14 25,aa 13 23,aa 12 20,bF 11 3 3,aC 5 2 2 0,aC 4 1 1 0,aC 2 0 0 0,(0,.p true [.d 0,.d 1,.d 2,.d 3,.d 4,.d 5,.d 6,.d 7]),aa 1 8],[(0,.var 0 35 [.d 0,.d 1,.d 2,.d 3,.d 4,.d 5,.d 6,.d 7]),(1,.var 1 35 [.d 9,.nil,.nil,.nil,.nil,.nil,.d 10,.d 11]),(2,.var 2 35 [.d 15,.own 4 5,.nil,.nil,.nil,.nil,.d 13,.d 14]),(4,.row 5 78 3 29),(3,.row 3 78 3 19),(5,.var 4 78 [.d 30,.d 31,.d 32])],6,6,33,[(25,true)]⟩,[]⟩,⟨1000007,1,⟨[aa 8 35,aa 19 34,aC 7 5 5 0,aa 14 25,aa 13 23,aa 12 20,bF 11 3 3,aC 5 2 2 0,aC 4 1 1 0,aC 2 0 0 0,(0,.p true [.d 0,.d 1,.d 2,.d 3,.d 4,.d 5,.d 6,.d 7]),aa 1 8],[(0,.var 0 35 [.d 0,.d 1,.d 2,.d 3,.d 4,.d 5,.d 6,.d 7]),(1,.var 1 35 [.d 9,.nil,.nil,.nil,.nil,.nil,.d 10,.d 11]),(2,.var 2 35 [.d 15,.own 4 4,.nil,.nil,.nil,.nil,.d 13,.d 14]),(4,.row 4 78 3 24),(3,.row 3 78 3 19),(5,.var 5 78 [.d 26,.d 27,.d 28])],6,6,36,[(25,true)]⟩,[]⟩,⟨3000003,2,⟨[aa 13 23,aa 12 20,bF 11 3 3,aC 5 2 2 0,aC 4 1 1 0,aC 2 0 0 0,(0,.p true [.d 0,.d 1,.d 2,.d 3,.d 4,.d 5,.d 6,.d 7]),aa 1 8],[(0,.var 0 35 [.d 0,.d 1,.d 2,.d 3,.d 4,.d 5,.d 6,.d 7]),(1,.var 1 35 [.d 9,.nil,.nil,.nil,.nil,.nil,.d 10,.d 11]),(2,.var 2 35 [.d 15,.own 4 4,.nil,.nil,.nil,.nil,.d 13,.d 14]),(4,.row 4 78 3 24),(3,.row 3 78 3 19)],5,5,25,[]⟩,[⟨false,2,1,78,3⟩]⟩]
def uw:List (Nat×Nat×Bool×List Nat):=[(10,6,false,[])]
def cW:UP:=.i 0<|.b .lss 1 0<|.ite 0 (.i 0<|.i 0<|.s #[]<|.c 2<|.c 1<|.c 0<|.po (.mk 78 3 [[2,1,0]])<|.po (.flat 0)<|.po (.app 78 3 32 13 0)<|.jump 1 [5,7,8,0,13,12,11])<|.i 1<|.a 3 0<|.c 0<|.sel [0,2,4,5,8,9,10,11]<|.cl 124 [(false,[0])] mu<|.po (.mk 78 3 [[2,1,0]])<|.c 3<|.c 2<|.c 1<|.po (.mk 78 3 [[3,2,1]])<|.po (.flat 0)<|.po (.app 78 3 32 12 0)<|.jump 1 [7,8,9,0,12,11,10]
def cV:UP:=.i 1<|.a 9 0<|.jump 0 [0,5]
def jX:UP:=.b .lss 1 4<|.ite 0 (.sel [1,2,6,10]<|.join 7 cV<|.z 1<|.po (.chk 3 2 1)<|.x 3 2 1<|.i 0<|.i 0<|.s #[]<|.i (-1)<|.sel [0,4,5,6,7,10]<|.cl 74 [(true,[3,2,1])] au<|.n 0<|.join 1 cW<|.ite 0 (.sel [3,7]<|.cl 70 [(false,[1]),(false,[0])] au<|.jump 2 [0])<|.jump 2 [2])<|.c 7<|.po (.e 35 8)<|.po (.e 9 1)<|.po (.e 9 1)<|.po (.e 9 1)<|.c 13<|.c 12<|.ret [(true,[11,5,3,2,1,0,13,12])]
def ku:UP:=.i 0<|.i 0<|.i 0<|.i 0<|.i 0<|.i 0<|.i 2<|.i 0<|.i 0<|.i 0<|.sel [3,4,5,10,11,12,13,14,15,16,17,18]<|.cl 85 [(true,[11,10,9,8,7,6,5,4])] IB<|.l 0<|.i 0<|.po (.e 78 3)<|.sel [0,1,2,3,4,5,6,7]<|.loop [1,0] jX
theorem wm:aM Tryz.prog 112 Tryz.f112 bO vd uw=some ([(true,8),(false,1)],ku):=by kernel_rfl
def xP:List aQ:=[]
def wF:List (Nat×Nat×Bool×List Nat):=[]
def lY:UP:=.cl 83 [(true,[7,6,5,4,3,2,1,0])] cB<|.i 3<|.sel [0,1,2,3,4,5,6,7,8]<|.cl 117 [(true,[8,7,6,5,4,3,2,1]),(false,[0])] dF<|.i 0<|.i 0<|.i 0<|.r 10
theorem xb:aM Tryz.prog 85 Tryz.f85 bO xP wF=some ([(true,8)],lY):=by kernel_rfl
def vW:List aQ:=[⟨2000001,3,⟨[aa 40 36,aa 8 37,aa 16 35,aa 7 32,aC 6 8 8 0,aC 5 2 2 0,aC 4 1 1 0,aC 2 0 0 0,(0,.p true [.d 0,.d 1,.d 2,.d 3,.d 4,.d 5,.d 6,.d 7]),aa 1 8],[(0,.var 0 35 [.d 0,.d 1,.d 2,.d 3,.d 4,.d 5,.d 6,.d 7]),(1,.var 1 35 [.d 9,.nil,.nil,.nil,.nil,.nil,.d 10,.d 11]),(2,.var 2 35 [.d 15,.own 9 9,.nil,.nil,.nil,.nil,.d 13,.d 14]),(9,.row 9 78 3 38),(8,.var 8 35 [.d 19,.own 3 3,.own 4 4,.own 5 5,.own 6 6,.own 7 7,.d 25,.d 26]),(7,.row 7 9 1 24),(6,.row 6 9 1 23),(5,.row 5 9 1 22),(4,.row 4 35 8 21),(3,.row 3 78 3 20)],10,10,39,[(35,true)]⟩,[]⟩,⟨3000004,2,⟨[aa 7 32,aC 6 8 8 0,aC 5 2 2 0,aC 4 1 1 0,aC 2 0 0 0,(0,.p true [.d 0,.d 1,.d 2,.d 3,.d 4,.d 5,.d 6,.d 7]),aa 1 8],[(0,.var 0 35 [.d 0,.d 1,.d 2,.d 3,.d 4,.d 5,.d 6,.d 7]),(1,.var 1 35 [.d 9,.nil,.nil,.nil,.nil,.nil,.d 10,.d 11]),(2,.var 2 35 [.d 15,.own 9 9,.nil,.nil,.nil,.nil,.d 13,.d 14]),(9,.row 9 78 3 33),(8,.var 8 35 [.d 19,.own 3 3,.own 4 4,.own 5 5,.own 6 6,.own 7 7,.d 25,.d 26]),(7,.row 7 9 1 24),(6,.row 6 9 1 23),(5,.row 5 9 1 22),(4,.row 4 35 8 21),(3,.row 3 78 3 20)],10,10,34,[]⟩,[⟨false,2,1,78,3⟩]⟩]
def uc:List (Nat×Nat×Bool×List Nat):=[(9,6,false,[]),(6,12,false,[])]
def cX:UP:=.i 1<|.a 5 0<|.jump 0 [0,2]
def j7:UP:=.l 4<|.b .lss 2 0<|.ite 0 (.sel [2,3,6,7,11]<|.join 3 cX<|.c 3<|.z 1<|.po (.chk 3 2 1)<|.x 3 2 1<|.c 2<|.c 1<|.c 0<|.i 3<|.cl 101 [(false,[7]),(false,[0]),(true,[3,2,1])] mu<|.sel [0,7,8,9,11]<|.cl 55 [(false,[4]),(false,[0])] au<|.c 0<|.z 3<|.po (.chk 3 4 3)<|.x 3 4 3<|.i 0<|.e 2 0<|.ite 0 (.t<|.i 0<|.i 0<|.s #[]<|.c 2<|.c 1<|.c 0<|.po (.mk 78 3 [[2,1,0]])<|.po (.flat 0)<|.po (.app 78 3 32 12 0)<|.jump 1 [5,11,0])<|.i 0<|.b .lss 6 0<|.ite 0 (.i 0<|.i 0<|.s #[]<|.c 2<|.c 1<|.c 0<|.po (.mk 78 3 [[2,1,0]])<|.po (.flat 0)<|.po (.app 78 3 32 13 0)<|.jump 1 [5,12,0])<|.i 1<|.a 8 0<|.c 0<|.sel [0,2,9,11]<|.cl 62 [(false,[0])] mu<|.po (.mk 78 3 [[2,1,0]])<|.c 3<|.c 2<|.c 1<|.po (.mk 78 3 [[3,2,1]])<|.po (.flat 0)<|.po (.app 78 3 32 8 0)<|.jump 1 [7,8,0])<|.c 8<|.po (.e 35 8)<|.po (.e 9 1)<|.po (.e 9 1)<|.po (.e 9 1)<|.c 14<|.c 13<|.ret [(true,[12,6,3,2,1,0,14,13])]
def li:UP:=.i 0<|.i 0<|.i 0<|.i 0<|.i 0<|.i 0<|.i 2<|.i 0<|.i 0<|.i 0<|.sel [3,4,5,10,11,12,13,14,15,16,17,18]<|.cl 99 [(true,[11,10,9,8,7,6,5,4])] cB<|.i 0<|.i 0<|.i 0<|.i 0<|.po (.e 78 3)<|.sel [0,1,11,12,13,14,15,16]<|.loop [1,0] j7
theorem vk:aM Tryz.prog 98 Tryz.f98 bO vW uc=some ([(true,8),(false,1)],li):=by kernel_rfl
theorem j0{l:List ByteArray}{m:Int}(h:dc l m=true){x:ByteArray}(hx:x∈l):x.size<=60:=by
 unfold dc at h;simp only[Bool.and_eq_true]at h;obtain⟨j,hj,rfl⟩:=List.mem_iff_getElem.1 hx;have:=a9.1 h.2 j hj;unfold dC at this;simp only[Bool.and_eq_true,decide_eq_true_eq]at this;have h2:=this.2.1;rw[List.getD_eq_getElem?_getD,List.getElem?_eq_getElem hj]at h2;exact Int.ofNat_le.1 h2
theorem tZ:QC []=true:=rfl
theorem l5{m:Int}(h:0<=m):dc [] m=true:=by unfold dc;simp[h,C0]
theorem Wd{k:Int}{its:List It}{ns cl lv:List ByteArray}{c e:Int}(h:VF k its [] ns cl lv c e)(hk:k<=3):VF (Cg k lv) (GF lv its) [] [] [] [] 0 0:=by
 have h0:=h.k0;have hlen:(GF lv its).length=its.length:=by unfold GF;split<;>simp
 have hkr:0<=Cg k lv/\Cg k lv<=3:=by unfold Cg;split<;>omega
 refine⟨by omega,by omega,λhh=>?_,λ_=>rfl,by rw[hlen];exact h.il,by simp,.inl rfl,λ_=>rfl,tZ,λ_=>rfl,l5 (by decide),l5 (by decide),λ_=>⟨rfl,rfl⟩,λx hx=>?_,by simp,λ_=>rfl⟩
 ·have:Cg k lv=0:=by omega
  unfold Cg at this;split at this
  ·rename_i hl;rw[hl];exact h.i0 (.inl this)
  ·omega
 ·unfold Cg GF at *;by_cases hl:lv=[]
  ·rw[if_pos hl]at hx ⊢;have:=h.it x hx;rw[hl]at this;exact this
  ·rw[if_neg hl]at hx ⊢;obtain⟨y,hy,rfl⟩:=List.mem_map.1 hx;have h1:=h.it y hy;unfold zo;split
   ·rename_i e;rw[e];decide
   ·rename_i hy0;have h2:=EM h1 (λe=>hl (List.eq_nil_of_length_eq_zero e)) hy0;have h3:=j0 h.lb (aK (l:=lv) (i:=(y.num-1).toNat) (by omega));generalize lv.getD (y.num-1).toNat default=s at h3;unfold dk DZ O5;simp;right;exact Int.ofNat_le.2 h3
theorem ui{k:Int}{m:Nat}{x:It}(h:dk k m x=true):x.text.size<=60:=by
 unfold dk DZ cq at h;simp only[Bool.and_eq_true,Bool.or_eq_true,decide_eq_true_eq]at h;rcases h.1 with h1|h1
 ·rw[h1];decide
 ·split at h1
  ·simp only[Bool.and_eq_true,decide_eq_true_eq]at h1;rw[h1.2.2];decide
  ·split at h1
   ·simp only[Bool.and_eq_true,decide_eq_true_eq]at h1;rw[h1.1];decide
   ·simp only[Bool.and_eq_true,decide_eq_true_eq]at h1;omega
theorem R6{k:Int}{its:List It}(h:∀x∈its,x.text.size<=100)(hl:its.length<=100):ck (fV k its)<=20000:=by
 have:=kc cI 100 its h;unfold fV;rw[ly];have e1:dt []=0:=rfl;have e2:aA ck []=0:=rfl;have e3:its.length*100<=100*100:=Nat.mul_le_mul_right _ hl;unfold bT;rw[e1,e2];simp only[List.length_nil];omega
def iZ(k:Int)(lv:List ByteArray)(its:List It):List It:=(GF lv its).map (cvI (Cg k lv) 3)
theorem OK{k:Int}{its:List It}{ns cl lv:List ByteArray}{c e:Int}(h:VF k its [] ns cl lv c e)(hw:ck (.mk k its [] ns cl lv c e)<=1000000000)(hk:k<=3):
 aB Tryz.prog 85 [(true,ap (.mk k its [] ns cl lv c e))] [(false,[.sl 78 3 ((iZ k lv its).map ao)],true)]:=by
 have h2:=Wd h hk;have g1:=Sd h hw (by omega);have g2:=Xz h2 (Nat.le_trans (R6 (λx hx=>Nat.le_trans (ui (h2.it x hx)) (by decide)) (by have:=h2.il;omega)) (by decide)) (m:=3) (.inl (by unfold Cg;split<;>omega)) (by decide) (λe=>by unfold Cg at e;split at e<;>omega);unfold iZ;simp only[VG,if_neg (show¬(3:Int)=4 by decide)]at g2;simp only[ap,al,aq,cN,List.map_nil]at g1 g2 ⊢;refine ah Tryz.func85 xb rfl ?_;simp only[lY]
 repeat' (first|(with_reducible first|refine ae ?_|refine ac ‹_› rfl ?_|refine ab ‹_› rfl ?_|refine ak (λhbr=>?_) λhbr=>?_)|simp(disch:=first|omega|(simp only[ax];omega)|simp only[av,Nat.reduceAdd]) only[go_sem,true_and])
 all_goals rfl
def nj(L:List ByteArray)(y:It):It:=if y=bC\/bU L y.text<0 then bC else zR (bU L y.text+1)
theorem WB{k:Int}{its:List It}{ns cl lv:List ByteArray}{c e:Int}(h:VF k its [] ns cl lv c e)(hw:ck (.mk k its [] ns cl lv c e)<=1000000000)(hk:k<=3)(L:List ByteArray)(hL:L.length<=1000000):
 aB Tryz.prog 112 [(true,ap (.mk k its [] ns cl lv c e)),(false,[aq L])] [(true,cN 2 ((iZ k lv its).map (nj L)),true)]:=by
 have g1:=OK h hw hk;have hl:(iZ k lv its).length<=40:=by have:=h.il;unfold iZ GF;split<;>simpa
 generalize iZ k lv its=S at g1 hl ⊢;simp only[ap,al,aq,cN,List.map_nil]at g1 ⊢;refine ah Tryz.func112 wm rfl ?_;simp only[ku]
 repeat' (first|(with_reducible first|refine ae ?_|refine ac ‹_› rfl ?_|refine ab ‹_› rfl ?_|refine ak (λhbr=>?_) λhbr=>?_)|simp(disch:=first|omega|(simp only[ax];omega)|simp only[av,Nat.reduceAdd]) only[go_sem,true_and])
 all_goals first|omega|skip
 refine lp (λi:Nat=>[.sc (.int .i64 i),.sl 78 3 (((S.take i).map (nj L)).map ao)]) (λi=>i<=S.length) (λi=>S.length-i) 0 rfl (Nat.zero_le _) ?_;intro i hi;simp only[jX];by_cases hlt:i<S.length
 ·have hix:=cD (t:=78) (l:=S) (kd:=.i64) (z:=(i:Int)) (by omega) (by omega);have hch:=ja (e:=ao) (k:=3) (t:=78) (l:=S) (kd:=.i64) (z:=(i:Int)) (by omega) (by omega);rw[Int.toNat_natCast]at hix;have hM:(S.take i).map (nj L)++[nj L (S.getD i default)]=(S.take (i+1)).map (nj L):=by rw[bh hlt,List.map_append];rfl
  generalize S.getD i default=x at hix hM;have q1:=fX x;have q2:=pq 9 L x.text (by omega);have q3:=OA (bU L x.text+1);have hf:=wy L x.text;rw[Rb (by omega)]at q3;have hM:=congrArg (List.map ao) hM;rw[List.map_append]at hM;unfold nj at hM;by_cases h0:x=bC
  ·rw[if_pos (.inl h0)]at hM;have hM:((S.take i).map (nj L)).map ao++[[.sc (.int .i64 0),.sc (.int .i64 0),.sc (.string ⟨#[]⟩)]]=((S.take (i+1)).map (nj L)).map ao:=hM;simp only[ao]at hix q1 q3;rw[decide_eq_true h0]at q1
   repeat' (first|(with_reducible first|refine ae ?_|refine ac ‹_› rfl ?_|refine ab ‹_› rfl ?_|refine ak (λhbr=>?_) λhbr=>?_)|simp(disch:=first|omega|(simp only[ax];omega)|simp only[av,Nat.reduceAdd]) only[go_sem,hix,hch,qY,hM,cW,cV])
   all_goals first|omega|exact⟨i+1,rfl,by omega,by omega⟩|skip
  ·rw[decide_eq_false h0]at q1;by_cases h1:bU L x.text<0
   ·rw[if_pos (.inr h1)]at hM;have hM:((S.take i).map (nj L)).map ao++[[.sc (.int .i64 0),.sc (.int .i64 0),.sc (.string ⟨#[]⟩)]]=((S.take (i+1)).map (nj L)).map ao:=hM;simp only[ao]at hix q1 q3
    repeat' (first|(with_reducible first|refine ae ?_|refine ac ‹_› rfl ?_|refine ab ‹_› rfl ?_|refine ak (λhbr=>?_) λhbr=>?_)|simp(disch:=first|omega|(simp only[ax];omega)|simp only[av,Nat.reduceAdd]) only[go_sem,hix,hch,qY,hM,cW,cV])
    all_goals first|omega|exact⟨i+1,rfl,by omega,by omega⟩|skip
   ·rw[if_neg (by rintro(h|h)<;>contradiction)]at hM;have hM:((S.take i).map (nj L)).map ao++[[.sc (.int .i64 (bU L x.text+1)),.sc (.int .i64 1),.sc (.string ByteArray.empty)]]=((S.take (i+1)).map (nj L)).map ao:=hM;simp only[ao,zR]at hix q1 q3
    repeat' (first|(with_reducible first|refine ae ?_|refine ac ‹_› rfl ?_|refine ab ‹_› rfl ?_|refine ak (λhbr=>?_) λhbr=>?_)|simp(disch:=first|omega|(simp only[ax];omega)|simp only[av,Nat.reduceAdd]) only[go_sem,hix,hch,qY,hM,cW,cV])
    all_goals first|omega|exact⟨i+1,rfl,by omega,by omega⟩|skip
 ·obtain rfl:i=S.length:=by omega
  rw[List.take_length]
  repeat' (first|(with_reducible first|refine ae ?_|refine ac ‹_› rfl ?_|refine ab ‹_› rfl ?_|refine ak (λhbr=>?_) λhbr=>?_)|simp(disch:=first|omega|(simp only[ax];omega)|simp only[av,Nat.reduceAdd]) only[go_sem,true_and])
  all_goals first|omega|rfl
theorem PA{k m:Int}{x:It}(h:x=bC):cvI k m x=bC:=by unfold cvI;rw[if_pos (.inl h)];exact h
theorem Mc(s:ByteArray):¬O5 s=bC:=λe=>absurd (congrArg It.den e) (show¬(1:Int)=0 by decide)
theorem TI{k m:Int}{x:It}(h:¬x=bC):¬cvI k m x=bC:=by
 unfold cvI;split
 ·exact h
 ·split
  ·exact Mc _
  ·split<;>exact Mc _
theorem XC{k:Int}{its:List It}{ns cl lv:List ByteArray}{c e:Int}(h:VF k its [] ns cl lv c e)(hw:ck (.mk k its [] ns cl lv c e)<=1000000000)(hk:k<=3)(L:List ByteArray)(hL:L.length<=1000000):
 aB Tryz.prog 98 [(true,ap (.mk k its [] ns cl lv c e)),(false,[aq L])] [(true,cN 2 ((iZ k lv its).map (nj L)),true)]:=by
 have h2:=Wd h hk;have g1:=SD h hw;have hkr:0<=Cg k lv/\Cg k lv<=3:=by have:=h.k0;unfold Cg;split<;>omega
 unfold iZ;generalize Cg k lv=k' at *;generalize GF lv its=S at *;have hl:=h2.il;simp only[ap,al,aq,cN,List.map_nil]at g1 ⊢;refine ah Tryz.func98 vk rfl ?_;simp only[li]
 repeat' (first|(with_reducible first|refine ae ?_|refine ac ‹_› rfl ?_|refine ab ‹_› rfl ?_|refine ak (λhbr=>?_) λhbr=>?_)|simp(disch:=first|omega|(simp only[ax];omega)|simp only[av,Nat.reduceAdd]) only[go_sem,true_and])
 all_goals first|omega|skip
 refine lp (λi:Nat=>[.sc (.int .i64 i),.sl 78 3 ((((S.take i).map (cvI k' 3)).map (nj L)).map ao)]) (λi=>i<=S.length) (λi=>S.length-i) 0 rfl (Nat.zero_le _) ?_;intro i hi;simp only[j7];by_cases hlt:i<S.length
 ·have hix:=cD (t:=78) (l:=S) (kd:=.i64) (z:=(i:Int)) (by omega) (by omega);have hch:=ja (e:=ao) (k:=3) (t:=78) (l:=S) (kd:=.i64) (z:=(i:Int)) (by omega) (by omega);rw[Int.toNat_natCast]at hix;have hM:((S.take i).map (cvI k' 3)).map (nj L)++[nj L (cvI k' 3 (S.getD i default))]=((S.take (i+1)).map (cvI k' 3)).map (nj L):=by rw[bh hlt,List.map_append,List.map_append];rfl
  have hit:=h2.it _ (aK hlt)
  have hk1:1<=k':=by
   rcases Int.lt_or_le 0 k' with h1|h1
   ·omega
   ·rw[h2.i0 (.inl (by omega))]at hlt;simp at hlt
  generalize S.getD i default=x at hix hM hit
  have q1:=Lj x k' 3 ⟨hk1,hkr.2⟩ (by decide) (λe1=>by
   unfold dk DZ at hit;simp only[Bool.and_eq_true,Bool.or_eq_true,decide_eq_true_eq,e1,if_true]at hit;rcases hit.1 with h3|h3
   ·exact .inl h3
   ·right;omega)
  have hd:x=bC↔x.den=0:=by unfold dk at hit;simp only[Bool.and_eq_true]at hit;exact mW hit.1
  have hy1:x=bC->cvI k' 3 x=bC:=PA;have hy2:¬x=bC->¬cvI k' 3 x=bC:=TI;generalize cvI k' 3 x=y at q1 hM hy1 hy2;have q2:=uQ 9 L y.text (by omega);have q3:=NG (bU L y.text+1);have hf:=wy L y.text;have hM:=congrArg (List.map ao) hM;rw[List.map_append]at hM;unfold nj at hM;by_cases h0:x=bC
  ·have hd0:=hd.1 h0;rw[if_pos (.inl (hy1 h0))]at hM;have hM:(((S.take i).map (cvI k' 3)).map (nj L)).map ao++[[.sc (.int .i64 0),.sc (.int .i64 0),.sc (.string ⟨#[]⟩)]]=(((S.take (i+1)).map (cvI k' 3)).map (nj L)).map ao:=hM;simp only[ao]at hix q1 q3
   repeat' (first|(with_reducible first|refine ae ?_|refine ac ‹_› rfl ?_|refine ab ‹_› rfl ?_|refine ak (λhbr=>?_) λhbr=>?_)|simp(disch:=first|omega|(simp only[ax];omega)|simp only[av,Nat.reduceAdd]) only[go_sem,hix,hch,qY,hM,cX])
   all_goals first|omega|exact⟨i+1,rfl,by omega,by omega⟩
  ·have hd0:¬x.den=0:=λe=>h0 (hd.2 e)
   by_cases h1:bU L y.text<0
   ·rw[if_pos (.inr h1)]at hM;have hM:(((S.take i).map (cvI k' 3)).map (nj L)).map ao++[[.sc (.int .i64 0),.sc (.int .i64 0),.sc (.string ⟨#[]⟩)]]=(((S.take (i+1)).map (cvI k' 3)).map (nj L)).map ao:=hM;simp only[ao]at hix q1 q3
    repeat' (first|(with_reducible first|refine ae ?_|refine ac ‹_› rfl ?_|refine ab ‹_› rfl ?_|refine ak (λhbr=>?_) λhbr=>?_)|simp(disch:=first|omega|(simp only[ax];omega)|simp only[av,Nat.reduceAdd]) only[go_sem,hix,hch,qY,hM,cX])
    all_goals first|omega|exact⟨i+1,rfl,by omega,by omega⟩
   ·rw[if_neg (by rintro(h|h);exact hy2 h0 h;exact h1 h)]at hM;have hM:(((S.take i).map (cvI k' 3)).map (nj L)).map ao++[[.sc (.int .i64 (bU L y.text+1)),.sc (.int .i64 1),.sc (.string ByteArray.empty)]]=(((S.take (i+1)).map (cvI k' 3)).map (nj L)).map ao:=hM;simp only[ao,zR]at hix q1 q3
    repeat' (first|(with_reducible first|refine ae ?_|refine ac ‹_› rfl ?_|refine ab ‹_› rfl ?_|refine ak (λhbr=>?_) λhbr=>?_)|simp(disch:=first|omega|(simp only[ax];omega)|simp only[av,Nat.reduceAdd]) only[go_sem,hix,hch,qY,hM,cX])
    all_goals first|omega|exact⟨i+1,rfl,by omega,by omega⟩
 ·obtain rfl:i=S.length:=by omega
  rw[List.take_length]
  repeat' (first|(with_reducible first|refine ae ?_|refine ac ‹_› rfl ?_|refine ab ‹_› rfl ?_|refine ak (λhbr=>?_) λhbr=>?_)|simp(disch:=first|omega|(simp only[ax];omega)|simp only[av,Nat.reduceAdd]) only[go_sem,true_and])
  all_goals first|omega|rfl
theorem A7{v:aX}(h:d7 v=true):d9 3 v=true:=by unfold d7 at h;simp only[Bool.and_eq_true]at h;exact h.1
def QK:aX->List ByteArray
 |.mk _ _ _ _ cl _ _ _=>cl
theorem O1{n m:Nat}(h:n<=m){v:aX}(hv:d9 n v=true):d9 m v=true:=by
 induction m with
 |zero=>obtain rfl:n=0:=by omega
        exact hv
 |succ m ih=>
  by_cases he:n=m+1
  ·rw[<-he];exact hv
  ·exact gZ m v (ih (by omega))
theorem GB{α:Type}(f:α->Nat):∀l:List α,du f l=aA f l
 |[]=>rfl
 |x::l=>by rw[du,GB f l];simp[aA]
theorem iY{l:List ByteArray}{m:Nat}(h:∀x∈l,x.size<=60)(hl:l.length<=m):dt l<=m*61:=by
 have h1:du ByteArray.size l<=l.length*60:=by
  rw[GB];exact kc ByteArray.size 60 l h
 unfold dt;omega
theorem EI{l:List It}{m:Nat}(h:∀x∈l,x.text.size<=60)(hl:l.length<=m):bT l<=m*61:=by
 have h1:aA cI l<=l.length*60:=kc cI 60 l h;unfold bT;omega
theorem Eb{l:List ByteArray}(h:QC l=true){x:ByteArray}(hx:x∈l):x.size<=60:=by
 unfold QC at h;simp only[Bool.and_eq_true]at h;obtain⟨j,hj,rfl⟩:=List.mem_iff_getElem.1 hx;have:=a9.1 h.2 j hj;unfold q9 at this;rw[decide_eq_true_eq,List.getD_eq_getElem?_getD,List.getElem?_eq_getElem hj]at this;exact Int.ofNat_le.1 this
theorem fc{l:List ByteArray}{m:Int}(h:dc l m=true):(l.length:Int)<=m:=by
 unfold dc at h;simp only[Bool.and_eq_true,decide_eq_true_eq]at h;exact h.1
theorem B5{α:Type}(f g:α->Nat)(c:Nat):∀l:List α,(∀x∈l,f x<=c*(1+g x))->aA f l<=c*(l.length+aA g l)
 |[],_=>by simp[aA]
 |x::l,h=>by
  have h1:=h x (List.mem_cons_self ..);have h2:=B5 f g c l λy hy=>h y (List.mem_cons_of_mem _ hy)
  have e1:aA f (x::l)=f x+aA f l:=by simp[aA]
  have e2:aA g (x::l)=g x+aA g l:=by simp[aA]
  have e3:c*((x::l).length+aA g (x::l))=c*(1+g x)+c*(l.length+aA g l):=by rw[e2,List.length_cons,<-Nat.mul_add];congr 1;omega
  omega
theorem VF.nlen{k:Int}{its:List It}{ps:List aX}{ns cl lv:List ByteArray}{c e:Int}(h:VF k its ps ns cl lv c e):ns.length<=80:=by
 have:=h.il;have:=h.pl;rcases h.nl with e|e
 ·rw[e];simp
 ·omega
theorem Wm:∀(n:Nat),n<=3->∀v,d9 n v=true->ck v<=20000*(1+vZ n v):=by
 intro n
 induction n with
 |zero=>
  rintro hn ⟨k,its,ps,ns,cl,lv,c,e⟩ hv;have h:=vf (O1 (m:=3) hn hv)
  have hp:ps=[]:=by
   rw[eD,Bool.and_eq_true]at hv
   cases ps with
   |nil=>rfl
   |cons p r=>have:=a9.1 hv.2 0 (by simp);cases this
  have a1:=EI (λx hx=>ui (h.it x hx)) h.il;have a2:=iY (λx hx=>Eb h.nm hx) h.nlen;have a3:=iY (l:=cl) (m:=3) (λx hx=>j0 h.lc hx) (by have:=fc h.lc;omega);have a4:=iY (l:=lv) (m:=20) (λx hx=>j0 h.lb hx) (by have:=fc h.lb;omega);rw[ly,hp];have e2:aA ck []=0:=rfl
  rw[e2];simp only[List.length_nil];omega
 |succ n ih=>
  rintro hn ⟨k,its,ps,ns,cl,lv,c,e⟩ hv;have h:=vf (O1 (m:=3) hn hv);have a1:=EI (λx hx=>ui (h.it x hx)) h.il;have a2:=iY (λx hx=>Eb h.nm hx) h.nlen;have a3:=iY (l:=cl) (m:=3) (λx hx=>j0 h.lc hx) (by have:=fc h.lc;omega);have a4:=iY (l:=lv) (m:=20) (λx hx=>j0 h.lb hx) (by have:=fc h.lb;omega)
  have hk:∀p∈ps,d9 n p=true:=λp hp=>by
   rw[eD,Bool.and_eq_true]at hv;obtain⟨j,hj,rfl⟩:=List.mem_iff_getElem.1 hp;have h3:d9 n (ps.getD j default)=true:=a9.1 hv.2 j hj
   rwa [List.getD_eq_getElem?_getD,List.getElem?_eq_getElem hj]at h3
  have a5:=B5 ck (vZ n) 20000 ps λp hp=>ih (by omega) p (hk p hp)
  have a6:ps.length+aA (vZ n) ps<=vZ (n+1) (.mk k its ps ns cl lv c e):=by
   rw[nu];have h1:og (n+1)=vZ n:=rfl;rw[h1];by_cases h4:k=4
   ·unfold lC;rw[if_neg (by omega)];omega
   ·rw[h.p0 h4];simp[aA]
  have a7:20000*(ps.length+aA (vZ n) ps)<=20000*vZ (n+1) (.mk k its ps ns cl lv c e):=Nat.mul_le_mul_left _ a6;have a8:=h.pl;rw[ly,Nat.mul_add];omega
theorem JD{v:aX}(h:d7 v=true):vZ 3 v<=200:=by unfold d7 at h;simp only[Bool.and_eq_true,decide_eq_true_eq]at h;omega
theorem zW{v:aX}(h:d7 v=true):ck v<=4020000:=by
 have h1:=Wm 3 (by omega) v (A7 h);have h2:=JD h;have h3:20000*(1+vZ 3 v)<=20000*201:=Nat.mul_le_mul_left _ (by omega);omega
theorem SM{k:Int}{its:List It}{ps:List aX}{ns cl lv:List ByteArray}{c e:Int}(h1:∀x∈its,x.text.size<=60)(h2:its.length<=200)(h3:∀p∈ps,ck p<=4020000)(h4:ps.length<=200)
 (h5:∀x∈ns,x.size<=60) (h6:ns.length<=200) (h7:∀x∈cl,x.size<=60) (h8:cl.length<=200) (h9:∀x∈lv,x.size<=60) (h10:lv.length<=200):ck (.mk k its ps ns cl lv c e)<=900000000:=by
 have a1:=EI h1 h2;have a2:=iY h5 h6;have a3:=iY h7 h8;have a4:=iY h9 h10;have a5:=kc ck 4020000 ps h3;have a6:ps.length*4020000<=200*4020000:=Nat.mul_le_mul_right _ h4;rw[ly];omega
theorem RI{k:Int}{its:List It}{ps:List aX}{ns cl lv:List ByteArray}{c e:Int}(h1:∀x∈its,x.text.size<=60)(h2:its.length<=200)(h3:∀p∈ps,ck p<=4020000)(h4:ps.length<=200)
 (h5:∀x∈ns,x.size<=60) (h6:ns.length<=200) (h7:∀x∈cl,x.size<=60) (h8:cl.length<=200) (h9:∀x∈lv,x.size<=60) (h10:lv.length<=200):ck (.mk k its ps ns cl lv c e)<=1000000000:=Nat.le_trans (SM h1 h2 h3 h4 h5 h6 h7 h8 h9 h10) (by decide)
theorem SE{k:Int}:ck (fV k [])<=4020000:=by
 have:=R6 (k:=k) (its:=[]) (λy hy=>by cases hy) (by simp);omega
structure VW(k:Int)(its:List It)(ps:List aX)(ns cl lv:List ByteArray)(c e:Int):Prop extends VF k its ps ns cl lv c e where
 vc:d7 (.mk k its ps ns cl lv c e)=true
 wk:∀p∈ps,ck p<=4020000
 wt:ck (.mk k its ps ns cl lv c e)<=4020000
 l40:its.length+ps.length<=40
 c3:cl.length<=3
 l20:lv.length<=20
theorem vw{k:Int}{its:List It}{ps:List aX}{ns cl lv:List ByteArray}{c e:Int}(h:d7 (.mk k its ps ns cl lv c e)=true):VW k its ps ns cl lv c e:=by
 have h1:=vf (A7 h);have h2:=zW h;refine{toVF:=h1,vc:=h,wk:=λp hp=>?_,wt:=h2,l40:=?_,c3:=by have:=fc h1.lc;omega,l20:=by have:=fc h1.lb;omega}
 ·have:=qa ck hp;rw[ly]at h2;omega
 ·have h3:=A7 h;rw[eD,Bool.and_eq_true]at h3;have h4:=GK h3.1;unfold lC at h4;split at h4
  ·rw[h1.i0 (by omega),h1.p0 (by omega)];simp
  ·omega
theorem Hc{k:Int}{x:It}(h:DZ k x=true):dk k 0 x=true:=by unfold dk;simp[h]
theorem BI{n:Nat}{k:Int}{its:List It}{ps:List aX}{ns cl lv:List ByteArray}(hk:1<=k/\k<=4)(h40:its.length+ps.length<=40)(hn:ns=[]\/ns.length=its.length+ps.length)(hnm:QC ns=true)(hc:dc cl 3=true)(hlb:dc lv 20=true)(hl:k≠2->lv=[])(hp:k≠4->ps=[])(hi4:k=4->its=[])(hi:∀x∈its,dk k lv.length x=true)(hkd:∀p∈ps,uo n ps=uo n ps->∃n',n=n'+1/\d9 n' p=true):d9 n (.mk k its ps ns cl lv 0 0)=true:=by
 rw[eD,Bool.and_eq_true];constructor
 ·unfold wD gA gB gC lC;simp only[if_neg (show¬k=5 by omega),if_neg (show¬k=0 by omega),Bool.and_eq_true,Bool.or_eq_true,decide_eq_true_eq];refine⟨⟨⟨by omega,by omega⟩,by omega,?_,hnm,hc,hlb⟩,⟨by simp,?_,?_⟩,?_⟩
  ·rcases hn with rfl|h
   ·left;rfl
   ·right;omega
  ·by_cases h2:k=2
   ·exact .inl h2
   ·right;rw[hl h2];rfl
  ·by_cases h4:k=4
   ·exact .inl h4
   ·right;rw[hp h4];rfl
  ·split
   ·rename_i h4;rw[hi4 h4];simp
   ·exact a9.2 λj hj=>hi _ (aK hj)
 ·refine a9.2 λj hj=>?_
  obtain⟨n',rfl,h⟩:=hkd _ (aK hj) rfl;exact h
theorem zX{n:Nat}{ps:List aX}(h:ps=[]):∀p∈ps,uo n ps=uo n ps->∃n',n=n'+1/\d9 n' p=true:=by subst h;simp
theorem K0{α β:Type}(f:β->Nat)(g:α->β)(l:List α):aA f (l.map g)=aA (λx=>f (g x)) l:=by unfold aA;rw[List.map_map];rfl
def BN:aX->Int|.mk k _ _ _ _ _ _ _=>k
def O9:aX->List ByteArray|.mk _ _ _ ns _ _ _ _=>ns
def Sp:aX->List ByteArray|.mk _ _ _ _ _ lv _ _=>lv
def z9:aX->List It|.mk _ its _ _ _ _ _ _=>its
def Wn:ByteArray:=⟨#[114,101,115,117,108,116,32,105,115,32,116,111,111,32,108,97,114,103,101]⟩
def qv(v:aX):aX×ByteArray:=if d7 v=true then(v,eh)else(fV 0 [],Wn)
theorem Qu{α:Type}[Inhabited α]{l:List α}{d:α}{p:Int}:cz l d p∈l\/cz l d p=d:=by
 unfold cz;split
 ·exact .inl (aK (by omega))
 ·exact .inr rfl
theorem TQ(v:aX)(hw:ck v<=1000000000):ic Tryz.prog 26 [(true,ap v,true)] [(true,ap (qv v).1,true),(false,[.sc (.string (qv v).2)],true)]:=by
 have h1:=lQ v hw;unfold qv;obtain⟨k,its,ps,ns,cl,lv,c,e⟩:=v;cases hv:d7 (.mk k its ps ns cl lv c e)
 ·rw[hv]at h1;rw[if_neg (by simp)];simp only[ap,al,aq,fV]at h1 ⊢;refine et Tryz.func26 oZ rfl (by simp) ?_;simp only[jp]
  repeat' (first|(with_reducible first|refine ae ?_|refine ac ‹_› rfl ?_|refine ab ‹_› rfl ?_|refine ak (λhbr=>?_) λhbr=>?_)|simp(disch:=first|omega|(simp only[ax];omega)|simp only[av,Nat.reduceAdd]) only[go_sem,true_and])
  all_goals rfl
 ·rw[hv]at h1;rw[if_pos rfl];simp only[ap,al,aq]at h1 ⊢;refine et Tryz.func26 oZ rfl (by simp) ?_;simp only[jp]
  repeat' (first|(with_reducible first|refine ae ?_|refine ac ‹_› rfl ?_|refine ab ‹_› rfl ?_|refine ak (λhbr=>?_) λhbr=>?_)|simp(disch:=first|omega|(simp only[ax];omega)|simp only[av,Nat.reduceAdd]) only[go_sem,true_and])
  all_goals rfl
def i9:ByteArray:=⟨#[102,97,99,116,111,114]⟩
def yN:ByteArray:=⟨#[100,97,116,97,46,102,114,97,109,101]⟩
def AF(cl lv:List ByteArray):Bool:=!decide (lv.length=0)&&(decide ((cl.length:Int)=1)&&decide (cl.getD 0 default=i9))
def cR(v:aX):Bool:=d7 v&&AF (QK v) (Sp v)
theorem EQ(v:aX)(hw:ck v<=1000000000):aB Tryz.prog 34 [(true,ap v)] [(false,[.sc (.bool (cR v))],true)]:=by
 have h1:=wh v hw;unfold cR;obtain⟨k,its,ps,ns,cl,lv,c,e⟩:=v;obtain⟨b1,b2,b3,b4,b5,b6⟩:=BO hw;cases hv:d7 (.mk k its ps ns cl lv c e)
 all_goals
  rw[hv]at h1;simp only[ap,al,aq,QK,Sp]at h1 ⊢;refine ah Tryz.func34 uE rfl ?_;simp only[kz]
  repeat' (first|(with_reducible first|refine ae ?_|refine ac ‹_› rfl ?_|refine ab ‹_› rfl ?_|refine ak (λhbr=>?_) λhbr=>?_)|simp(disch:=first|omega|(simp only[ax];omega)|simp only[av,Nat.reduceAdd]) only[go_sem,true_and])
 all_goals first|omega|exact aO (by unfold AF;rw[decide_eq_false (show¬lv.length=0 by omega),decide_eq_true (show(cl.length:Int)=1 by omega)];rfl)|exact aO (by unfold AF;(first|(simp[-List.getD_eq_getElem?_getD,i9, *];done)|(simp_all[-List.getD_eq_getElem?_getD,i9];done)|(simp[-List.getD_eq_getElem?_getD,i9, *];omega)|(simp_all[-List.getD_eq_getElem?_getD,i9];omega)|omega))
theorem DR(v:aX)(hw:ck v<=1000000000):aB Tryz.prog 22 [(true,ap v)] [(false,[.sc (.bool (cR v))],true)]:=by
 have h1:=lQ v hw;unfold cR;obtain⟨k,its,ps,ns,cl,lv,c,e⟩:=v;obtain⟨b1,b2,b3,b4,b5,b6⟩:=BO hw;cases hv:d7 (.mk k its ps ns cl lv c e)
 all_goals
  rw[hv]at h1;simp only[ap,al,aq,QK,Sp]at h1 ⊢;refine ah Tryz.func22 vi rfl ?_;simp only[lf]
  repeat' (first|(with_reducible first|refine ae ?_|refine ac ‹_› rfl ?_|refine ab ‹_› rfl ?_|refine ak (λhbr=>?_) λhbr=>?_)|simp(disch:=first|omega|(simp only[ax];omega)|simp only[av,Nat.reduceAdd]) only[go_sem,true_and])
 all_goals first|omega|exact aO (by unfold AF;rw[decide_eq_false (show¬lv.length=0 by omega),decide_eq_true (show(cl.length:Int)=1 by omega)];rfl)|exact aO (by unfold AF;(first|(simp[-List.getD_eq_getElem?_getD,i9, *];done)|(simp_all[-List.getD_eq_getElem?_getD,i9];done)|(simp[-List.getD_eq_getElem?_getD,i9, *];omega)|(simp_all[-List.getD_eq_getElem?_getD,i9];omega)|omega))
def Cj(k n m:Int)(ns cl lv:List ByteArray)(F:Bool):Bool:=decide (1<=k/\k<=3)&&(decide (n=m)&&(decide ((ns.length:Int)=0)&&(decide ((cl.length:Int)=0)&&decide ((lv.length:Int)=0)||F)))
def l8(v:aX)(n:Int):Bool:=Cj (BN v) (z9 v).length n (O9 v) (QK v) (Sp v) (cR v)
theorem UZ(v:aX)(n:Int)(hw:ck v<=1000000000):aB Tryz.prog 91 [(true,ap v),(false,[.sc (.int .i64 n)])] [(false,[.sc (.bool (l8 v n))],true)]:=by
 have h1:=DR v hw;unfold l8;generalize cR v=F at *;obtain⟨k,its,ps,ns,cl,lv,c,e⟩:=v;obtain⟨b1,b2,b3,b4,b5,b6⟩:=BO hw;have h2:=Ip k 1 3;simp only[ap,al,aq,QK,Sp,BN,O9,z9]at h1 ⊢;unfold Cj;generalize decide (1<=k/\k<=3)=B at *;refine ah Tryz.func91 sC rfl ?_;simp only[jF]
 repeat' (first|(with_reducible first|refine ae ?_|refine ac ‹_› rfl ?_|refine ab ‹_› rfl ?_|refine ak (λhbr=>?_) λhbr=>?_)|simp(disch:=first|omega|(simp only[ax];omega)|simp only[av,Nat.reduceAdd]) only[go_sem,true_and])
 all_goals first|omega|exact aO (by(first|(simp[-List.getD_eq_getElem?_getD,true_and, *];done)|(simp_all[-List.getD_eq_getElem?_getD,true_and];done)|(simp[-List.getD_eq_getElem?_getD,true_and, *];omega)|(simp_all[-List.getD_eq_getElem?_getD,true_and];omega)|omega))
def KS(ps:List aX)(j:Nat):Bool:=l8 (ps.getD j default) ((z9 (ps.getD 0 default)).length:Int)
def TP(k:Int)(cl ns:List ByteArray)(ps:List aX):Bool:=decide (k=4)&&(decide ((cl.length:Int)=1)&&(decide (cl.getD 0 default=yN)&&(decide ((ns.length:Int)=ps.length)&&(dc ns 40&&bg (KS ps) ps.length))))
def Ea(v:aX):Bool:=d7 v&&TP (BN v) (QK v) (O9 v) v.kids
theorem RU(v:aX)(hw:ck v<=1000000000):aB Tryz.prog 54 [(true,ap v)] [(false,[.sc (.bool (Ea v))],true)]:=by
 have h1:=lQ v hw;unfold Ea;obtain⟨k,its,ps,ns,cl,lv,c,e⟩:=v;obtain⟨b1,b2,b3,b4,b5,b6⟩:=BO hw;have h2:=DP 9 ns 40 b3;simp only[ap,al,aq,QK,Sp,BN,O9,aX.kids]at h1 h2 ⊢;generalize d7 (.mk k its ps ns cl lv c e)=V at *;unfold TP;refine ah Tryz.func54 xL rfl ?_;simp only[mA]
 repeat' (first|(with_reducible first|refine ae ?_|refine ac ‹_› rfl ?_|refine ab ‹_› rfl ?_|refine ak (λhbr=>?_) λhbr=>?_)|simp(disch:=first|omega|(simp only[ax];omega)|simp only[av,Nat.reduceAdd]) only[go_sem,true_and])
 all_goals first|omega|(exact aO (by(first|(simp[-List.getD_eq_getElem?_getD,yN, *];done)|(simp_all[-List.getD_eq_getElem?_getD,yN];done)|(simp[-List.getD_eq_getElem?_getD,yN, *];omega)|(simp_all[-List.getD_eq_getElem?_getD,yN];omega)|omega)))|skip
 refine lp (λi:Nat=>[.sc (.int .i64 i)]) (λi=>i<=ps.length/\bg (KS ps) i=true) (λi=>ps.length-i) 0 rfl ⟨by omega,rfl⟩ ?_;rintro i ⟨hi,hb⟩;simp only[kW];by_cases hlt:i<ps.length
 ·have hix:cc 8 (some (.sl 35 8 (ps.map ap))) (some (.sc (.int .i64 (i:Int))))=some (ap (ps.getD i default)):=by rw[eL (by omega) (by omega),Int.toNat_natCast]
  have hi0:cc 8 (some (.sl 35 8 (ps.map ap))) (some (.sc (.int .i64 0)))=some (ap (ps.getD 0 default)):=by rw[eL (by omega) (by omega)];rfl
  have hc:=UZ (ps.getD i default) ((z9 (ps.getD 0 default)).length:Int) (b6 _ (aK hlt));change aB _ _ _ [(false,[.sc (.bool (KS ps i))],true)]at hc;have hno:=λh=>bB (p:=KS ps) hlt h
  have hst:=λh=>bf (p:=KS ps) hb h
  generalize KS ps i=F at hc hno hst;generalize ps.getD i default=x at hix hc;generalize ps.getD 0 default=y at hi0 hc;obtain⟨x0,x1,x2,x3,x4,x5,x6,x7⟩:=x;obtain⟨y0,y1,y2,y3,y4,y5,y6,y7⟩:=y;simp only[ap,al,aq,z9]at hix hi0 hc;cases F
  all_goals
   repeat' (first|(with_reducible first|refine ae ?_|refine ac ‹_› rfl ?_|refine ab ‹_› rfl ?_|refine ak (λhbr=>?_) λhbr=>?_)|simp(disch:=first|omega|(simp only[ax];omega)|simp only[av,Nat.reduceAdd]) only[go_sem,hix,hi0])
  all_goals first|omega|(exact aO (by rw[hno rfl];(first|(simp[-List.getD_eq_getElem?_getD,yN, *];done)|(simp_all[-List.getD_eq_getElem?_getD,yN];done)|(simp[-List.getD_eq_getElem?_getD,yN, *];omega)|(simp_all[-List.getD_eq_getElem?_getD,yN];omega)|omega)))|exact⟨i+1,rfl,⟨by omega,hst rfl⟩,by omega⟩|skip
 ·obtain rfl:i=ps.length:=by omega
  repeat' (first|(with_reducible first|refine ae ?_|refine ac ‹_› rfl ?_|refine ab ‹_› rfl ?_|refine ak (λhbr=>?_) λhbr=>?_)|simp(disch:=first|omega|(simp only[ax];omega)|simp only[av,Nat.reduceAdd]) only[go_sem,true_and])
  all_goals first|omega|exact aO (by rw[hb];(first|(simp[-List.getD_eq_getElem?_getD,yN, *];done)|(simp_all[-List.getD_eq_getElem?_getD,yN];done)|(simp[-List.getD_eq_getElem?_getD,yN, *];omega)|(simp_all[-List.getD_eq_getElem?_getD,yN];omega)|omega))|skip
def R1(ns:List ByteArray)(ps:List aX)(j:Nat):Bool:=dC ns j&&KS ps j
theorem Kp(p q:Nat->Bool)(n:Nat):bg (λj=>p j&&q j) n=(bg p n&&bg q n):=by
 induction n with
 |zero=>rfl
 |succ n ih=>rw[dR,dR,dR,ih];cases bg p n<;>cases bg q n<;>cases p n<;>cases q n<;>rfl
theorem Md{v:aX}(h:d9 2 v=true)(hk:1<=BN v/\BN v<=3):lC (BN v) (z9 v).length v.kids.length=((z9 v).length:Int):=by
 obtain⟨k,its,ps,ns,cl,lv,c,e⟩:=v;have f:=vf (gZ 2 _ h);simp only[BN,z9,aX.kids]at hk ⊢;rw[f.p0 (by omega)];unfold lC;rw[if_neg (by omega)];simp
set_option maxHeartbeats 2000000 in
theorem Od(v:aX)(hw:ck v<=1000000000):aB Tryz.prog 69 [(true,ap v)] [(false,[.sc (.bool (Ea v))],true)]:=by
 have h1:=wh v hw;unfold Ea;cases hv:d7 v
 ·rw[hv]at h1;obtain⟨k,its,ps,ns,cl,lv,c,e⟩:=v;simp only[ap,al,aq]at h1 ⊢;refine ah Tryz.func69 lS rfl ?_;simp only[fN]
  repeat' (first|(with_reducible first|refine ae ?_|refine ac ‹_› rfl ?_|refine ab ‹_› rfl ?_|refine ak (λhbr=>?_) λhbr=>?_)|simp(disch:=first|omega|(simp only[ax];omega)|simp only[av,Nat.reduceAdd]) only[go_sem,true_and])
  all_goals first|omega|exact aO rfl
 rw[hv]at h1;obtain⟨k,its,ps,ns,cl,lv,c,e⟩:=v;have f:=vw hv;obtain⟨b1,b2,b3,b4,b5,b6⟩:=BO hw;have hpl:=f.l40;simp only[ap,al,aq,QK,BN,O9,aX.kids]at h1 ⊢;unfold TP;refine ah Tryz.func69 lS rfl ?_;simp only[fN]
 repeat' (first|(with_reducible first|refine ae ?_|refine ac ‹_› rfl ?_|refine ab ‹_› rfl ?_|refine ak (λhbr=>?_) λhbr=>?_)|simp(disch:=first|omega|(simp only[ax];omega)|simp only[av,Nat.reduceAdd]) only[go_sem,true_and])
 all_goals first|omega|(exact aO (by(first|(simp[-List.getD_eq_getElem?_getD,yN, *];done)|(simp_all[-List.getD_eq_getElem?_getD,yN];done)|(simp[-List.getD_eq_getElem?_getD,yN, *];omega)|(simp_all[-List.getD_eq_getElem?_getD,yN];omega)|omega)))|skip
 have hnn:ns.length=ps.length:=by omega
 have e0:(decide (k=4)&&(decide ((cl.length:Int)=1)&&(decide (cl.getD 0 default=yN)&&(decide ((ns.length:Int)=ps.length)&&(dc ns 40&&bg (KS ps) ps.length)))))=bg (R1 ns ps) ps.length:=by
  rw[show R1 ns ps=λj=>dC ns j&&KS ps j from rfl,Kp];unfold dc;rw[hnn,decide_eq_true (show(ps.length:Int)<=40 by omega)];simp[-List.getD_eq_getElem?_getD,yN, *]
 rw[e0];clear e0;refine lp (λi:Nat=>[.sc (.int .i64 i)]) (λi=>i<=ps.length/\bg (R1 ns ps) i=true) (λi=>ps.length-i) 0 rfl ⟨by omega,rfl⟩ ?_;rintro i ⟨hi,hb⟩;simp only[kZ];by_cases hlt:i<ps.length
 ·have hix:cc 8 (some (.sl 35 8 (ps.map ap))) (some (.sc (.int .i64 (i:Int))))=some (ap (ps.getD i default)):=by rw[eL (by omega) (by omega),Int.toNat_natCast]
  have hi0:cc 8 (some (.sl 35 8 (ps.map ap))) (some (.sc (.int .i64 0)))=some (ap (ps.getD 0 default)):=by rw[eL (by omega) (by omega)];rfl
  have hH:=wP 9 (ns.take i) (ns.getD i default) (by rw[List.length_take];omega);rw[xO (by omega)]at hH;have hm:=aK hlt;have hm0:ps.getD 0 default∈ps:=aK (by omega);have hfx:=EQ (ps.getD i default) (b6 _ hm);have hwx:=b6 _ hm;have hwy:=b6 _ hm0;have hlx:=Md (f.kd _ hm)
  have hly:1<=BN (ps.getD i default)/\BN (ps.getD i default)<=3->lC (BN (ps.getD 0 default)) (z9 (ps.getD 0 default)).length (ps.getD 0 default).kids.length=((z9 (ps.getD 0 default)).length:Int):=by
   intro hk;by_cases h0:i=0
   ·subst h0;exact hlx hk
   ·have:=a9.1 hb 0 (by omega);unfold R1 KS l8 Cj at this;simp only[Bool.and_eq_true,decide_eq_true_eq]at this;exact Md (f.kd _ hm0) this.2.1
  have hsz:(ns.getD i default).size<=60:=Eb f.nm (aK (by omega));have hno:=λh=>bB (p:=R1 ns ps) hlt h
  have hst:=λh=>bf (p:=R1 ns ps) hb h
  have hJ:R1 ns ps i=((!decide (ns.getD i default=⟨#[]⟩)&& !decide (bU ns (ns.getD i default)<(i:Int)))&&l8 (ps.getD i default) ((z9 (ps.getD 0 default)).length:Int)):=by
   unfold R1 dC KS;rw[decide_eq_true (show((ns.getD i default).size:Int)<=60 by omega),Bool.true_and]
  rw[hJ]at hno hst;unfold l8 at hno hst;generalize cR (ps.getD i default)=F at hfx hno hst;generalize ps.getD i default=x at hix hfx hwx hlx hly hno hst;generalize ps.getD 0 default=y at hi0 hwy hly hno hst;obtain⟨x0,x1,x2,x3,x4,x5,x6,x7⟩:=x;obtain⟨y0,y1,y2,y3,y4,y5,y6,y7⟩:=y;have hax:=M8 (.mk x0 x1 x2 x3 x4 x5 x6 x7) x0 ⟨_,_,_,_,_,_,_,rfl⟩;have hnx:=xN x0 x1 x2 x3 x4 x5 x6 x7 (BO hwx);have hny:=xN y0 y1 y2 y3 y4 y5 y6 y7 (BO hwy);simp only[ap,al,aq,z9,BN,O9,QK,Sp,aX.kids]at hix hi0 hfx hax hnx hny hlx hly hno hst;unfold Cj at hno hst;have hat:Qr x0=decide (1<=x0/\x0<=3):=by unfold Qr;rw[<-Bool.decide_or,<-Bool.decide_or,decide_eq_decide];omega
  rw[hat]at hax;by_cases hk:1<=x0/\x0<=3
  ·rw[hlx hk]at hnx;rw[hly hk]at hny;rw[decide_eq_true hk]at hax hno hst;cases F
   all_goals
    repeat' (first|(with_reducible first|refine ae ?_|refine ac ‹_› rfl ?_|refine ab ‹_› rfl ?_|refine ak (λhbr=>?_) λhbr=>?_)|simp(disch:=first|omega|(simp only[ax];omega)|simp only[av,Nat.reduceAdd]) only[go_sem,hix,hi0,fi,fb])
   all_goals first
    |omega
    |(exact aO (hno (by rw[decide_eq_false (show¬((x3.length:Int)=0) by omega)];simp)))
    |(exact aO (hno (by rw[decide_eq_false (show¬((x4.length:Int)=0) by omega)];simp)))
    |(exact aO (hno (by rw[decide_eq_false (show¬((x5.length:Int)=0) by omega)];simp)))
    |(exact aO (hno (by(first|(simp[-List.getD_eq_getElem?_getD,true_and, *];done)|(simp_all[-List.getD_eq_getElem?_getD,true_and];done)|(simp[-List.getD_eq_getElem?_getD,true_and, *];omega)|(simp_all[-List.getD_eq_getElem?_getD,true_and];omega)|omega))))
    |exact⟨i+1,rfl,⟨by omega,hst (by rw[decide_eq_true (show(x3.length:Int)=0 by omega),decide_eq_true (show(x4.length:Int)=0 by omega),decide_eq_true (show(x5.length:Int)=0 by omega)];(first|(simp[-List.getD_eq_getElem?_getD,true_and, *];done)|(simp_all[-List.getD_eq_getElem?_getD,true_and];done)|(simp[-List.getD_eq_getElem?_getD,true_and, *];omega)|(simp_all[-List.getD_eq_getElem?_getD,true_and];omega)|omega))⟩,by omega⟩
    |exact⟨i+1,rfl,⟨by omega,hst (by rw[decide_eq_true (show(x3.length:Int)=0 by omega)];(first|(simp[-List.getD_eq_getElem?_getD,true_and, *];done)|(simp_all[-List.getD_eq_getElem?_getD,true_and];done)|(simp[-List.getD_eq_getElem?_getD,true_and, *];omega)|(simp_all[-List.getD_eq_getElem?_getD,true_and];omega)|omega))⟩,by omega⟩
    |exact⟨i+1,rfl,⟨by omega,hst (by(first|(simp[-List.getD_eq_getElem?_getD,true_and, *];done)|(simp_all[-List.getD_eq_getElem?_getD,true_and];done)|(simp[-List.getD_eq_getElem?_getD,true_and, *];omega)|(simp_all[-List.getD_eq_getElem?_getD,true_and];omega)|omega))⟩,by omega⟩
    |skip
  ·rw[decide_eq_false hk]at hax hno hst
   repeat' (first|(with_reducible first|refine ae ?_|refine ac ‹_› rfl ?_|refine ab ‹_› rfl ?_|refine ak (λhbr=>?_) λhbr=>?_)|simp(disch:=first|omega|(simp only[ax];omega)|simp only[av,Nat.reduceAdd]) only[go_sem,hix,hi0,fi,fb])
   all_goals first
    |omega
    |(exact aO (hno (by(first|(simp[-List.getD_eq_getElem?_getD,true_and, *];done)|(simp_all[-List.getD_eq_getElem?_getD,true_and];done)|(simp[-List.getD_eq_getElem?_getD,true_and, *];omega)|(simp_all[-List.getD_eq_getElem?_getD,true_and];omega)|omega))))
    |skip
 ·obtain rfl:i=ps.length:=by omega
  repeat' (first|(with_reducible first|refine ae ?_|refine ac ‹_› rfl ?_|refine ab ‹_› rfl ?_|refine ak (λhbr=>?_) λhbr=>?_)|simp(disch:=first|omega|(simp only[ax];omega)|simp only[av,Nat.reduceAdd]) only[go_sem,true_and])
  all_goals first|omega|exact aO hb|skip
def nR(ps:List aX):Nat:=(z9 (ps.getD 0 default)).length
structure KF(k:Int)(its:List It)(ps:List aX)(ns cl lv:List ByteArray)(c e:Int):Prop extends VW k its ps ns cl lv c e where
 k4:k=4
 cls:cl=[yN]
 nn:ns.length=ps.length
 lab:dc ns 40=true
 col:∀p∈ps,l8 p (nR ps)=true
theorem RN{k:Int}{its:List It}{ps:List aX}{ns cl lv:List ByteArray}{c e:Int}(h:Ea (.mk k its ps ns cl lv c e)=true):KF k its ps ns cl lv c e:=by
 change (d7 _&&TP k cl ns ps)=true at h;unfold TP at h;simp only[Bool.and_eq_true,decide_eq_true_eq]at h;obtain⟨h1,h2,h3,h4,h5,h6,h7⟩:=h;refine⟨vw h1,h2,?_,Int.ofNat_inj.1 h5,h6,λp hp=>?_⟩
 ·have h3:cl.length=1:=by have h3:(cl.length:Int)=1:=h3
                          omega
  match cl,h3,h4 with
  |[a],_,h4=>exact congrArg (λx=>[x]) h4
 ·obtain⟨j,hj,rfl⟩:=List.mem_iff_getElem.1 hp;have:=a9.1 h7 j hj;unfold KS at this;rw[List.getD_eq_getElem?_getD,List.getElem?_eq_getElem hj]at this;exact this
theorem UF{k:Int}{its:List It}{ps:List aX}{ns cl lv:List ByteArray}{c e:Int}(h1:d7 (.mk k its ps ns cl lv c e)=true)(h2:k=4)(h3:cl=[yN])(h5:ns.length=ps.length)(h6:dc ns 40=true)(h7:∀p∈ps,l8 p (nR ps)=true):Ea (.mk k its ps ns cl lv c e)=true:=by
 subst h3;unfold Ea;rw[h1,Bool.true_and];show TP k [yN] ns ps=true;unfold TP;have h8:bg (KS ps) ps.length=true:=a9.2 λj hj=>h7 _ (aK hj)
 rw[h6,h8];simp[h2,h5]
theorem EP{p:aX}{n:Int}(h:l8 p n=true)(hv:d9 2 p=true):∃k its cl lv,p=.mk k its [] [] cl lv 0 0/\1<=k/\k<=3/\(its.length:Int)=n/\VF k its [] [] cl lv 0 0/\((cl=[]/\lv=[])\/cR p=true):=by
 obtain⟨k,its,ps,ns,cl,lv,c,e⟩:=p;have f:=vf (gZ 2 _ hv);change Cj k its.length n ns cl lv (cR _)=true at h;unfold Cj at h;simp only[Bool.and_eq_true,Bool.or_eq_true,decide_eq_true_eq]at h;obtain⟨h1,h2,h3,h4⟩:=h;obtain rfl:ns=[]:=List.eq_nil_of_length_eq_zero (Int.ofNat_eq_zero.1 h3);obtain rfl:ps=[]:=f.p0 (by omega);obtain⟨rfl,rfl⟩:=f.ce (by omega);exact⟨k,its,cl,lv,rfl,h1.1,h1.2,h2,f,h4.imp (λh=>⟨List.eq_nil_of_length_eq_zero (Int.ofNat_eq_zero.1 h.1),List.eq_nil_of_length_eq_zero (Int.ofNat_eq_zero.1 h.2)⟩) id⟩
theorem KF.kd2{k:Int}{its:List It}{ps:List aX}{ns cl lv:List ByteArray}{c e:Int}(h:KF k its ps ns cl lv c e):∀p∈ps,d9 2 p=true:=h.kd
theorem KF.len{k:Int}{its:List It}{ps:List aX}{ns cl lv:List ByteArray}{c e:Int}(h:KF k its ps ns cl lv c e){p:aX}(hp:p∈ps):(z9 p).length=nR ps:=by
 have:=h.col p hp;unfold l8 Cj at this;simp only[Bool.and_eq_true,decide_eq_true_eq]at this;omega
theorem CV{k:Int}{its:List It}{ps:List aX}{ns cl lv:List ByteArray}{c e:Int}(h:KF k its ps ns cl lv c e):nR ps<=40:=by
 cases ps with
 |nil=>exact Nat.zero_le _
 |cons p ps=>
  obtain⟨k,its,cl,lv,hp,-,-,hl,f,-⟩:=EP (h.col p (List.mem_cons_self ..)) (h.kd2 p (List.mem_cons_self ..));have:=f.il;omega
theorem SI{k:Int}{its:List It}{ps:List aX}{ns cl lv:List ByteArray}{c e:Int}(h:KF k its ps ns cl lv c e):aB Tryz.prog 73 [(true,ap (.mk k its ps ns cl lv c e))] [(false,[.sc (.int .i64 (nR ps))],true)]:=by
 by_cases h0:ps.length=0
 ·obtain rfl:ps=[]:=List.eq_nil_of_length_eq_zero h0;simp only[ap,al,aq];refine ah Tryz.func73 rD rfl ?_;simp only[lx]
  repeat' (first|(with_reducible first|refine ae ?_|refine ac ‹_› rfl ?_|refine ab ‹_› rfl ?_|refine ak (λhbr=>?_) λhbr=>?_)|simp(disch:=first|omega|(simp only[ax];omega)|simp only[av,Nat.reduceAdd]) only[go_sem,true_and])
  all_goals first|omega|rfl
 ·have hm:ps.getD 0 default∈ps:=aK (by omega);obtain⟨k0,its0,cl0,lv0,hp,hk1,hk3,hl,f,-⟩:=EP (h.col _ hm) (h.kd2 _ hm);have hw:=h.wk _ hm;have hi0:cc 8 (some (.sl 35 8 (ps.map ap))) (some (.sc (.int .i64 0)))=some (ap (ps.getD 0 default)):=by rw[eL (by omega) (by omega)];rfl
  rw[hp]at hi0 hw;have hb:=BO (Nat.le_trans hw (by decide));have hln:=xN k0 its0 [] [] cl0 lv0 0 0 hb;have hv:lC k0 its0.length ([]:List aX).length=(nR ps:Int):=by rw[<-hl];unfold lC;rw[if_neg (by omega)];simp
  rw[hv]at hln;simp only[ap,al,aq,List.map_nil]at hi0 hln ⊢;refine ah Tryz.func73 rD rfl ?_;simp only[lx]
  repeat' (first|(with_reducible first|refine ae ?_|refine ac ‹_› rfl ?_|refine ab ‹_› rfl ?_|refine ak (λhbr=>?_) λhbr=>?_)|simp(disch:=first|omega|(simp only[ax];omega)|simp only[av,Nat.reduceAdd]) only[go_sem,hi0])
  all_goals first|omega|rfl
theorem SX{k:Int}{its:List It}{ps:List aX}{ns cl lv:List ByteArray}{c e:Int}(h:KF k its ps ns cl lv c e)(hf:Ea (.mk k its ps ns cl lv c e)=true):aB Tryz.prog 57 [(true,ap (.mk k its ps ns cl lv c e))] [(false,[.sc (.int .i64 (nR ps))],true)]:=by
 have g:=RU _ (Nat.le_trans h.wt (by decide));rw[hf]at g;by_cases h0:ps.length=0
 ·obtain rfl:ps=[]:=List.eq_nil_of_length_eq_zero h0;simp only[ap,al,aq,List.map_nil]at g ⊢;refine ah Tryz.func57 nP rfl ?_;simp only[gY]
  repeat' (first|(with_reducible first|refine ae ?_|refine ac ‹_› rfl ?_|refine ab ‹_› rfl ?_|refine ak (λhbr=>?_) λhbr=>?_)|simp(disch:=first|omega|(simp only[ax];omega)|simp only[av,Nat.reduceAdd]) only[go_sem,true_and])
  all_goals first|omega|rfl
 ·have hi0:cc 8 (some (.sl 35 8 (ps.map ap))) (some (.sc (.int .i64 0)))=some (ap (ps.getD 0 default)):=by rw[eL (by omega) (by omega)];rfl
  have hn:nR ps=(z9 (ps.getD 0 default)).length:=rfl;generalize nR ps=n at hn ⊢;generalize ps.getD 0 default=y at hi0 hn;obtain⟨y0,y1,y2,y3,y4,y5,y6,y7⟩:=y;simp only[ap,al,aq,z9]at hi0 hn g ⊢;subst hn;refine ah Tryz.func57 nP rfl ?_;simp only[gY]
  repeat' (first|(with_reducible first|refine ae ?_|refine ac ‹_› rfl ?_|refine ab ‹_› rfl ?_|refine ak (λhbr=>?_) λhbr=>?_)|simp(disch:=first|omega|(simp only[ax];omega)|simp only[av,Nat.reduceAdd]) only[go_sem,hi0])
  all_goals first|omega|rfl
def Hn(ps:List aX)(i j:Nat):Bool:=!decide (((z9 (ps.getD j default)).getD i default).den=0)
def VB(ps:List aX)(i:Nat):Bool:=bg (Hn ps i) ps.length
def FJ(ps:List aX):Nat->List Int
 |0=>[]
 |i+1=>FJ ps i++(if VB ps i then[((i+1:Nat):Int)]else[])
theorem uy(ps:List aX):∀n,(FJ ps n).length<=n
 |0=>Nat.le_refl _
 |n+1=>by rw[FJ,List.length_append];have:=uy ps n;split<;>simp<;>omega
theorem IJ(ps:List aX):∀n,∀p∈FJ ps n,1<=p/\p<=n
 |0,p,h=>by cases h
 |n+1,p,h=>by
  rw[FJ]at h;rcases List.mem_append.1 h with h|h
  ·have:=IJ ps n p h;omega
  ·split at h
   ·simp at h;omega
   ·cases h
theorem V6{k:Int}{its:List It}{ps:List aX}{ns cl lv:List ByteArray}{c e:Int}(h:KF k its ps ns cl lv c e){i:Nat}(hi:i<nR ps):aB Tryz.prog 58 [(true,ap (.mk k its ps ns cl lv c e)),(false,[.sc (.int .i64 i)])] [(false,[.sc (.bool (VB ps i))],true)]:=by
 have hpl:=h.l40;simp only[ap,al,aq];refine ah Tryz.func58 oN rfl ?_;simp only[gp];unfold VB;simp(disch:=first|omega|(simp only[ax];omega)|simp only[av,Nat.reduceAdd]) only[go_sem,true_and];refine lp (λj:Nat=>[.sc (.int .i64 j)]) (λj=>j<=ps.length/\bg (Hn ps i) j=true) (λj=>ps.length-j) 0 rfl ⟨by omega,rfl⟩ ?_;rintro j ⟨hj,hb⟩;simp only[fF];by_cases hlt:j<ps.length
 ·have hix:cc 8 (some (.sl 35 8 (ps.map ap))) (some (.sc (.int .i64 (j:Int))))=some (ap (ps.getD j default)):=by rw[eL (by omega) (by omega),Int.toNat_natCast]
  have hl:=h.len (aK hlt);have hno:=λh=>bB (p:=Hn ps i) hlt h
  have hst:=λh=>bf (p:=Hn ps i) hb h
  rw[show Hn ps i j= !decide (((z9 (ps.getD j default)).getD i default).den=0)from rfl]at hno hst;generalize ps.getD j default=x at hix hl hno hst;obtain⟨x0,x1,x2,x3,x4,x5,x6,x7⟩:=x;change x1.length=_ at hl;change (!decide ((x1.getD i default).den=0))=false->_ at hno;change (!decide ((x1.getD i default).den=0))=true->_ at hst;have hit:=cD (t:=78) (l:=x1) (kd:=.i64) (z:=(i:Int)) (by omega) (by omega);rw[Int.toNat_natCast]at hit;generalize x1.getD i default=y at hit hno hst;simp only[ap,al,aq,ao]at hix hit
  repeat' (first|(with_reducible first|refine ae ?_|refine ac ‹_› rfl ?_|refine ab ‹_› rfl ?_|refine ak (λhbr=>?_) λhbr=>?_)|simp(disch:=first|omega|(simp only[ax];omega)|simp only[av,Nat.reduceAdd]) only[go_sem,hix,hit])
  all_goals first|omega|(exact aO (hno (by simp[*])))|exact⟨j+1,rfl,⟨by omega,hst (by simp[*])⟩,by omega⟩|skip
 ·obtain rfl:j=ps.length:=by omega
  repeat' (first|(with_reducible first|refine ae ?_|refine ac ‹_› rfl ?_|refine ab ‹_› rfl ?_|refine ak (λhbr=>?_) λhbr=>?_)|simp(disch:=first|omega|(simp only[ax];omega)|simp only[av,Nat.reduceAdd]) only[go_sem,true_and])
  all_goals first|omega|exact aO hb|skip
theorem Xj{k:Int}{its:List It}{ps:List aX}{ns cl lv:List ByteArray}{c e:Int}(hf:Ea (.mk k its ps ns cl lv c e)=true):aB Tryz.prog 21 [(true,ap (.mk k its ps ns cl lv c e))] [(false,[aZ (FJ ps (nR ps))],true)]:=by
 have h:=RN hf;have g:=SX h hf;have hn:=CV h;have hok:=λi hi=>V6 h (i:=i) hi
 simp only[ap,al,aq,aZ]at g hok ⊢;refine ah Tryz.func21 oz rfl ?_;simp only[fB];simp(disch:=first|omega|(simp only[ax];omega)|simp only[av,Nat.reduceAdd]) only[go_sem,true_and];refine lp (λi:Nat=>[.sc (.int .i64 i),.sl 3 1 ((FJ ps i).map ea)]) (λi=>i<=nR ps) (λi=>nR ps-i) 0 rfl (by omega) ?_;intro i hi;simp only[fa];have hln:=uy ps i;by_cases hlt:i<nR ps
 ·have hok:=hok i hlt;have hs:FJ ps (i+1)=FJ ps i++(if VB ps i then[((i+1:Nat):Int)]else[]):=rfl;cases hc:VB ps i
  all_goals
   rw[hc]at hok hs
   repeat' (first|(with_reducible first|refine ae ?_|refine ac ‹_› rfl ?_|refine ab ‹_› rfl ?_|refine ak (λhbr=>?_) λhbr=>?_)|simp(disch:=first|omega|(simp only[ax];omega)|simp only[av,Nat.reduceAdd]) only[go_sem,eZ])
  all_goals first|omega|exact⟨i+1,by rw[hs];simp[ea],by omega,by omega⟩|skip
 ·obtain rfl:i=nR ps:=by omega
  repeat' (first|(with_reducible first|refine ae ?_|refine ac ‹_› rfl ?_|refine ab ‹_› rfl ?_|refine ak (λhbr=>?_) λhbr=>?_)|simp(disch:=first|omega|(simp only[ax];omega)|simp only[av,Nat.reduceAdd]) only[go_sem,true_and])
  all_goals first|omega|rfl
def YT:ByteArray:=⟨#[110,111,32,115,117,99,104,32,99,111,108,117,109,110]⟩
def YG:ByteArray:=⟨#[105,110,118,97,108,105,100,32,110,97,109,101,115]⟩
def Yv:ByteArray:=⟨#[110,111,116,32,97,32,100,97,116,97,32,102,114,97,109,101]⟩
def eM(cols:List aX)(names:List ByteArray):aX:=.mk 4 [] cols names [yN] [] 0 0
structure J1(cols:List aX)(n:Nat):Prop where
 len:cols.length<=40
 col:∀p∈cols,l8 p n=true/\d9 2 p=true/\ck p<=4020000
theorem Qv{l:List ByteArray}{m:Int}(h:dc l m=true):∀x∈l,x.size<=60:=λx hx=>j0 h hx
theorem E3{cols:List aX}{n:Nat}(h:J1 cols n){names:List ByteArray}(hl:dc names 40=true):ck (eM cols names)<=1000000000:=by
 have h4:=fc hl;exact RI (by simp) (by simp) (λp hp=>(h.col p hp).2.2) (by have:=h.len;omega) (Qv hl) (by omega) (by intro x hx;simp at hx;subst hx;decide) (by simp) (by simp) (by simp)
theorem LN{cols:List aX}{n:Nat}(h:J1 cols n){names:List ByteArray}(hl:dc names 40=true)(hn:names.length=cols.length):Ea (eM cols names)=d7 (eM cols names):=by
 cases hv:d7 (eM cols names)with
 |false=>unfold Ea;rw[hv];rfl
 |true=>
  refine UF hv rfl rfl hn hl λp hp=>?_
  have hr:(nR cols:Int)=n:=by
   cases cols with
   |nil=>cases hp
   |cons q cols=>
    have:=(h.col q (List.mem_cons_self ..)).1;unfold l8 Cj at this;simp only[Bool.and_eq_true,decide_eq_true_eq]at this;exact this.2.1
  rw[hr];exact(h.col p hp).1
def VT(cols:List aX)(names:List ByteArray):aX×ByteArray:=if Ea (eM cols names)=true then(eM cols names,eh)else(fV 0 [],Wn)
theorem Jg{cols:List aX}{n:Nat}(h:J1 cols n){names:List ByteArray}(hl:dc names 40=true)(hn:names.length=cols.length):VT cols names=qv (eM cols names):=by
 unfold VT qv;rw[LN h hl hn]
theorem O2(cols:List aX)(names:List ByteArray)(hw:ck (eM cols names)<=1000000000):
 ic Tryz.prog 38 [(false,[.sl 35 8 (cols.map ap)],true),(false,[aq names],false)] [(true,ap (VT cols names).1,true),(false,[.sc (.string (VT cols names).2)],true)]:=by
 have h1:=Od (eM cols names) hw;obtain⟨b1,b2,b3,b4,b5,b6⟩:=BO hw;have h2:=mN names (by omega);unfold VT;cases hv:Ea (eM cols names)
 all_goals
  rw[hv]at h1;simp only[Bool.false_eq_true,if_false,if_true,ap,al,aq,eM,fV,List.map_nil,List.map_cons,bG,yN]at h1 h2 ⊢;refine et Tryz.func38 xh rfl (by simp) ?_;simp only[lK]
  repeat' (first|(with_reducible first|refine ae ?_|refine ac ‹_› rfl ?_|refine ab ‹_› rfl ?_|refine ak (λhbr=>?_) λhbr=>?_)|simp(disch:=first|omega|(simp only[ax];omega)|simp only[av,Nat.reduceAdd]) only[go_sem,true_and])
 all_goals rfl
theorem Xa(names:List ByteArray)(n:Int)(hl:names.length<=1000000000):aB Tryz.prog 72 [(false,[aq names]),(false,[.sc (.int .i64 n)])] [(false,[.sc (.bool (decide ((names.length:Int)=n)&&bg (dC names) names.length))],true)]:=by
 have hH:=λi=>wP 9 (names.take i) (names.getD i default) (by rw[List.length_take];omega)
 simp only[aq];refine ah Tryz.func72 qB rfl ?_;simp only[iU]
 repeat' (first|(with_reducible first|refine ae ?_|refine ac ‹_› rfl ?_|refine ab ‹_› rfl ?_|refine ak (λhbr=>?_) λhbr=>?_)|simp(disch:=first|omega|(simp only[ax];omega)|simp only[av,Nat.reduceAdd]) only[go_sem,true_and])
 all_goals first|omega|(refine aO ?_;rw[decide_eq_false (by omega)];rfl)|skip
 rw[decide_eq_true (show(names.length:Int)=n by omega),Bool.true_and];refine lp (λi:Nat=>[.sc (.int .i64 i)]) (λi=>i<=names.length/\bg (dC names) i=true) (λi=>names.length-i) 0 rfl ⟨by omega,rfl⟩ ?_;rintro i ⟨hi,hb⟩;simp only[gz];by_cases hlt:i<names.length
 ·have hHi:=hH i;rw[xO hlt]at hHi
  repeat' (first|(with_reducible first|refine ae ?_|refine ac ‹_› rfl ?_|refine ab ‹_› rfl ?_|refine ak (λhbr=>?_) λhbr=>?_)|simp(disch:=first|omega|(simp only[ax];omega)|simp only[av,Nat.reduceAdd]) only[go_sem,true_and])
  all_goals first
   |omega
   |exact aO (by rw[bB hlt (by(first|(simp[-List.getD_eq_getElem?_getD,dC, *];done)|(simp_all[-List.getD_eq_getElem?_getD,dC];done)|(simp[-List.getD_eq_getElem?_getD,dC, *];omega)|(simp_all[-List.getD_eq_getElem?_getD,dC];omega)|omega))])
   |exact⟨i+1,rfl,⟨by omega,bf hb (by(first|(simp[-List.getD_eq_getElem?_getD,dC, *];done)|(simp_all[-List.getD_eq_getElem?_getD,dC];done)|(simp[-List.getD_eq_getElem?_getD,dC, *];omega)|(simp_all[-List.getD_eq_getElem?_getD,dC];omega)|omega))⟩,by omega⟩
   |skip
 ·obtain rfl:i=names.length:=by omega
  repeat' (first|(with_reducible first|refine ae ?_|refine ac ‹_› rfl ?_|refine ab ‹_› rfl ?_|refine ak (λhbr=>?_) λhbr=>?_)|simp(disch:=first|omega|(simp only[ax];omega)|simp only[av,Nat.reduceAdd]) only[go_sem,true_and])
  all_goals first|omega|exact aO hb|skip
def OM(cols:List aX)(names:List ByteArray):aX×ByteArray:=if names.length=cols.length/\dc names 40=true then qv (eM cols names)else(fV 0 [],YG)
theorem RR{cols:List aX}{n:Nat}(h:J1 cols n)(names:List ByteArray)(hn:names.length<=1000000000):
 aB Tryz.prog 56 [(false,[.sl 35 8 (cols.map ap)]),(false,[aq names])] [(true,ap (OM cols names).1,true),(false,[.sc (.string (OM cols names).2)],true)]:=by
 have hl:=h.len;have g1:=MI cols (λp _=>MU p) (λp hp=>Nat.le_trans (h.col p hp).2.2 (by decide)) (λp hp=>gZ 2 _ (h.col p hp).2.1) hl;have g2:=DP 9 names 40 hn;have g3:dc names 40=true->_:=λhb=>TQ (eM cols names) (E3 h hb)
 unfold OM;by_cases hc:names.length=cols.length
 ·cases hb:dc names 40
  ·rw[hb]at g2;rw[if_neg (by simp)];simp only[ap,al,aq,fV]at g1 g2 ⊢;refine ah Tryz.func56 fJ rfl ?_;simp only[dQ]
   repeat' (first|(with_reducible first|refine ae ?_|refine ac ‹_› rfl ?_|refine ab ‹_› rfl ?_|refine ak (λhbr=>?_) λhbr=>?_)|simp(disch:=first|omega|(simp only[ax];omega)|simp only[av,Nat.reduceAdd]) only[go_sem,true_and])
   all_goals first|omega|rfl
  ·rw[hb]at g2;rw[if_pos ⟨hc,rfl⟩];have g3:=g3 hb;generalize qv (eM cols names)=r at g3 ⊢;obtain⟨⟨x0,x1,x2,x3,x4,x5,x6,x7⟩,q⟩:=r;simp only[ap,al,aq,eM,List.map_nil,List.map_cons,bG,yN]at g1 g2 g3 ⊢;refine ah Tryz.func56 fJ rfl ?_;simp only[dQ]
   repeat' (first|(with_reducible first|refine ae ?_|refine ac ‹_› rfl ?_|refine ab ‹_› rfl ?_|refine ak (λhbr=>?_) λhbr=>?_)|simp(disch:=first|omega|(simp only[ax];omega)|simp only[av,Nat.reduceAdd]) only[go_sem,true_and])
   all_goals first|omega|skip
   refine nv (f:=26) (bits:=1) (by decide) g3 rfl ?_
   repeat' (first|(with_reducible first|refine ae ?_|refine ac ‹_› rfl ?_|refine ab ‹_› rfl ?_|refine ak (λhbr=>?_) λhbr=>?_)|simp(disch:=first|omega|(simp only[ax];omega)|simp only[av,Nat.reduceAdd]) only[go_sem,true_and])
   all_goals first|omega|rfl
 ·rw[if_neg (λh=>hc h.1)];simp only[ap,al,aq,fV]at g1 ⊢;refine ah Tryz.func56 fJ rfl ?_;simp only[dQ]
  repeat' (first|(with_reducible first|refine ae ?_|refine ac ‹_› rfl ?_|refine ab ‹_› rfl ?_|refine ak (λhbr=>?_) λhbr=>?_)|simp(disch:=first|omega|(simp only[ax];omega)|simp only[av,Nat.reduceAdd]) only[go_sem,true_and])
  all_goals first|omega|rfl
def xE(ns names:List ByteArray)(j:Nat):Bool:=decide (0<=bU ns (names.getD j default))
def mn(ns:List ByteArray)(ps:List aX)(s:ByteArray):aX:=ps.getD (bU ns s).toNat default
def Ko(ns:List ByteArray)(ps:List aX)(names:List ByteArray):aX×ByteArray:=if bg (xE ns names) names.length=true then OM (names.map (mn ns ps)) names else(fV 0 [],YT)
def q8(v:aX)(names:List ByteArray):aX×ByteArray:=if Ea v=true then Ko (O9 v) v.kids names else(fV 0 [],Yv)
theorem AJ(l:List ByteArray)(s:ByteArray):bU l s<l.length:=by have:=wy l s;omega
theorem wa{k:Int}{its:List It}{ps:List aX}{ns cl lv:List ByteArray}{c e:Int}(h:KF k its ps ns cl lv c e){names:List ByteArray}(hn:names.length<=40)(hf:bg (xE ns names) names.length=true):J1 (names.map (mn ns ps)) (nR ps):=by
 refine⟨by simpa using hn,λp hp=>?_⟩;obtain⟨s,hs,rfl⟩:=List.mem_map.1 hp;obtain⟨j,hj,rfl⟩:=List.mem_iff_getElem.1 hs;have h1:=a9.1 hf j hj;unfold xE at h1;rw[List.getD_eq_getElem?_getD,List.getElem?_eq_getElem hj]at h1;have h1:0<=bU ns names[j]:=by simpa using h1
 have h2:=AJ ns names[j];have hm:mn ns ps names[j]∈ps:=aK (by have:=h.nn;omega);exact⟨h.col _ hm,h.kd2 _ hm,h.wk _ hm⟩
set_option maxHeartbeats 1000000 in
theorem Vw(v:aX)(names:List ByteArray)(hw:ck v<=1000000000)(hn:names.length<=40):
 aB Tryz.prog 20 [(true,ap v),(false,[aq names])] [(true,ap (q8 v names).1,true),(false,[.sc (.string (q8 v names).2)],true)]:=by
 have g1:=RU v hw;unfold q8;cases hf:Ea v
 ·rw[hf]at g1;obtain⟨k,its,ps,ns,cl,lv,c,e⟩:=v;simp only[Bool.false_eq_true,if_false,ap,al,aq,fV]at g1 ⊢;refine ah Tryz.func20 fk rfl ?_;simp only[da]
  repeat' (first|(with_reducible first|refine ae ?_|refine ac ‹_› rfl ?_|refine ab ‹_› rfl ?_|refine ak (λhbr=>?_) λhbr=>?_)|simp(disch:=first|omega|(simp only[ax];omega)|simp only[av,Nat.reduceAdd]) only[go_sem,true_and])
  all_goals first|omega|rfl
 rw[hf]at g1;obtain⟨k,its,ps,ns,cl,lv,c,e⟩:=v;have F:=RN hf;have hpl:=F.l40;have hnn:=F.nn;have g2:=λs=>uQ 9 ns s (by omega)
 have g3:bg (xE ns names) names.length=true->_:=λh=>RR (wa F hn h) names (by omega)
 simp only[if_true,O9,aX.kids]at g3 ⊢;generalize hr:Ko ns ps names=r;unfold Ko at hr;simp only[ap,al,aq]at g1 ⊢;refine ah Tryz.func20 fk rfl ?_;simp only[da]
 repeat' (first|(with_reducible first|refine ae ?_|refine ac ‹_› rfl ?_|refine ab ‹_› rfl ?_|refine ak (λhbr=>?_) λhbr=>?_)|simp(disch:=first|omega|(simp only[ax];omega)|simp only[av,Nat.reduceAdd]) only[go_sem,true_and])
 refine lp (λi:Nat=>[.sc (.int .i64 i),.sl 35 8 (((names.take i).map (mn ns ps)).map ap)]) (λi=>i<=names.length/\bg (xE ns names) i=true) (λi=>names.length-i) 0 rfl ⟨by omega,rfl⟩ ?_;rintro i ⟨hi,hb⟩;simp only[eG];by_cases hlt:i<names.length
 ·have g2:=g2 (names.getD i default);have hz:=AJ ns (names.getD i default);have hno:=λh=>bB (p:=xE ns names) hlt h
  have hst:=λh=>bf (p:=xE ns names) hb h
  rw[show xE ns names i=decide (0<=bU ns (names.getD i default))from rfl]at hno hst;have hap:=dT (t:=35) (ti:=78) (l:=(names.take i).map (mn ns ps)) (v:=mn ns ps (names.getD i default)) (by simp;omega);rw[show(names.take i).map (mn ns ps)++[mn ns ps (names.getD i default)]=(names.take (i+1)).map (mn ns ps) by rw[bh hlt,List.map_append];rfl]at hap;have hix:0<=bU ns (names.getD i default)->cc 8 (some (.sl 35 8 (ps.map ap))) (some (.sc (.int .i64 (bU ns (names.getD i default)))))=some (ap (mn ns ps (names.getD i default))):=λh=>eL h (by omega)
  generalize mn ns ps (names.getD i default)=x at hix hap;obtain⟨x0,x1,x2,x3,x4,x5,x6,x7⟩:=x;simp only[ap,al,aq]at hix hap;by_cases h0:0<=bU ns (names.getD i default)
  ·have hix:=hix h0
   repeat' (first|(with_reducible first|refine ae ?_|refine ac ‹_› rfl ?_|refine ab ‹_› rfl ?_|refine ak (λhbr=>?_) λhbr=>?_)|simp(disch:=first|omega|(simp only[ax];omega)|simp only[av,Nat.reduceAdd]) only[go_sem,hix,hap])
   all_goals first|omega|exact⟨i+1,rfl,⟨by omega,hst (by simpa using h0)⟩,by omega⟩|skip
  ·rw[if_neg (by rw[hno (by simpa using h0)];simp)]at hr;subst hr;simp only[ap,al,aq,fV]
   repeat' (first|(with_reducible first|refine ae ?_|refine ac ‹_› rfl ?_|refine ab ‹_› rfl ?_|refine ak (λhbr=>?_) λhbr=>?_)|simp(disch:=first|omega|(simp only[ax];omega)|simp only[av,Nat.reduceAdd]) only[go_sem,true_and])
   all_goals first|omega|rfl
 ·obtain rfl:i=names.length:=by omega
  rw[if_pos hb]at hr;have g3:=g3 hb;rw[hr]at g3;rw[List.take_length];obtain⟨⟨x0,x1,x2,x3,x4,x5,x6,x7⟩,q⟩:=r;simp only[ap,al,aq]at g3 ⊢
  repeat' (first|(with_reducible first|refine ae ?_|refine ac ‹_› rfl ?_|refine ab ‹_› rfl ?_|refine ak (λhbr=>?_) λhbr=>?_)|simp(disch:=first|omega|(simp only[ax];omega)|simp only[av,Nat.reduceAdd]) only[go_sem,true_and])
  all_goals first|omega|rfl
set_option maxHeartbeats 1000000 in
theorem UH(v:aX)(names:List ByteArray)(hw:ck v<=1000000000)(hn:names.length<=40):
 aB Tryz.prog 32 [(true,ap v),(false,[aq names])] [(true,ap (q8 v names).1,true),(false,[.sc (.string (q8 v names).2)],true)]:=by
 have g1:=Od v hw;unfold q8;cases hf:Ea v
 ·rw[hf]at g1;obtain⟨k,its,ps,ns,cl,lv,c,e⟩:=v;simp only[Bool.false_eq_true,if_false,ap,al,aq,fV]at g1 ⊢;refine ah Tryz.func32 eQ rfl ?_;simp only[c8]
  repeat' (first|(with_reducible first|refine ae ?_|refine ac ‹_› rfl ?_|refine ab ‹_› rfl ?_|refine ak (λhbr=>?_) λhbr=>?_)|simp(disch:=first|omega|(simp only[ax];omega)|simp only[av,Nat.reduceAdd]) only[go_sem,true_and])
  all_goals first|omega|rfl
 rw[hf]at g1;obtain⟨k,its,ps,ns,cl,lv,c,e⟩:=v;have F:=RN hf;have hpl:=F.l40;have hnn:=F.nn;have g2:=λs=>pq 9 ns s (by omega)
 have g3:bg (xE ns names) names.length=true->dc names 40=true->_:=λh hl=>O2 _ names (E3 (wa F hn h) hl)
 have g4:=Xa names names.length (by omega);rw[decide_eq_true rfl,Bool.true_and]at g4;have hlab:dc names 40=bg (dC names) names.length:=by unfold dc;rw[decide_eq_true (by omega),Bool.true_and]
 simp only[if_true,O9,aX.kids]at g3 ⊢;generalize hr:Ko ns ps names=r;unfold Ko at hr;simp only[ap,al,aq]at g1 g4 ⊢;refine ah Tryz.func32 eQ rfl ?_;simp only[c8]
 repeat' (first|(with_reducible first|refine ae ?_|refine ac ‹_› rfl ?_|refine ab ‹_› rfl ?_|refine ak (λhbr=>?_) λhbr=>?_)|simp(disch:=first|omega|(simp only[ax];omega)|simp only[av,Nat.reduceAdd]) only[go_sem,true_and])
 refine lp (λi:Nat=>[.sc (.int .i64 i),.sl 35 8 (((names.take i).map (mn ns ps)).map ap)]) (λi=>i<=names.length/\bg (xE ns names) i=true) (λi=>names.length-i) 0 rfl ⟨by omega,rfl⟩ ?_;rintro i ⟨hi,hb⟩;simp only[eI];by_cases hlt:i<names.length
 ·have g2:=g2 (names.getD i default);have hz:=AJ ns (names.getD i default);have hno:=λh=>bB (p:=xE ns names) hlt h
  have hst:=λh=>bf (p:=xE ns names) hb h
  rw[show xE ns names i=decide (0<=bU ns (names.getD i default))from rfl]at hno hst;have hap:=dT (t:=35) (ti:=78) (l:=(names.take i).map (mn ns ps)) (v:=mn ns ps (names.getD i default)) (by simp;omega);rw[show(names.take i).map (mn ns ps)++[mn ns ps (names.getD i default)]=(names.take (i+1)).map (mn ns ps) by rw[bh hlt,List.map_append];rfl]at hap;have hix:0<=bU ns (names.getD i default)->cc 8 (some (.sl 35 8 (ps.map ap))) (some (.sc (.int .i64 (bU ns (names.getD i default)))))=some (ap (mn ns ps (names.getD i default))):=λh=>eL h (by omega)
  have hcp:0<=bU ns (names.getD i default)->_:=λh=>DE (mn ns ps (names.getD i default)) (Nat.le_trans (F.wk _ (aK (by omega))) (by decide))
  generalize mn ns ps (names.getD i default)=x at hix hap hcp;obtain⟨x0,x1,x2,x3,x4,x5,x6,x7⟩:=x;simp only[ap,al,aq]at hix hap hcp;by_cases h0:0<=bU ns (names.getD i default)
  ·have hix:=hix h0;have hcp:=hcp h0
   repeat' (first|(with_reducible first|refine ae ?_|refine ac ‹_› rfl ?_|refine ab ‹_› rfl ?_|refine ak (λhbr=>?_) λhbr=>?_)|simp(disch:=first|omega|(simp only[ax];omega)|simp only[av,Nat.reduceAdd]) only[go_sem,hix,hap])
   all_goals first|omega|exact⟨i+1,rfl,⟨by omega,hst (by simpa using h0)⟩,by omega⟩|skip
  ·rw[if_neg (by rw[hno (by simpa using h0)];simp)]at hr;subst hr;simp only[ap,al,aq,fV]
   repeat' (first|(with_reducible first|refine ae ?_|refine ac ‹_› rfl ?_|refine ab ‹_› rfl ?_|refine ak (λhbr=>?_) λhbr=>?_)|simp(disch:=first|omega|(simp only[ax];omega)|simp only[av,Nat.reduceAdd]) only[go_sem,true_and])
   all_goals first|omega|rfl
 ·obtain rfl:i=names.length:=by omega
  rw[if_pos hb]at hr;have g3:=g3 hb;rw[hlab]at g3;have hfp:=λhl=>Jg (wa F hn hb) (names:=names) hl (by simp)
  unfold OM at hr;rw[hlab]at hr hfp;rw[List.take_length];cases hl:bg (dC names) names.length
  ·rw[hl]at g4 hr;rw[if_neg (by simp)]at hr;subst hr;simp only[ap,al,aq,fV]
   repeat' (first|(with_reducible first|refine ae ?_|refine ac ‹_› rfl ?_|refine ab ‹_› rfl ?_|refine ak (λhbr=>?_) λhbr=>?_)|simp(disch:=first|omega|(simp only[ax];omega)|simp only[av,Nat.reduceAdd]) only[go_sem,true_and])
   all_goals first|omega|rfl
  ·rw[hl]at g4 hr;have g3:=g3 hl;rw[if_pos ⟨by simp,rfl⟩]at hr;rw[hfp hl,hr]at g3;obtain⟨⟨x0,x1,x2,x3,x4,x5,x6,x7⟩,q⟩:=r;simp only[ap,al,aq]at g3 ⊢
   repeat' (first|(with_reducible first|refine ae ?_|refine ac ‹_› rfl ?_|refine ab ‹_› rfl ?_|refine ak (λhbr=>?_) λhbr=>?_)|simp(disch:=first|omega|(simp only[ax];omega)|simp only[av,Nat.reduceAdd]) only[go_sem,true_and])
   all_goals first|omega|skip
   refine nv (f:=38) (bits:=1) (by decide) g3 rfl ?_
   repeat' (first|(with_reducible first|refine ae ?_|refine ac ‹_› rfl ?_|refine ab ‹_› rfl ?_|refine ak (λhbr=>?_) λhbr=>?_)|simp(disch:=first|omega|(simp only[ax];omega)|simp only[av,Nat.reduceAdd]) only[go_sem,true_and])
   all_goals first|omega|rfl
set_option maxHeartbeats 1000000 in
theorem W5{k:Int}{its:List It}{ps:List aX}{ns cl lv:List ByteArray}{c e:Int}(hf:Ea (.mk k its ps ns cl lv c e)=true):aB Tryz.prog 33 [(true,ap (.mk k its ps ns cl lv c e))] [(false,[aZ (FJ ps (nR ps))],true)]:=by
 have h:=RN hf;have g:=SI h;have g0:=Od _ (Nat.le_trans h.wt (by decide));rw[hf]at g0;have hn:=CV h;have hpl:=h.l40;simp only[ap,al,aq,aZ]at g g0 ⊢;refine ah Tryz.func33 n8 rfl ?_;simp only[fG]
 repeat' (first|(with_reducible first|refine ae ?_|refine ac ‹_› rfl ?_|refine ab ‹_› rfl ?_|refine ak (λhbr=>?_) λhbr=>?_)|simp(disch:=first|omega|(simp only[ax];omega)|simp only[av,Nat.reduceAdd]) only[go_sem,true_and])
 refine lp (λi:Nat=>[.sc (.int .i64 i),.sl 3 1 ((FJ ps i).map ea)]) (λi=>i<=nR ps) (λi=>nR ps-i) 0 rfl (by omega) ?_;intro i hi;simp only[eV];have hln:=uy ps i;by_cases hlt:i<nR ps
 ·have hs:FJ ps (i+1)=FJ ps i++(if VB ps i then[((i+1:Nat):Int)]else[]):=rfl
  repeat' (first|(with_reducible first|refine ae ?_|refine ac ‹_› rfl ?_|refine ab ‹_› rfl ?_|refine ak (λhbr=>?_) λhbr=>?_)|simp(disch:=first|omega|(simp only[ax];omega)|simp only[av,Nat.reduceAdd]) only[go_sem,true_and])
  all_goals first|omega|skip
  refine lp (λj:Nat=>[.sc (.int .i64 j),.sc (.bool (bg (Hn ps i) j))]) (λj=>j<=ps.length) (λj=>ps.length-j) 0 rfl (by omega) ?_;intro j hj;simp only[ff];by_cases hjt:j<ps.length
  ·have hm:=aK hjt;have hix:cc 8 (some (.sl 35 8 (ps.map ap))) (some (.sc (.int .i64 (j:Int))))=some (ap (ps.getD j default)):=by rw[eL (by omega) (by omega),Int.toNat_natCast]
   obtain⟨k0,its0,cl0,lv0,hp,hk1,hk3,hl,f,-⟩:=EP (h.col _ hm) (h.kd2 _ hm);have hJ:Hn ps i j= !decide ((its0.getD i default).den=0):=by unfold Hn;rw[hp];rfl
   have hit:=cD (t:=78) (l:=its0) (kd:=.i64) (z:=(i:Int)) (by omega) (by omega);rw[Int.toNat_natCast]at hit;have hv:=f.it _ (aK (show i<its0.length by omega));unfold dk at hv;rw[Bool.and_eq_true]at hv;have hd:its0.getD i default=bC↔(its0.getD i default).den=0:=mW hv.1;have hms:=fX (its0.getD i default);rw[hp]at hix;by_cases h0:its0.getD i default=bC
   ·have hsu:bg (Hn ps i) (j+1)=false:=by rw[dR,hJ,decide_eq_true (hd.1 h0)];simp
    rw[decide_eq_true h0]at hms;clear hd hJ hv h0;generalize its0.getD i default=y at hit hms;simp only[ap,al,aq,ao]at hix hit hms;cases hA:bg (Hn ps i) j
    all_goals
     repeat' (first|(with_reducible first|refine ae ?_|refine ac ‹_› rfl ?_|refine ab ‹_› rfl ?_|refine ak (λhbr=>?_) λhbr=>?_)|simp(disch:=first|omega|(simp only[ax];omega)|simp only[av,Nat.reduceAdd]) only[go_sem,hix,hit,cd])
    all_goals first|omega|exact⟨j+1,by simp[hsu],by omega,by omega⟩|skip
   ·have hsu:bg (Hn ps i) (j+1)=bg (Hn ps i) j:=by rw[dR,hJ,decide_eq_false (λe=>h0 (hd.2 e))];simp
    rw[decide_eq_false h0]at hms;clear hd hJ hv h0;generalize its0.getD i default=y at hit hms;simp only[ap,al,aq,ao]at hix hit hms;cases hA:bg (Hn ps i) j
    all_goals
     rw[hA]at hsu
     repeat' (first|(with_reducible first|refine ae ?_|refine ac ‹_› rfl ?_|refine ab ‹_› rfl ?_|refine ak (λhbr=>?_) λhbr=>?_)|simp(disch:=first|omega|(simp only[ax];omega)|simp only[av,Nat.reduceAdd]) only[go_sem,hix,hit,cd])
    all_goals first|omega|exact⟨j+1,by simp[hsu],by omega,by omega⟩|skip
  ·obtain rfl:j=ps.length:=by omega
   rw[show VB ps i=bg (Hn ps i) ps.length from rfl]at hs;cases hA:bg (Hn ps i) ps.length
   all_goals
    rw[hA]at hs
    repeat' (first|(with_reducible first|refine ae ?_|refine ac ‹_› rfl ?_|refine ab ‹_› rfl ?_|refine ak (λhbr=>?_) λhbr=>?_)|simp(disch:=first|omega|(simp only[ax];omega)|simp only[av,Nat.reduceAdd]) only[go_sem,cd])
   all_goals first|omega|exact⟨i+1,by rw[hs];simp[ea],by omega,by omega⟩|skip
 ·obtain rfl:i=nR ps:=by omega
  repeat' (first|(with_reducible first|refine ae ?_|refine ac ‹_› rfl ?_|refine ab ‹_› rfl ?_|refine ak (λhbr=>?_) λhbr=>?_)|simp(disch:=first|omega|(simp only[ax];omega)|simp only[av,Nat.reduceAdd]) only[go_sem,true_and])
  all_goals first|omega|rfl
theorem zN{k:Int}{its:List It}{cl lv:List ByteArray}(hv:d9 2 (.mk k its [] [] cl lv 0 0)=true):d7 (.mk k its [] [] cl lv 0 0)=true:=by
 have h3:=gZ 2 _ hv;have f:=vf h3;unfold d7;rw[h3,Bool.true_and,decide_eq_true_eq];rw[HU];have h1:lC k its.length ([]:List aX).length<=40:=by have:=f.il;unfold lC;split<;>simp<;>omega
 have h2:aA (og 3) ([]:List aX)=0:=rfl;rw[h2];omega
theorem I6{k:Int}{its:List It}{cl lv:List ByteArray}(hv:d9 2 (.mk k its [] [] cl lv 0 0)=true):ck (.mk k its [] [] cl lv 0 0)<=4020000:=zW (zN hv)
theorem ql{p:aX}{n:Int}(h:l8 p n=true)(hv:d9 2 p=true){l:List Int}(hl:l.length<=40):∃k its cl lv,p=.mk k its [] [] cl lv 0 0/\de p l=.mk k (l.map (cz its bC)) [] [] cl lv 0 0/\1<=k/\k<=3/\((cl=[]/\lv=[])\/lv≠[]/\cl=[i9]/\k=2)/\
 d9 2 (.mk k (l.map (cz its bC)) [] [] cl lv 0 0)=true/\∀x∈its,dk k lv.length x=true:=by
 obtain⟨k,its,cl,lv,rfl,h1,h3,h4,f,h5⟩:=EP h hv
 have h6:(cl=[]/\lv=[])\/lv≠[]/\cl=[i9]/\k=2:=by
  refine h5.imp id λhF=>?_
  change (d7 _&&AF cl lv)=true at hF;unfold AF at hF;simp only[Bool.and_eq_true,Bool.not_eq_true',decide_eq_true_eq,decide_eq_false_iff_not]at hF;obtain⟨-,q1,q2,q3⟩:=hF;refine⟨λe=>q1 (by rw[e];rfl),?_,?_⟩
  ·match cl,q2,q3 with
   |[a],_,q3=>exact congrArg (λx=>[x]) q3
   |[],q2,_=>simp at q2
   |_::_::_,q2,_=>simp at q2;omega
  ·apply Classical.byContradiction;intro hk;exact q1 (by rw[f.l0 hk];rfl)
 refine⟨k,its,cl,lv,rfl,?_,h1,h3,h6,?_,f.it⟩
 ·have ht:K7 []=[]:=by unfold K7;split<;>rfl
  simp only[de,if_neg (show¬k=4 by omega),if_true,ht];rcases h6 with⟨rfl,rfl⟩|⟨h,-,-⟩
  ·rfl
  ·rw[if_neg h,if_neg h]
 ·refine BI (by omega) (by simpa using hl) (.inl rfl) tZ f.lc f.lb f.l0 (λ_=>rfl) (λe=>by omega) (λx hx=>?_) (zX rfl);obtain⟨z,-,rfl⟩:=List.mem_map.1 hx;rcases Qu (l:=its) (d:=bC) (p:=z)with h|h
  ·exact f.it _ h
  ·rw[h];unfold dk DZ;simp[bC]
theorem EK{k:Int}{its:List It}{cl lv:List ByteArray}(hv:d9 2 (.mk k its [] [] cl lv 0 0)=true):cR (.mk k its [] [] cl lv 0 0)=AF cl lv:=by
 unfold cR;rw[zN hv];rfl
theorem zQ{lv:List ByteArray}(h:lv≠[]):AF [i9] lv=true:=by
 have:lv.length≠0:=λe=>h (List.eq_nil_of_length_eq_zero e)
 unfold AF;simp[h]
theorem H6{k:Int}{its:List It}{cl lv:List ByteArray}(hk:1<=k/\k<=3)(hv:d9 2 (.mk k its [] [] cl lv 0 0)=true)(h:(cl=[]/\lv=[])\/lv≠[]/\cl=[i9]):l8 (.mk k its [] [] cl lv 0 0) its.length=true:=by
 change Cj k its.length its.length [] cl lv (cR _)=true;rw[EK hv];unfold Cj;rcases h with⟨rfl,rfl⟩|⟨h1,rfl⟩
 ·simp[hk]
 ·rw[zQ h1];simp[hk]
theorem FY{k:Int}{its:List It}{ps:List aX}{ns cl lv:List ByteArray}{c e:Int}(h:KF k its ps ns cl lv c e){l:List Int}(hl:l.length<=40):J1 (ps.map λp=>de p l) l.length:=by
 refine⟨by have:=h.l40;simp;omega,λp hp=>?_⟩;obtain⟨q,hq,rfl⟩:=List.mem_map.1 hp;obtain⟨k,its,cl,lv,-,h2,h3,h4,h5,h6,-⟩:=ql (h.col q hq) (h.kd2 q hq) hl;rw[h2];have:=H6 ⟨h3,h4⟩ h6 (h5.imp id λh=>⟨h.1,h.2.1⟩);rw[List.length_map]at this;exact⟨this,h6,I6 h6⟩
theorem S0{k:Int}{its:List It}{ps:List aX}{ns cl lv:List ByteArray}{c e:Int}(h:KF k its ps ns cl lv c e)(l:List Int)(hl:l.length<=40)(hr:∀p∈l,0<=p/\p<=1000000):
 aB Tryz.prog 23 [(true,ap (.mk k its ps ns cl lv c e)),(false,[aZ l])] [(true,ap (OM (ps.map λp=>de p l) ns).1,true),(false,[.sc (.string (OM (ps.map λp=>de p l) ns).2)],true)]:=by
 have hpl:=h.l40;have hnn:=h.nn;have g1:=RR (FY h hl) ns (by omega);generalize OM (ps.map λp=>de p l) ns=r at g1 ⊢;simp only[ap,al,aq,aZ]at g1 ⊢;refine ah Tryz.func23 xA rfl ?_;simp only[lW]
 repeat' (first|(with_reducible first|refine ae ?_|refine ac ‹_› rfl ?_|refine ab ‹_› rfl ?_|refine ak (λhbr=>?_) λhbr=>?_)|simp(disch:=first|omega|(simp only[ax];omega)|simp only[av,Nat.reduceAdd]) only[go_sem,true_and])
 refine lp (λi:Nat=>[.sc (.int .i64 i),.sl 35 8 (((ps.take i).map λp=>de p l).map ap)]) (λi=>i<=ps.length) (λi=>ps.length-i) 0 rfl (by omega) ?_;intro i hi;simp only[kH];by_cases hlt:i<ps.length
 ·have hm:=aK hlt;have hix:cc 8 (some (.sl 35 8 (ps.map ap))) (some (.sc (.int .i64 (i:Int))))=some (ap (ps.getD i default)):=by rw[eL (by omega) (by omega),Int.toNat_natCast]
  obtain⟨k0,its0,cl0,lv0,hp,-,hk1,hk3,-⟩:=ql (h.col _ hm) (h.kd2 _ hm) hl;have hw:=h.wk _ hm;have hv3:=gZ 2 _ (h.kd2 _ hm);have hap:=dT (t:=35) (ti:=78) (l:=(ps.take i).map λp=>de p l) (v:=de (ps.getD i default) l) (by simp;omega);rw[show((ps.take i).map λp=>de p l)++[de (ps.getD i default) l]=(ps.take (i+1)).map λp=>de p l by rw[bh hlt,List.map_append];rfl]at hap;generalize ps.getD i default=x at hix hap hp hw hv3;subst hp;have hpk:=Sq hv3 (Nat.le_trans hw (by decide)) ⟨hk1,by omega⟩ l (by omega) hr;generalize de (.mk k0 its0 [] [] cl0 lv0 0 0) l=y at hap hpk;obtain⟨y0,y1,y2,y3,y4,y5,y6,y7⟩:=y;simp only[ap,al,aq,aZ,List.map_nil]at hix hap hpk
  repeat' (first|(with_reducible first|refine ae ?_|refine ac ‹_› rfl ?_|refine ab ‹_› rfl ?_|refine ak (λhbr=>?_) λhbr=>?_)|simp(disch:=first|omega|(simp only[ax];omega)|simp only[av,Nat.reduceAdd]) only[go_sem,hix,hap])
  all_goals first|omega|exact⟨i+1,rfl,by omega,by omega⟩|skip
 ·obtain rfl:i=ps.length:=by omega
  rw[List.take_length];obtain⟨⟨x0,x1,x2,x3,x4,x5,x6,x7⟩,q⟩:=r;simp only[ap,al,aq]at g1 ⊢
  repeat' (first|(with_reducible first|refine ae ?_|refine ac ‹_› rfl ?_|refine ab ‹_› rfl ?_|refine ak (λhbr=>?_) λhbr=>?_)|simp(disch:=first|omega|(simp only[ax];omega)|simp only[av,Nat.reduceAdd]) only[go_sem,true_and])
  all_goals first|omega|rfl
def Yf:ByteArray:=⟨#[110,111,32,108,101,118,101,108,115]⟩
def Yo:ByteArray:=⟨#[105,110,118,97,108,105,100,32,108,101,118,101,108,115]⟩
structure I3(k:Int)(its:List It)(cl lv:List ByteArray):Prop where
 vc:d9 2 (.mk k its [] [] cl lv 0 0)=true
 k1:1<=k
 k3:k<=3
section
variable {k:Int}{its:List It}{cl lv:List ByteArray}
theorem I3.vf(h:I3 k its cl lv):VF k its [] [] cl lv 0 0:=Go.Proofs.YtliknccmjjncbaaGreat.vf (gZ 2 _ h.vc)
theorem I3.wt(h:I3 k its cl lv):ck (.mk k its [] [] cl lv 0 0)<=1000000000:=Nat.le_trans (I6 h.vc) (by decide)
theorem Jo(h:I3 k its cl lv):aB Tryz.prog 81 [(true,ap (.mk k its [] [] cl lv 0 0))] [(false,[.sc (.string eh)],true)]:=by
 have g:=wh _ h.wt;rw[zN h.vc]at g;have h3:=h.k3;simp only[ap,al,aq,List.map_nil]at g ⊢;refine ah Tryz.func81 mX rfl ?_;simp only[eS]
 repeat' (first|(with_reducible first|refine ae ?_|refine ac ‹_› rfl ?_|refine ab ‹_› rfl ?_|refine ak (λhbr=>?_) λhbr=>?_)|simp(disch:=first|omega|(simp only[ax];omega)|simp only[av,Nat.reduceAdd]) only[go_sem,true_and])
 all_goals first|omega|rfl
theorem RP(h:I3 k its cl lv):aB Tryz.prog 64 [(true,ap (.mk k its [] [] cl lv 0 0))] [(false,[.sc (.string eh)],true)]:=by
 have g:=lQ _ h.wt;rw[zN h.vc]at g;have h3:=h.k3;simp only[ap,al,aq,List.map_nil]at g ⊢;refine ah Tryz.func64 tW rfl ?_;simp only[kU]
 repeat' (first|(with_reducible first|refine ae ?_|refine ac ‹_› rfl ?_|refine ab ‹_› rfl ?_|refine ak (λhbr=>?_) λhbr=>?_)|simp(disch:=first|omega|(simp only[ax];omega)|simp only[av,Nat.reduceAdd]) only[go_sem,true_and])
 all_goals first|omega|rfl
end
theorem Lh{t b:Nat}:sN t 1 b (some (.sl t 1 [])) (some (.sl t 1 []))=some [.sl t 1 []]:=by simp[sN]
def qK(its:List It)(L:List ByteArray):aX:=.mk 2 its [] [] [i9] L 0 0
def Uh(its:List It)(L:List ByteArray):aX×ByteArray:=if d7 (qK its L)=true then(qK its L,eh)else(fV 0 [],Yo)
def H4(its:List It)(L:List ByteArray):aX×ByteArray:=if L.length=0 then(fV 0 [],Yf)else Uh its L
theorem U5(its:List It)(L:List ByteArray)(hw:ck (qK its L)<=1000000000):
 ic Tryz.prog 111 [(false,[.sl 78 3 (its.map ao)],true),(false,[.sl 9 1 []],false),(false,[aq L],false)] [(true,ap (Uh its L).1,true),(false,[.sc (.string (Uh its L).2)],true)]:=by
 have h1:=wh (qK its L) hw;obtain⟨b1,b2,b3,b4,b5,b6⟩:=BO hw;have h2:=mN L (by omega);have h3:=mN [] (by simp);unfold Uh;cases hv:d7 (qK its L)
 all_goals
  rw[hv]at h1;simp only[Bool.false_eq_true,if_false,if_true,ap,al,aq,qK,fV,List.map_nil,List.map_cons,bG,i9]at h1 h2 h3 ⊢;refine et Tryz.func111 vr rfl (by simp) ?_;simp only[kB]
  repeat' (first|(with_reducible first|refine ae ?_|refine ac ‹_› rfl ?_|refine ab ‹_› rfl ?_|refine ak (λhbr=>?_) λhbr=>?_)|simp(disch:=first|omega|(simp only[ax];omega)|simp only[av,Nat.reduceAdd]) only[go_sem,true_and])
 all_goals rfl
theorem M4(L:List ByteArray)(y:It):(nj L y).text.size<=60:=by
 unfold nj;split
 ·decide
 ·show ByteArray.empty.size<=60;decide
theorem A3{k:Int}{lv:List ByteArray}{its:List It}:(iZ k lv its).length=its.length:=by unfold iZ GF;split<;>simp
theorem M5{k:Int}{lv:List ByteArray}{its:List It}(hi:its.length<=200){L:List ByteArray}(hs:∀x∈L,x.size<=60)(hL:L.length<=200):ck (qK ((iZ k lv its).map (nj L)) L)<=1000000000:=
 RI (λx hx=>by obtain⟨y,-,rfl⟩:=List.mem_map.1 hx;exact M4 L y) (by rw[List.length_map,A3];exact hi) (by simp) (by simp) (by simp) (by simp) (by intro x hx;simp at hx;subst hx;decide) (by simp) hs hL
section
variable {k:Int}{its:List It}{cl lv:List ByteArray}
theorem OC(h:I3 k its cl lv)(L:List ByteArray)(hs:∀x∈L,x.size<=60)(hL:L.length<=200):
 aB Tryz.prog 80 [(true,ap (.mk k its [] [] cl lv 0 0)),(false,[aq L])] [(true,ap (H4 ((iZ k lv its).map (nj L)) L).1,true),(false,[.sc (.string (H4 ((iZ k lv its).map (nj L)) L).2)],true)]:=by
 have g1:=Jo h;have g2:=WB h.vf h.wt h.k3 L (by omega);have g3:=U5 _ L (M5 (k:=k) (lv:=lv) (its:=its) (by have:=h.vf.il;omega) hs hL);unfold H4;generalize (iZ k lv its).map (nj L)=I at g2 g3 ⊢;by_cases h0:L.length=0
 ·rw[if_pos h0];simp only[ap,al,aq,fV,List.map_nil,eh]at g1 ⊢;refine ah Tryz.func80 eH rfl ?_;simp only[cL]
  repeat' (first|(with_reducible first|refine ae ?_|refine ac ‹_› rfl ?_|refine ab ‹_› rfl ?_|refine ak (λhbr=>?_) λhbr=>?_)|simp(disch:=first|omega|(simp only[ax];omega)|simp only[av,Nat.reduceAdd]) only[go_sem,true_and])
  all_goals first|omega|rfl|skip
 ·rw[if_neg h0];generalize Uh I L=r at g3 ⊢;obtain⟨⟨x0,x1,x2,x3,x4,x5,x6,x7⟩,q⟩:=r;simp only[ap,al,aq,cN,List.map_nil,eh]at g1 g2 g3 ⊢;refine ah Tryz.func80 eH rfl ?_;simp only[cL]
  repeat' (first|(with_reducible first|refine ae ?_|refine ac ‹_› rfl ?_|refine ab ‹_› rfl ?_|refine ak (λhbr=>?_) λhbr=>?_)|simp(disch:=first|omega|(simp only[ax];omega)|simp only[av,Nat.reduceAdd]) only[go_sem,true_and])
  all_goals first|omega|skip
  refine nv (f:=111) (bits:=1) (by decide) g3 rfl ?_
  repeat' (first|(with_reducible first|refine ae ?_|refine ac ‹_› rfl ?_|refine ab ‹_› rfl ?_|refine ak (λhbr=>?_) λhbr=>?_)|simp(disch:=first|omega|(simp only[ax];omega)|simp only[av,Nat.reduceAdd]) only[go_sem,true_and])
  all_goals first|omega|rfl
theorem Nw(h:I3 k its cl lv)(L:List ByteArray)(hs:∀x∈L,x.size<=60)(hL:L.length<=200):
 aB Tryz.prog 63 [(true,ap (.mk k its [] [] cl lv 0 0)),(false,[aq L])] [(true,ap (H4 ((iZ k lv its).map (nj L)) L).1,true),(false,[.sc (.string (H4 ((iZ k lv its).map (nj L)) L).2)],true)]:=by
 have g2:=XC h.vf h.wt h.k3 L (by omega);have g3:=lQ _ (M5 (k:=k) (lv:=lv) (its:=its) (by have:=h.vf.il;omega) hs hL);unfold H4 Uh;generalize (iZ k lv its).map (nj L)=I at g2 g3 ⊢;by_cases h0:L.length=0
 ·rw[if_pos h0];simp only[ap,al,aq,cN,fV,List.map_nil]at g2 ⊢;refine ah Tryz.func63 nT rfl ?_;simp only[ib]
  repeat' (first|(with_reducible first|refine ae ?_|refine ac ‹_› rfl ?_|refine ab ‹_› rfl ?_|refine ak (λhbr=>?_) λhbr=>?_)|simp(disch:=first|omega|(simp only[ax];omega)|simp only[av,Nat.reduceAdd]) only[go_sem,Lh])
  all_goals first|omega|rfl|skip
 ·rw[if_neg h0];cases hv:d7 (qK I L)
  all_goals
   rw[hv]at g3;simp only[Bool.false_eq_true,if_false,if_true,ap,al,aq,cN,fV,qK,List.map_nil,List.map_cons,bG,i9]at g2 g3 ⊢;refine ah Tryz.func63 nT rfl ?_;simp only[ib]
   repeat' (first|(with_reducible first|refine ae ?_|refine ac ‹_› rfl ?_|refine ab ‹_› rfl ?_|refine ak (λhbr=>?_) λhbr=>?_)|simp(disch:=first|omega|(simp only[ax];omega)|simp only[av,Nat.reduceAdd]) only[go_sem,Lh])
  all_goals first|omega|rfl|skip
end
def sA(its:List It)(j:Nat):Nat:=(its.filter λx=>!decide (x=bC)&&decide (x.num=(j:Int)+1)).length
def Fc(its:List It)(m:Nat):List Int:=(List.range m).map λj=>((sA its j:Nat):Int)
def CB(its:List It)(lv:List ByteArray):Nat->List ByteArray
 |0=>[]
 |j+1=>CB its lv j++(if 0<sA its j then[lv.getD j default]else[])
theorem zY(its:List It)(lv:List ByteArray):∀n,(CB its lv n).length<=n
 |0=>Nat.le_refl _
 |n+1=>by rw[CB,List.length_append];have:=zY its lv n;split<;>simp<;>omega
theorem Jb(its:List It)(lv:List ByteArray):∀n,n<=lv.length->∀x∈CB its lv n,x∈lv
 |0,_,x,h=>by cases h
 |n+1,hn,x,h=>by
  rw[CB]at h;rcases List.mem_append.1 h with h|h
  ·exact Jb its lv n (by omega) x h
  ·split at h
   ·rw[List.mem_singleton.1 h];exact aK (by omega)
   ·cases h
theorem I7(its:List It)(m:Nat):(Fc its m).length=m:=by simp[Fc]
theorem Jq{its:List It}{m j:Nat}(h:j<m):(Fc its m).getD j default=((sA its j:Nat):Int):=by simp[Fc,h]
theorem LJ{its:List It}{m i:Nat}(hi:i<its.length)(h0:its.getD i default=bC):Fc (its.take (i+1)) m=Fc (its.take i) m:=by
 unfold Fc sA;rw[bh hi,h0];simp
theorem NZ{its:List It}{m i:Nat}(hi:i<its.length)(h0:¬its.getD i default=bC)(h1:1<=(its.getD i default).num)(h2:(its.getD i default).num<=m):
 Fc (its.take (i+1)) m=(Fc (its.take i) m).set ((its.getD i default).num-1).toNat (((sA (its.take i) ((its.getD i default).num-1).toNat:Nat):Int)+1):=by
 rw[bh hi];generalize its.getD i default=x at h0 h1 h2;refine List.ext_getElem (by simp[Fc]) λj hj hj2=>?_
 simp only[Fc,List.length_map,List.length_range]at hj;rw[List.getElem_set];simp only[Fc,List.getElem_map,List.getElem_range];unfold sA;rw[List.filter_append];by_cases e:(x.num-1).toNat=j
 ·rw[if_pos e,List.filter_cons_of_pos (by simp[h0];omega)];subst e;simp
 ·rw[if_neg e,List.filter_cons_of_neg (by simp[h0];omega)];simp
end Go.Proofs.YtliknccmjjncbaaGreat
namespace Go.Proofs.YtliknccmjjncbaaGreat
open Go.RowKit
set_option maxRecDepth 100000
theorem MP{k:Int}{m:Nat}{x:It}(h:dk k m x=true)(hk:k=2)(hm:m≠0):x=bC\/x=zR x.num/\1<=x.num/\x.num<=m:=by
 unfold dk DZ cq at h;simp only[Bool.and_eq_true,Bool.or_eq_true,decide_eq_true_eq]at h;obtain⟨h1,h2⟩:=h;rcases h1 with h1|h1
 ·exact .inl h1
 ·right;rw[if_neg (by omega),if_pos hk]at h1;simp only[Bool.and_eq_true,decide_eq_true_eq]at h1;rcases h2 with h2|h2|h2
  ·omega
  ·omega
  ·obtain⟨a,b,c⟩:=x;simp only at h1 h2 ⊢;refine⟨?_,h2.2⟩;have:c=ByteArray.empty:=by simp_all
   rw[this,h2.1];rfl
theorem QA{its:List It}{m j:Nat}(hf:∀x∈its,x=bC\/x=zR x.num/\1<=x.num/\x.num<=m):0<sA its j↔zR ((j:Int)+1)∈its:=by
 unfold sA;rw[List.length_pos_iff_exists_mem];constructor
 ·rintro⟨x,hx⟩;obtain⟨h1,h2⟩:=List.mem_filter.1 hx;simp only[Bool.and_eq_true,Bool.not_eq_true',decide_eq_true_eq,decide_eq_false_iff_not]at h2;rcases hf x h1 with h|h
  ·exact absurd h h2.1
  ·rw[<-h2.2,<-h.1];exact h1
 ·intro h;refine⟨_,List.mem_filter.2 ⟨h,?_⟩⟩;have:¬zR ((j:Int)+1)=bC:=λe=>absurd (congrArg It.den e) (show¬(1:Int)=0 by decide)
  rw[decide_eq_false this];simp[zR]
theorem QZ(its:List It)(j:Nat):sA its j<=its.length:=List.length_filter_le ..
set_option maxHeartbeats 1000000 in
theorem TZ{its:List It}{cl lv:List ByteArray}(h:I3 2 its cl lv)(hlv:lv≠[]):aB Tryz.prog 79 [(true,ap (.mk 2 its [] [] cl lv 0 0))] [(false,[aZ (Fc its lv.length)],true)]:=by
 have f:=h.vf;have hil:=f.il;have hlb:=fc f.lb;have hit:∀x∈its,x=bC\/x=zR x.num/\1<=x.num/\x.num<=lv.length:=λx hx=>MP (f.it x hx) rfl (λe=>hlv (List.eq_nil_of_length_eq_zero e))
 simp only[ap,al,aq,aZ,List.map_nil];refine ah Tryz.func79 zd rfl ?_;simp only[nM]
 repeat' (first|(with_reducible first|refine ae ?_|refine ac ‹_› rfl ?_|refine ab ‹_› rfl ?_|refine ak (λhbr=>?_) λhbr=>?_)|simp(disch:=first|omega|(simp only[ax];omega)|simp only[av,Nat.reduceAdd]) only[go_sem,true_and])
 all_goals first|omega|skip
 refine lp (λi:Nat=>[.sc (.int .i64 i),.sl 3 1 ((Fc (its.take i) lv.length).map ea)]) (λi=>i<=its.length) (λi=>its.length-i) 0 ?_ (by omega) ?_
 ·have:(Fc (its.take 0) lv.length).map ea=List.replicate lv.length [.sc (.int .i64 0)]:=by
   rw[List.take_zero];unfold Fc sA;rw[List.map_map];exact List.eq_replicate_iff.2 ⟨by simp,λb hb=>by obtain⟨j,-,rfl⟩:=List.mem_map.1 hb;rfl⟩
  rw[this];simp[gL]
 intro i hi;simp only[mh];by_cases hlt:i<its.length
 ·have hix:=cD (t:=78) (l:=its) (kd:=.i64) (z:=(i:Int)) (by omega) (by omega);rw[Int.toNat_natCast]at hix;have hms:=fX (its.getD i default);have hln:=I7 (its.take i) lv.length;by_cases h0:its.getD i default=bC
  ·have hs:=LJ (m:=lv.length) hlt h0;rw[decide_eq_true h0]at hms;clear h0;generalize its.getD i default=x at hix hms;simp only[ao]at hix hms
   repeat' (first|(with_reducible first|refine ae ?_|refine ac ‹_› rfl ?_|refine ab ‹_› rfl ?_|refine ak (λhbr=>?_) λhbr=>?_)|simp(disch:=first|omega|(simp only[ax];omega)|simp only[av,Nat.reduceAdd]) only[go_sem,hix,fQ])
   all_goals first|omega|exact⟨i+1,by simp[hs],by omega,by omega⟩|skip
  ·obtain⟨-,q1,q2⟩:=(hit _ (aK hlt)).resolve_left h0;have hs:=NZ (m:=lv.length) hlt h0 q1 q2;have hg:=Jq (its:=its.take i) (m:=lv.length) (j:=((its.getD i default).num-1).toNat) (by omega);rw[decide_eq_false h0]at hms;clear h0;generalize its.getD i default=x at hix hms hs hg q1 q2;have hz:=Cm (t:=3) (l:=Fc (its.take i) lv.length) (kd:=.i64) (z:=x.num-1) (by omega) (by omega);rw[hg]at hz;have hcb:=QZ (its.take i) (x.num-1).toNat;rw[List.length_take]at hcb;generalize sA (its.take i) (x.num-1).toNat=C at hs hz hcb;simp only[ao]at hix hms
   repeat' (first|(with_reducible first|refine ae ?_|refine ac ‹_› rfl ?_|refine ab ‹_› rfl ?_|refine ak (λhbr=>?_) λhbr=>?_)|simp(disch:=first|omega|(simp only[ax];omega)|simp only[av,Nat.reduceAdd]) only[go_sem,hix,hz,fQ])
   all_goals first|omega|exact⟨i+1,by simp[hs],by omega,by omega⟩|skip
 ·obtain rfl:i=its.length:=by omega
  rw[List.take_length]
  repeat' (first|(with_reducible first|refine ae ?_|refine ac ‹_› rfl ?_|refine ab ‹_› rfl ?_|refine ak (λhbr=>?_) λhbr=>?_)|simp(disch:=first|omega|(simp only[ax];omega)|simp only[av,Nat.reduceAdd]) only[go_sem,true_and])
  all_goals first|omega|rfl
def Ci(its:List It)(lv:List ByteArray):aX×ByteArray:=H4 ((iZ 2 lv its).map (nj (CB its lv lv.length))) (CB its lv lv.length)
theorem Jr{its:List It}{cl lv:List ByteArray}(h:I3 2 its cl lv):(∀x∈CB its lv lv.length,x.size<=60)/\(CB its lv lv.length).length<=200:=by
 have hlb:=fc h.vf.lb;have:=zY its lv lv.length;exact⟨λx hx=>j0 h.vf.lb (Jb its lv _ (Nat.le_refl _) x hx),by omega⟩
set_option maxHeartbeats 1000000 in
theorem SH{its:List It}{lv:List ByteArray}(h:I3 2 its [i9] lv)(hlv:lv≠[]):aB Tryz.prog 36 [(true,ap (.mk 2 its [] [] [i9] lv 0 0))] [(true,ap (Ci its lv).1,true),(false,[.sc (.string (Ci its lv).2)],true)]:=by
 have g1:=EQ _ h.wt;rw[EK h.vc,zQ hlv]at g1;have g2:=TZ h hlv;have g3:=OC h (CB its lv lv.length) (Jr h).1 (Jr h).2;have hlb:=fc h.vf.lb;unfold Ci;generalize H4 ((iZ 2 lv its).map (nj (CB its lv lv.length))) (CB its lv lv.length)=r at g3 ⊢;simp only[ap,al,aq,aZ,List.map_nil,List.map_cons,bG,i9]at g1 g2 g3 ⊢;refine ah Tryz.func36 rf rfl ?_;simp only[iS];have hln:=I7 its lv.length
 repeat' (first|(with_reducible first|refine ae ?_|refine ac ‹_› rfl ?_|refine ab ‹_› rfl ?_|refine ak (λhbr=>?_) λhbr=>?_)|simp(disch:=first|omega|(simp only[ax];omega)|simp only[av,Nat.reduceAdd]) only[go_sem,true_and])
 all_goals first|omega|skip
 refine lp (λi:Nat=>[.sc (.int .i64 i),.sl 9 1 ((CB its lv i).map bG)]) (λi=>i<=lv.length) (λi=>lv.length-i) 0 rfl (by omega) ?_;intro i hi;simp only[gJ];have hul:=zY its lv i;by_cases hlt:i<lv.length
 ·have hs:CB its lv (i+1)=CB its lv i++(if 0<sA its i then[lv.getD i default]else[]):=rfl;have hg:=Jq (its:=its) (m:=lv.length) (j:=i) hlt;have hz:=Cm (t:=3) (l:=Fc its lv.length) (kd:=.i64) (z:=(i:Int)) (by omega) (by omega);rw[Int.toNat_natCast,hg]at hz;by_cases h0:0<sA its i
  ·rw[if_pos h0]at hs
   repeat' (first|(with_reducible first|refine ae ?_|refine ac ‹_› rfl ?_|refine ab ‹_› rfl ?_|refine ak (λhbr=>?_) λhbr=>?_)|simp(disch:=first|omega|(simp only[ax];omega)|simp only[av,Nat.reduceAdd]) only[go_sem,hz,dM])
   all_goals first|omega|exact⟨i+1,by simp[hs,bG],by omega,by omega⟩|skip
  ·rw[if_neg h0,List.append_nil]at hs
   repeat' (first|(with_reducible first|refine ae ?_|refine ac ‹_› rfl ?_|refine ab ‹_› rfl ?_|refine ak (λhbr=>?_) λhbr=>?_)|simp(disch:=first|omega|(simp only[ax];omega)|simp only[av,Nat.reduceAdd]) only[go_sem,hz,dM])
   all_goals first|omega|exact⟨i+1,by simp[hs],by omega,by omega⟩|skip
 ·obtain rfl:i=lv.length:=by omega
  obtain⟨⟨x0,x1,x2,x3,x4,x5,x6,x7⟩,q⟩:=r;simp only[ap,al,aq]at g3 ⊢
  repeat' (first|(with_reducible first|refine ae ?_|refine ac ‹_› rfl ?_|refine ab ‹_› rfl ?_|refine ak (λhbr=>?_) λhbr=>?_)|simp(disch:=first|omega|(simp only[ax];omega)|simp only[av,Nat.reduceAdd]) only[go_sem,true_and])
  all_goals first|omega|rfl
def Lo(its:List It)(y:It):Int:=match its.findIdx? λx=>decide (x=y)with|some i=>i|none=>-1
theorem Lt{its:List It}{y:It}:0<=Lo its y↔y∈its:=by
 unfold Lo;split
 ·rename_i i hi;obtain⟨h1,h2,-⟩:=List.findIdx?_eq_some_iff_getElem.1 hi;have h2:its[i]=y:=by simpa using h2
  exact⟨λ_=>h2▸List.getElem_mem h1,λ_=>Int.natCast_nonneg _⟩
 ·rename_i hn;rw[List.findIdx?_eq_none_iff]at hn;constructor
  ·intro h;omega
  ·intro h;have:=hn y h;simp at this
theorem IG{its:List It}{y:It}{i:Nat}(hi:i<its.length)(h:its.getD i default=y)(hall:∀j,j<i->¬its.getD j default=y):Lo its y=i:=by
 unfold Lo
 have:its.findIdx? (λx=>decide (x=y))=some i:=by
  rw[List.findIdx?_eq_some_iff_getElem];refine⟨hi,?_,λj hj=>?_⟩
  ·rw[List.getD_eq_getElem?_getD,List.getElem?_eq_getElem hi]at h;simpa using h
  ·have:=hall j hj;rw[List.getD_eq_getElem?_getD,List.getElem?_eq_getElem (by omega)]at this;simpa using this
 rw[this]
theorem FI{its:List It}{y:It}(hall:∀j,j<its.length->¬its.getD j default=y):Lo its y= -1:=by
 unfold Lo
 have:its.findIdx? (λx=>decide (x=y))=none:=by
  rw[List.findIdx?_eq_none_iff];intro x hx;obtain⟨j,hj,rfl⟩:=List.mem_iff_getElem.1 hx;have:=hall j hj;rw[List.getD_eq_getElem?_getD,List.getElem?_eq_getElem hj]at this;simpa using this
 rw[this]
theorem IF(x y:It):KA false [.i,.i,.s] (some [.sc (.int .i64 x.num),.sc (.int .i64 x.den),.sc (.string x.text)]) (some [.sc (.int .i64 y.num),.sc (.int .i64 y.den),.sc (.string y.text)])=some [.sc (.bool (decide (x=y)))]:=by
 have:=L5 x y;simp only[ao]at this;simp[KA,this]
theorem SW(its:List It)(y:It)(hl:its.length<=1000000000):aB Tryz.prog 61 [(false,[.sl 78 3 (its.map ao)]),(true,ao y)] [(false,[.sc (.int .i64 (Lo its y))],true)]:=by
 simp only[ao];refine ah Tryz.func61 xQ rfl ?_;simp only[mw];simp(disch:=first|omega|(simp only[ax];omega)|simp only[av,Nat.reduceAdd]) only[go_sem,true_and];refine lp (λi:Nat=>[.sc (.int .i64 i)]) (λi=>i<=its.length/\∀j,j<i->¬its.getD j default=y) (λi=>its.length-i) 0 rfl ⟨by omega,λj hj=>by omega⟩ ?_;rintro i ⟨hi,hall⟩;simp only[kt];by_cases hlt:i<its.length
 ·have hix:=cD (t:=78) (l:=its) (kd:=.i64) (z:=(i:Int)) (by omega) (by omega);rw[Int.toNat_natCast]at hix;have hhit:=λh=>IG hlt h hall
  have hst:¬its.getD i default=y->∀j,j<i+1->¬its.getD j default=y:=λh=>D6 hall h
  have heq:=IF (its.getD i default) y;by_cases h0:its.getD i default=y
  ·rw[decide_eq_true h0]at heq;rw[hhit h0];generalize its.getD i default=x at hix heq;simp only[ao]at hix
   repeat' (first|(with_reducible first|refine ae ?_|refine ac ‹_› rfl ?_|refine ab ‹_› rfl ?_|refine ak (λhbr=>?_) λhbr=>?_)|simp(disch:=first|omega|(simp only[ax];omega)|simp only[av,Nat.reduceAdd]) only[go_sem,hix,heq])
   all_goals first|omega|rfl|skip
  ·rw[decide_eq_false h0]at heq;have hst:=hst h0;generalize its.getD i default=x at hix heq;simp only[ao]at hix
   repeat' (first|(with_reducible first|refine ae ?_|refine ac ‹_› rfl ?_|refine ab ‹_› rfl ?_|refine ak (λhbr=>?_) λhbr=>?_)|simp(disch:=first|omega|(simp only[ax];omega)|simp only[av,Nat.reduceAdd]) only[go_sem,hix,heq])
   all_goals first|omega|exact⟨i+1,rfl,⟨by omega,hst⟩,by omega⟩|skip
 ·obtain rfl:i=its.length:=by omega
  rw[FI hall]
  repeat' (first|(with_reducible first|refine ae ?_|refine ac ‹_› rfl ?_|refine ab ‹_› rfl ?_|refine ak (λhbr=>?_) λhbr=>?_)|simp(disch:=first|omega|(simp only[ax];omega)|simp only[av,Nat.reduceAdd]) only[go_sem,true_and])
  all_goals first|omega|rfl
set_option maxHeartbeats 1000000 in
theorem UC{its:List It}{lv:List ByteArray}(h:I3 2 its [i9] lv)(hlv:lv≠[]):aB Tryz.prog 24 [(true,ap (.mk 2 its [] [] [i9] lv 0 0))] [(true,ap (Ci its lv).1,true),(false,[.sc (.string (Ci its lv).2)],true)]:=by
 have g1:=DR _ h.wt;rw[EK h.vc,zQ hlv]at g1;have f:=h.vf;have hil:=f.il;have g2:=λy=>SW its y (by omega)
 have g3:=Nw h (CB its lv lv.length) (Jr h).1 (Jr h).2;have g4:=NG;have hlb:=fc f.lb;have hit:∀x∈its,x=bC\/x=zR x.num/\1<=x.num/\x.num<=lv.length:=λx hx=>MP (f.it x hx) rfl (λe=>hlv (List.eq_nil_of_length_eq_zero e))
 unfold Ci;generalize H4 ((iZ 2 lv its).map (nj (CB its lv lv.length))) (CB its lv lv.length)=r at g3 ⊢;simp only[ap,al,aq,aZ,List.map_nil,List.map_cons,bG,i9]at g1 g3 ⊢;refine ah Tryz.func24 qG rfl ?_;simp only[iB]
 repeat' (first|(with_reducible first|refine ae ?_|refine ac ‹_› rfl ?_|refine ab ‹_› rfl ?_|refine ak (λhbr=>?_) λhbr=>?_)|simp(disch:=first|omega|(simp only[ax];omega)|simp only[av,Nat.reduceAdd]) only[go_sem,true_and])
 all_goals first|omega|skip
 refine lp (λi:Nat=>[.sc (.int .i64 i),.sl 9 1 ((CB its lv i).map bG)]) (λi=>i<=lv.length) (λi=>lv.length-i) 0 rfl (by omega) ?_;intro i hi;simp only[gg];have hul:=zY its lv i;by_cases hlt:i<lv.length
 ·have hs:CB its lv (i+1)=CB its lv i++(if 0<sA its i then[lv.getD i default]else[]):=rfl;have hg:=Lt (its:=its) (y:=zR ((i+1:Nat):Int));rw[show((i+1:Nat):Int)=(i:Int)+1 from rfl,<-QA (m:=lv.length) hit]at hg;have g2:=g2 (zR ((i+1:Nat):Int));have g4:=g4 ((i+1:Nat):Int);rw[show(i:Int)+1=((i+1:Nat):Int)from rfl]at hg;generalize Lo its (zR ((i+1:Nat):Int))=I at hg g2;simp only[ao,zR]at g2 g4;by_cases h0:0<sA its i
  ·have hg:=hg.2 h0;rw[if_pos h0]at hs
   repeat' (first|(with_reducible first|refine ae ?_|refine ac ‹_› rfl ?_|refine ab ‹_› rfl ?_|refine ak (λhbr=>?_) λhbr=>?_)|simp(disch:=first|omega|(simp only[ax];omega)|simp only[av,Nat.reduceAdd]) only[go_sem,dE])
   all_goals first|omega|exact⟨i+1,by simp[hs,bG],by omega,by omega⟩|skip
  ·have hg:¬0<=I:=λe=>h0 (hg.1 e)
   rw[if_neg h0,List.append_nil]at hs
   repeat' (first|(with_reducible first|refine ae ?_|refine ac ‹_› rfl ?_|refine ab ‹_› rfl ?_|refine ak (λhbr=>?_) λhbr=>?_)|simp(disch:=first|omega|(simp only[ax];omega)|simp only[av,Nat.reduceAdd]) only[go_sem,dE])
   all_goals first|omega|exact⟨i+1,by simp[hs],by omega,by omega⟩|skip
 ·obtain rfl:i=lv.length:=by omega
  obtain⟨⟨x0,x1,x2,x3,x4,x5,x6,x7⟩,q⟩:=r;simp only[ap,al,aq]at g3 ⊢
  repeat' (first|(with_reducible first|refine ae ?_|refine ac ‹_› rfl ?_|refine ab ‹_› rfl ?_|refine ak (λhbr=>?_) λhbr=>?_)|simp(disch:=first|omega|(simp only[ax];omega)|simp only[av,Nat.reduceAdd]) only[go_sem,true_and])
  all_goals first|omega|rfl
def Fh(a b:ByteArray):Int:=if Op.bytesLess a.toList b.toList=true then -1 else if a=b then 0 else 1
theorem S8(a b:ByteArray):aB Tryz.prog 134 [(false,[.sc (.string a)]),(false,[.sc (.string b)])] [(false,[.sc (.int .i64 (Fh a b))],true)]:=by
 refine ah Tryz.func134 n7 rfl ?_;simp only[fE];unfold Fh;cases h1:Op.bytesLess a.toList b.toList<;>by_cases h2:a=b
 all_goals
  repeat' (first|(with_reducible first|refine ae ?_|refine ac ‹_› rfl ?_|refine ab ‹_› rfl ?_|refine ak (λhbr=>?_) λhbr=>?_)|simp(disch:=first|omega|(simp only[ax];omega)|simp only[av,Nat.reduceAdd]) only[go_sem,h1,h2])
 all_goals first|omega|rfl|(exfalso;simp_all;done)
theorem Tz(x y:It):aB Tryz.prog 126 [(false,[.sc (.int .i64 3)]),(true,ao x),(true,ao y)] [(false,[.sc (.int .i64 (Fh x.text y.text))],true)]:=by
 have g:=S8 x.text y.text;simp only[ao];refine ah Tryz.func126 oh rfl ?_;simp only[fy]
 repeat' (first|(with_reducible first|refine ae ?_|refine ac ‹_› rfl ?_|refine ab ‹_› rfl ?_|refine ak (λhbr=>?_) λhbr=>?_)|simp(disch:=first|omega|(simp only[ax];omega)|simp only[av,Nat.reduceAdd]) only[go_sem,true_and])
 all_goals first|omega|rfl
def PG(x y:It):Bool:=if x=bC\/y=bC then !decide (x=bC)&&decide (y=bC)else Op.bytesLess x.text.toList y.text.toList
theorem Gj{a b:ByteArray}:decide (Fh a b<0)=Op.bytesLess a.toList b.toList:=by
 unfold Fh;cases Op.bytesLess a.toList b.toList<;>simp
 split<;>decide
theorem UL(x y:It):sx Tryz.prog 125 (yj 2 [(true,ao x),(true,ao y),(false,[.sc (.int .i64 3)]),(false,[.sc (.bool false)])]) [(false,[.sc (.bool (PG x y))],true)]:=by
 have g1:=fX x;have g2:=fX y;have g3:=Tz x y;have hc:=Gj (a:=x.text) (b:=y.text)
 have e:yj 2 [(true,ao x),(true,ao y),(false,[.sc (.int .i64 3)]),(false,[.sc (.bool false)])]=ox [(true,ao x),(true,ao y)]++sH ([.sc (.int .i64 3),.sc (.bool false)].map λd=>(false,[d])):=by
  simp[yj,ox,sH]
 rw[e];refine Hh Tryz.func125 nk rfl rfl ?_;simp only[eN];unfold PG;by_cases hx:x=bC
 ·rw[if_pos (.inl hx)];rw[decide_eq_true hx]at g1 ⊢;simp only[ao]at g1 g2 g3 ⊢
  repeat' (first|(with_reducible first|refine ae ?_|refine ac ‹_› rfl ?_|refine ab ‹_› rfl ?_|refine ak (λhbr=>?_) λhbr=>?_)|simp(disch:=first|omega|(simp only[ax];omega)|simp only[av,Nat.reduceAdd]) only[go_sem,true_and])
  all_goals first|omega|rfl|exact aO (by simp[*])
 ·rw[decide_eq_false hx]at g1 ⊢;by_cases hy:y=bC
  ·rw[if_pos (.inr hy)];rw[decide_eq_true hy]at g2 ⊢;simp only[ao]at g1 g2 g3 ⊢
   repeat' (first|(with_reducible first|refine ae ?_|refine ac ‹_› rfl ?_|refine ab ‹_› rfl ?_|refine ak (λhbr=>?_) λhbr=>?_)|simp(disch:=first|omega|(simp only[ax];omega)|simp only[av,Nat.reduceAdd]) only[go_sem,true_and])
   all_goals first|omega|rfl|exact aO (by simp[*])
  ·rw[if_neg (λh=>h.elim hx hy)];rw[decide_eq_false hy]at g2;simp only[ao]at g1 g2 g3 ⊢
   repeat' (first|(with_reducible first|refine ae ?_|refine ac ‹_› rfl ?_|refine ab ‹_› rfl ?_|refine ak (λhbr=>?_) λhbr=>?_)|simp(disch:=first|omega|(simp only[ax];omega)|simp only[av,Nat.reduceAdd]) only[go_sem,true_and])
   all_goals first|omega|exact aO (hc.symm)|skip
theorem Ui(x y:It)(hx:¬x.den=0)(hy:¬y.den=0):aB Tryz.prog 138 [(false,[.sc (.int .i64 3)]),(true,ao x),(true,ao y)] [(false,[.sc (.int .i64 (Fh x.text y.text))],true)]:=by
 simp only[ao];refine ah Tryz.func138 xS rfl ?_;simp only[lT];unfold Fh;cases h1:Op.bytesLess x.text.toList y.text.toList<;>by_cases h2:x.text=y.text
 all_goals
  repeat' (first|(with_reducible first|refine ae ?_|refine ac ‹_› rfl ?_|refine ab ‹_› rfl ?_|refine ak (λhbr=>?_) λhbr=>?_)|simp(disch:=first|omega|(simp only[ax];omega)|simp only[av,Nat.reduceAdd]) only[go_sem,h1,h2])
 all_goals first|omega|rfl|(exfalso;simp_all;done)
theorem Vy(x y:It)(hx:x=bC↔x.den=0)(hy:y=bC↔y.den=0):aB Tryz.prog 129 [(false,[.sc (.int .i64 3)]),(true,ao x),(true,ao y),(false,[.sc (.bool false)])] [(false,[.sc (.bool (PG x y))],true)]:=by
 have g:=λh1 h2=>Ui x y h1 h2
 have hc:=Gj (a:=x.text) (b:=y.text);unfold PG;by_cases h1:x=bC
 ·rw[if_pos (.inl h1),decide_eq_true h1];have h1':=hx.1 h1;clear h1;clear g;simp only[ao];refine ah Tryz.func129 fM rfl ?_;simp only[dP]
  repeat' (first|(with_reducible first|refine ae ?_|refine ac ‹_› rfl ?_|refine ab ‹_› rfl ?_|refine ak (λhbr=>?_) λhbr=>?_)|simp(disch:=first|omega|(simp only[ax];omega)|simp only[av,Nat.reduceAdd]) only[go_sem,true_and])
  all_goals first|omega|rfl
 ·rw[decide_eq_false h1];have hx0:¬x.den=0:=λe=>h1 (hx.2 e)
  by_cases h2:y=bC
  ·rw[if_pos (.inr h2),decide_eq_true h2];have h2':=hy.1 h2;clear h2 g hc;simp only[ao];refine ah Tryz.func129 fM rfl ?_;simp only[dP]
   repeat' (first|(with_reducible first|refine ae ?_|refine ac ‹_› rfl ?_|refine ab ‹_› rfl ?_|refine ak (λhbr=>?_) λhbr=>?_)|simp(disch:=first|omega|(simp only[ax];omega)|simp only[av,Nat.reduceAdd]) only[go_sem,true_and])
   all_goals first|omega|rfl|exact aO (by simp[*])
  ·rw[if_neg (λh=>h.elim h1 h2)];have hy0:¬y.den=0:=λe=>h2 (hy.2 e)
   have g:=g hx0 hy0;rw[<-hc];simp only[ao]at g ⊢;generalize Fh x.text y.text=C at g ⊢;refine ah Tryz.func129 fM rfl ?_;simp only[dP]
   repeat' (first|(with_reducible first|refine ae ?_|refine ac ‹_› rfl ?_|refine ab ‹_› rfl ?_|refine ak (λhbr=>?_) λhbr=>?_)|simp(disch:=first|omega|(simp only[ax];omega)|simp only[av,Nat.reduceAdd]) only[go_sem,true_and])
   all_goals first|omega|exact aO (by simp[*])|exact aO (by simp;omega)|skip
def aI(its:List It)(i j:Int):Bool:=PG (its.getD i.toNat default) (its.getD j.toNat default)
def o9(its:List It)(l:List Int)(y:Int):Nat->Nat
 |0=>0
 |j+1=>if aI its y (l.getD j default)=true then o9 its l y j else j+1
theorem zD(its:List It)(l:List Int)(y:Int):∀j,o9 its l y j<=j
 |0=>Nat.le_refl _
 |j+1=>by
  rw[o9];split
  ·have:=zD its l y j;omega
  ·exact Nat.le_refl _
theorem M2{its:List It}{l:List Int}{y:Int}{a:Nat}(h:aI its y (l.getD a default)=true):o9 its l y (a+1)=o9 its l y a:=by rw[o9,if_pos h]
theorem NY{its:List It}{l:List Int}{y:Int}{a:Nat}(h:aI its y (l.getD a default)=false):o9 its l y (a+1)=a+1:=by rw[o9,h];rfl
def Kq(its:List It)(l:List Int)(y:Int):List Int:=l.take (o9 its l y l.length)++y::l.drop (o9 its l y l.length)
def oL(its:List It):Nat->List Int
 |0=>[]
 |n+1=>Kq its (oL its n) n
theorem OT(its:List It)(l:List Int)(y:Int):(Kq its l y).length=l.length+1:=by
 have:=zD its l y l.length;simp[Kq];omega
theorem xd(its:List It):∀n,(oL its n).length=n
 |0=>rfl
 |n+1=>by rw[oL,OT,xd its n]
theorem Oo{its:List It}{l:List Int}{y z:Int}(h:z∈Kq its l y):z∈l\/z=y:=by
 unfold Kq at h;rcases List.mem_append.1 h with h|h
 ·exact .inl (List.mem_of_mem_take h)
 ·rcases List.mem_cons.1 h with h|h
  ·exact .inr h
  ·exact .inl (List.mem_of_mem_drop h)
theorem xX(its:List It):∀n,∀z∈oL its n,0<=z/\z<n
 |0,z,h=>by cases h
 |n+1,z,h=>by
  rw[oL]at h;rcases Oo h with h|h
  ·have:=xX its n z h;omega
  ·omega
theorem Il(l:List Int):(l.map ea).flatten.all im=true:=by
 rw[List.all_eq_true];intro d hd;obtain⟨x,hx,hd⟩:=List.mem_flatten.1 hd;obtain⟨z,_,rfl⟩:=List.mem_map.1 hx;simp[ea]at hd;subst hd;rfl
theorem NB{l:List Int}{p:Nat}(v y:Int)(h:p<=l.length):(l.take p++v::l.drop p).set p y=l.take p++y::l.drop p:=by
 rw[List.set_append_right _ _ (by rw[List.length_take];omega),List.length_take,Nat.min_eq_left h,Nat.sub_self];rfl
set_option maxHeartbeats 4000000 in
theorem Ty(its:List It)(hl:its.length<=1000):aB Tryz.prog 113 [(false,[.sc (.int .i64 3)]),(false,[.sl 78 3 (its.map ao)]),(false,[.sc (.bool false)])] [(false,[aZ (oL its its.length)],true)]:=by
 simp only[aZ];refine ah Tryz.func113 qI rfl ?_;simp only[ir];simp(disch:=first|omega|(simp only[ax];omega)|simp only[av,Nat.reduceAdd]) only[go_sem,true_and];refine lp (λi:Nat=>[.sc (.int .i64 i),.sl 3 1 ((oL its i).map ea)]) (λi=>i<=its.length) (λi=>its.length-i) 0 rfl (by omega) ?_;intro i hi;simp only[gN];by_cases hlt:i<its.length
 ·have hle:oL its (i+1)=(oL its i).take (o9 its (oL its i) i (oL its i).length)++(i:Int)::(oL its i).drop (o9 its (oL its i) i (oL its i).length):=rfl;have hll:=xd its i;have hrg:=xX its i;have hix:=cD (t:=78) (l:=its) (kd:=.i64) (z:=(i:Int)) (by omega) (by omega);rw[Int.toNat_natCast]at hix;generalize oL its i=l at *;have hpo:=zD its l i l.length;generalize hpe:o9 its l i l.length=p at *;simp(disch:=first|omega|(simp only[ax];omega)|simp only[av,Nat.reduceAdd]) only[go_sem,true_and];refine ak (λhbr=>?_) (λhbr=>?_);rotate_left
  ·omega
  simp(disch:=first|omega|(simp only[ax];omega)|simp only[av,Nat.reduceAdd]) only[go_sem,true_and];refine jn (λvs=>∃c,vs=[c,.sc (.int .i64 (p:Nat))]) ?_ ?_;rotate_left
  ·rintro vs - ⟨c,rfl⟩;simp only[go];have e1:(((l++[0]:List Int).length:Int)-((p+1:Nat):Int)).toNat=l.length-p:=by rw[List.length_append,List.length_singleton];omega
   have e2:(((l++[0]:List Int).length:Int)-((p:Nat):Int)).toNat=l.length+1-p:=by rw[List.length_append,List.length_singleton];omega
   have hcp:=Xo (k:=1) (t:=3) (e:=ea) (l:=l++[0]) (a:=((p+1:Nat):Int)) (m:=((l++[0]:List Int).length:Int)-((p+1:Nat):Int)) (b:=((p:Nat):Int)) (m':=((l++[0]:List Int).length:Int)-((p:Nat):Int)) (Il _);rw[e1,e2,Int.toNat_natCast,Int.toNat_natCast,LD l 0 hpo]at hcp;have hset:=NB ((l++[0]).getD p 0) (i:Int) hpo;have hsl:(l.take p++(l++[0]).getD p 0::l.drop p).length=l.length+1:=by simp;omega
   generalize (l++[0]).getD p 0=v at *;generalize hL:l.take p++v::l.drop p=L2 at*
   repeat' (first|(with_reducible first|refine ae ?_|refine ac ‹_› rfl ?_|refine ab ‹_› rfl ?_|refine ak (λhbr=>?_) λhbr=>?_)|simp(disch:=first|omega|(simp only[ax];omega)|simp only[av,Nat.reduceAdd]) only[go_sem,hcp,hset])
   all_goals first|omega|exact⟨i+1,by rw[hle],by omega,by omega⟩|skip
  simp(disch:=first|omega|(simp only[ax];omega)|simp only[av,Nat.reduceAdd]) only[go_sem,true_and];refine lp (λa:Nat=>[.sc (.int .i64 a)]) (λa=>a<=l.length/\o9 its l i a=p) (λa=>a) l.length rfl ⟨Nat.le_refl _,hpe⟩ ?_;rintro a ⟨ha,hap⟩;simp only[gt];by_cases ha0:0<a
  ·obtain⟨q,rfl⟩:=Nat.exists_eq_succ_of_ne_zero (Nat.pos_iff_ne_zero.1 ha0);have hz:=hrg _ (aK (l:=l) (i:=q) (by omega));have hq:(((q+1:Nat):Int)-1)=(q:Nat):=by omega
   have hiq:=cD (t:=78) (l:=its) (kd:=.i64) (z:=l.getD q default) (by omega) (by omega);have hB:=UL (its.getD i default) (its.getD (l.getD q default).toNat default);have hA:aI its i (l.getD q default)=PG (its.getD i default) (its.getD (l.getD q default).toNat default):=by unfold aI;rw[Int.toNat_natCast]
   have ht:=M2 (its:=its) (l:=l) (y:=i) (a:=q);have hf:=NY (its:=its) (l:=l) (y:=i) (a:=q);rw[hA]at ht hf;generalize its.getD i default=x at hix hB ht hf;generalize its.getD (l.getD q default).toNat default=y at hiq hB ht hf;simp only[Nat.succ_eq_add_one]at *;simp only[ao]at hix hiq hB;cases hc:PG x y
   ·rw[hc]at hB;have:=hf hc
    repeat' (first|(with_reducible first|refine ae ?_|refine ac ‹_› rfl ?_|refine ab ‹_› rfl ?_|refine ak (λhbr=>?_) λhbr=>?_)|simp(disch:=first|omega|(simp only[ax];omega)|simp only[av,Nat.reduceAdd]) only[go_sem,hq,hix,hiq])
    all_goals first|omega|skip
    refine NN (f:=125) (k':=2) (by decide) hB rfl ?_
    repeat' (first|(with_reducible first|refine ae ?_|refine ac ‹_› rfl ?_|refine ab ‹_› rfl ?_|refine ak (λhbr=>?_) λhbr=>?_)|simp(disch:=first|omega|(simp only[ax];omega)|simp only[av,Nat.reduceAdd]) only[go_sem,true_and])
    all_goals first|omega|exact⟨_,by rw[<-hap,this]⟩|skip
   ·rw[hc]at hB;have:=ht hc
    repeat' (first|(with_reducible first|refine ae ?_|refine ac ‹_› rfl ?_|refine ab ‹_› rfl ?_|refine ak (λhbr=>?_) λhbr=>?_)|simp(disch:=first|omega|(simp only[ax];omega)|simp only[av,Nat.reduceAdd]) only[go_sem,hq,hix,hiq])
    all_goals first|omega|skip
    refine NN (f:=125) (k':=2) (by decide) hB rfl ?_
    repeat' (first|(with_reducible first|refine ae ?_|refine ac ‹_› rfl ?_|refine ab ‹_› rfl ?_|refine ak (λhbr=>?_) λhbr=>?_)|simp(disch:=first|omega|(simp only[ax];omega)|simp only[av,Nat.reduceAdd]) only[go_sem,hq])
    all_goals first|omega|exact⟨q,rfl,⟨by omega,by rw[<-hap,this]⟩,by omega⟩|skip
  ·obtain rfl:a=0:=by omega
   repeat' (first|(with_reducible first|refine ae ?_|refine ac ‹_› rfl ?_|refine ab ‹_› rfl ?_|refine ak (λhbr=>?_) λhbr=>?_)|simp(disch:=first|omega|(simp only[ax];omega)|simp only[av,Nat.reduceAdd]) only[go_sem,true_and])
   all_goals first|omega|exact⟨_,by rw[<-hap];rfl⟩|skip
 obtain rfl:i=its.length:=by omega
 repeat' (first|(with_reducible first|refine ae ?_|refine ac ‹_› rfl ?_|refine ab ‹_› rfl ?_|refine ak (λhbr=>?_) λhbr=>?_)|simp(disch:=first|omega|(simp only[ax];omega)|simp only[av,Nat.reduceAdd]) only[go_sem,true_and])
 all_goals first|omega|rfl
def DF(its:List It):Prop:=its.length<=40/\∀x∈its,DZ 3 x=true
theorem DF.at{its:List It}(h:DF its):I3 3 its [] []:=⟨BI (by omega) (by simpa using h.1) (.inl rfl) tZ (l5 (by decide)) (l5 (by decide)) (λ_=>rfl) (λ_=>rfl) (λe=>by omega) (λx hx=>Hc (h.2 x hx)) (zX rfl),by omega,by omega⟩
theorem WH(k:Int)(its:List It):fV k its=.mk k its [] [] [] [] 0 0:=rfl
def QH(its:List It)(n:Nat):List Int:=(oL its n).map λz=>z+1
def H9(l:List Int)(i:Int)(k:Nat):List Int:=(l.take k).map (λz=>z+1)++(i+1)::(l.drop k).map λz=>z+1
theorem PK{l:List Int}{i:Int}{k:Nat}(h:k<=l.length):(H9 l i k).length=l.length+1:=by simp[H9];omega
theorem SS{l:List Int}{i:Int}{k:Nat}(h:k<=l.length):(H9 l i k).getD k default=i+1:=by
 unfold H9;rw[List.getD_eq_getElem?_getD,List.getElem?_append_right (by simp;omega)];simp[Nat.min_eq_left h]
theorem QB{l:List Int}{i:Int}{k:Nat}(h:k+1<=l.length):(H9 l i (k+1)).getD k default=l.getD k default+1:=by
 unfold H9;rw[List.getD_eq_getElem?_getD,List.getElem?_append_left (by simp;omega),List.getElem?_map,List.getElem?_take,if_pos (by omega),List.getD_eq_getElem?_getD,List.getElem?_eq_getElem (by omega)];rfl
theorem NR{l:List Int}{i:Int}{k:Nat}(h:k+1<=l.length):((H9 l i (k+1)).set (k+1) (l.getD k default+1)).set k (i+1)=H9 l i k:=by
 have e1:l.drop k=l.getD k default::l.drop (k+1):=by
  rw[List.drop_eq_getElem_cons (by omega),List.getD_eq_getElem?_getD,List.getElem?_eq_getElem (by omega)];rfl
 have e2:l.take (k+1)=l.take k++[l.getD k default]:=bh (by omega);unfold H9;rw[e1,e2,List.map_append,List.map_cons,List.map_nil];have hl:((l.take k).map λz=>z+1).length=k:=by simp;omega
 generalize (l.take k).map (λz=>z+1)=A at hl;subst hl;rw[List.append_assoc,List.set_append_right _ _ (by simp),List.set_append_right _ _ (by simp)];simp
set_option maxHeartbeats 4000000 in
theorem Vi{its:List It}(h:DF its):aB Tryz.prog 121 [(true,cN 3 its),(false,[.sc (.bool false)])] [(false,[aZ (QH its its.length)],true),(false,[.sc (.string eh)],true)]:=by
 have g1:=RP h.at;have hil:=h.1;simp only[ap,al,aq,aZ,cN,List.map_nil]at g1 ⊢;unfold eh at *;refine ah Tryz.func121 xi rfl ?_;simp only[mv]
 repeat' (first|(with_reducible first|refine ae ?_|refine ac ‹_› rfl ?_|refine ab ‹_› rfl ?_|refine ak (λhbr=>?_) λhbr=>?_)|simp(disch:=first|omega|(simp only[ax];omega)|simp only[av,Nat.reduceAdd]) only[go_sem,true_and])
 all_goals first|omega|skip
 refine lp (λi:Nat=>[.sc (.int .i64 i),.sl 3 1 ((QH its i).map ea)]) (λi=>i<=its.length) (λi=>its.length-i) 0 rfl (by omega) ?_;intro i hi;simp only[kM];have hll:=xd its i;have h1l:(QH its i).length=i:=by unfold QH;rw[List.length_map,hll]
 by_cases hlt:i<its.length
 ·have hle:QH its (i+1)=H9 (oL its i) i (o9 its (oL its i) i (oL its i).length):=by
   unfold QH H9;rw[oL];unfold Kq;simp
  have hfs:QH its i++[((i+1:Nat):Int)]=H9 (oL its i) i (oL its i).length:=by
   unfold QH H9;simp
  have hrg:=xX its i;have hix:=cD (t:=78) (l:=its) (kd:=.i64) (z:=(i:Int)) (by omega) (by omega);rw[Int.toNat_natCast]at hix;have hiv:=mW (h.2 _ (aK hlt));generalize oL its i=l at *;have hpo:=zD its l i l.length;generalize hpe:o9 its l i l.length=p at*
  repeat' (first|(with_reducible first|refine ae ?_|refine ac ‹_› rfl ?_|refine ab ‹_› rfl ?_|refine ak (λhbr=>?_) λhbr=>?_)|simp(disch:=first|omega|(simp only[ax];omega)|simp only[av,Nat.reduceAdd]) only[go_sem,true_and])
  all_goals first|omega|skip
  rw[hfs];refine lp (λa:Nat×DV=>[.sc (.int .i64 a.1),a.2,.sc (.int .i64 i),.sl 3 1 ((H9 l i a.1).map ea)]) (λa=>a.1<=l.length/\o9 its l i a.1=p) (λa=>a.1) (i,_) (by rw[hll];rfl) ⟨Nat.le_of_eq hll.symm,hll▸hpe⟩ ?_;rintro⟨a,d1⟩ ⟨ha,hap⟩;simp only at ha hap;simp only[lh];by_cases ha0:0<a
  ·obtain⟨q,rfl⟩:=Nat.exists_eq_succ_of_ne_zero (Nat.pos_iff_ne_zero.1 ha0);simp only[Nat.succ_eq_add_one]at *;have hz:=hrg _ (aK (l:=l) (i:=q) (by omega));have hq:(((q+1:Nat):Int)-1)=(q:Nat):=by omega
   have hiq:=cD (t:=78) (l:=its) (kd:=.i64) (z:=l.getD q default) (by omega) (by omega);have hvq:=mW (h.2 _ (aK (l:=its) (i:=(l.getD q default).toNat) (by omega)));have hB:=Vy (its.getD i default) (its.getD (l.getD q default).toNat default) hiv hvq;have hA:aI its i (l.getD q default)=PG (its.getD i default) (its.getD (l.getD q default).toNat default):=by unfold aI;rw[Int.toNat_natCast]
   have ht:=M2 (its:=its) (l:=l) (y:=i) (a:=q);have hf:=NY (its:=its) (l:=l) (y:=i) (a:=q);have hm:=PK (l:=l) (i:=i) (k:=q+1) ha;have hm1:=SS (l:=l) (i:=i) (k:=q+1) ha;have hm2:=QB (l:=l) (i:=i) (k:=q) ha;have hms:(_:List Int).set q (((i+1:Nat):Int))=_:=NR (l:=l) (i:=i) (k:=q) ha;rw[hA]at ht hf;generalize its.getD i default=x at hix hB ht hf;generalize its.getD (l.getD q default).toNat default=y at hiq hB ht hf;generalize hL2:H9 l i (q+1)=L2 at *;simp only[ao]at hix hiq hB;have e1:(((i+1:Nat):Int)-1)=i:=by omega
   have e2:(l.getD q default+1-1)=l.getD q default:=by omega
   cases hc:PG x y
   ·rw[hc]at hB;have:=hf hc
    repeat' (first|(with_reducible first|refine ae ?_|refine ac ‹_› rfl ?_|refine ab ‹_› rfl ?_|refine ak (λhbr=>?_) λhbr=>?_)|simp(disch:=first|omega|(simp only[ax];omega)|simp only[av,Nat.reduceAdd]) only[go_sem,hq,hm1,hm2,e1,e2,hix,hiq,dy])
    all_goals first|omega|exact⟨i+1,by rw[hle,<-hap,this,hL2],by omega,by omega⟩|skip
   ·rw[hc]at hB;have:=ht hc
    repeat' (first|(with_reducible first|refine ae ?_|refine ac ‹_› rfl ?_|refine ab ‹_› rfl ?_|refine ak (λhbr=>?_) λhbr=>?_)|simp(disch:=first|omega|(simp only[ax];omega)|simp only[av,Nat.reduceAdd]) only[go_sem,hq,hm1,hm2,e1,e2,hix,hiq,hms,dy])
    all_goals first|omega|exact⟨(q,_),rfl,⟨by simp only;omega,by rw[<-hap,this]⟩,by simp only;omega⟩|skip
  ·obtain rfl:a=0:=by omega
   repeat' (first|(with_reducible first|refine ae ?_|refine ac ‹_› rfl ?_|refine ab ‹_› rfl ?_|refine ak (λhbr=>?_) λhbr=>?_)|simp(disch:=first|omega|(simp only[ax];omega)|simp only[av,Nat.reduceAdd]) only[go_sem,dy])
   all_goals first|omega|exact⟨i+1,by rw[hle,<-hap];rfl,by omega,by omega⟩|skip
 ·obtain rfl:i=its.length:=by omega
  repeat' (first|(with_reducible first|refine ae ?_|refine ac ‹_› rfl ?_|refine ab ‹_› rfl ?_|refine ak (λhbr=>?_) λhbr=>?_)|simp(disch:=first|omega|(simp only[ax];omega)|simp only[av,Nat.reduceAdd]) only[go_sem,true_and])
  all_goals first|omega|rfl
end Go.Proofs.YtliknccmjjncbaaGreat
