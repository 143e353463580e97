/- Proved: for every input the law 'FnExactModelFrame' returns true and its arguments read behind the call as before: part 4 of its proof. No condition. -/
import Derived.WalkKit
import Derived.Lib.Hide
import Derived.WalkSpells
import Derived.Laws.OwnMore
import Derived.Deep.AppendLies
import Derived.Deep.Draws
import Derived.Maps.AppendAt
import Derived.RegionTactic
import Derived.OwnWalk
import Derived.Below
import Derived.Laws.AppendOwnNone
import Derived.Deep.QuietTactic
import Derived.BigQuiet
import Derived.StillTailTactics
import Derived.Laws.Cells
import Derived.Laws.IdiomCopy
import Derived.ChangeKeysEq
import Derived.Laws.BytesArg
import Derived.Laws.StructEq
import Derived.Laws.Tables
import Derived.Great.BuildSlice
import Derived.StillTail
import Derived.ArgAppend
import Derived.OrdersHeld
import Derived.Test.YtliknccmjjncbaaGreatProg
import Derived.Deep.Slices
import Derived.Deep.Fields
import Derived.ChangeSame
import Derived.OpenShut
import Derived.Laws.ResultCell
import Derived.Deep.RegionWith
import Derived.Laws.IdiomStrings
import Derived.Test.YtliknccmjjncbaaGreatExModelFrameQ3
set_option linter.unusedVariables false
set_option linter.unusedSimpArgs false
namespace Go.Proofs.YtliknccmjjncbaaGreat
open Go.RowKit
set_option maxRecDepth 100000
def vJ:List aQ:=[]
def uZ:List (Nat×Nat×Bool×List Nat):=[]
def kz:UP:=.f<|.cl 75 [(true,[8,7,6,5,4,3,2,1])] au<|.ite 0 (.l 4<|.i 0<|.b .gtr 1 0<|.ite 0 (.l 8<|.i 1<|.e 1 0<|.ite 0 (.i 0<|.z 0<|.x 1 12 0<|.s #[102,97,99,116,111,114]<|.e 1 0<|.c 0<|.r 0)<|.f<|.c 0<|.r 0)<|.f<|.f<|.c 0<|.r 0)<|.f<|.f<|.f<|.c 0<|.r 0
theorem uE:aM Tryz.prog 34 Tryz.f34 bO vJ uZ=some ([(true,8)],kz):=by kernel_rfl
def uU:List aQ:=[]
def vA:List (Nat×Nat×Bool×List Nat):=[]
def lf:UP:=.f<|.cl 59 [(true,[8,7,6,5,4,3,2,1])] au<|.ite 0 (.l 4<|.i 0<|.b .gtr 1 0<|.ite 0 (.l 8<|.i 1<|.e 1 0<|.ite 0 (.i 0<|.z 0<|.x 1 12 0<|.s #[102,97,99,116,111,114]<|.e 1 0<|.c 0<|.r 0)<|.f<|.c 0<|.r 0)<|.f<|.f<|.c 0<|.r 0)<|.f<|.f<|.f<|.c 0<|.r 0
theorem vi:aM Tryz.prog 22 Tryz.f22 bO uU vA=some ([(true,8)],lf):=by kernel_rfl
def wJ:List aQ:=[⟨3000004,1,⟨[aa 3 27,aa 39 25,aa 2 8,aC 1 0 0 0,(0,.p true [.d 0,.d 1,.d 2,.d 3,.d 4,.d 5,.d 6,.d 7])],[(0,.var 0 35 [.d 0,.d 1,.d 2,.d 3,.d 4,.d 5,.d 6,.d 7])],1,1,28,[(25,false),(22,false),(19,false),(15,false),(12,false),(10,false),(8,false)]⟩,[]⟩]
def xa:List (Nat×Nat×Bool×List Nat):=[(6,13,false,[])]
def kW:UP:=.l 2<|.b .lss 1 0<|.ite 0 (.z 2<|.x 8 4 2<|.i 0<|.z 0<|.x 8 13 0<|.l 6<|.c 0<|.sel [0,10,11,12,13,14,15,16,17,20]<|.cl 91 [(true,[8,7,6,5,4,3,2,1]),(false,[0])] au<|.n 0<|.c 0<|.ite 0 (.f<|.c 0<|.r 0)<|.i 1<|.a 12 0<|.jump 0 [0])<|.t<|.c 0<|.r 0
def mA:UP:=.f<|.cl 59 [(true,[8,7,6,5,4,3,2,1])] au<|.n 0<|.ite 0 (.t<|.t<|.t<|.t<|.t<|.f<|.c 0<|.r 0)<|.i 4<|.b .neq 11 0<|.ite 0 (.t<|.t<|.t<|.t<|.f<|.c 0<|.r 0)<|.l 8<|.i 1<|.b .neq 1 0<|.ite 0 (.t<|.t<|.t<|.f<|.c 0<|.r 0)<|.i 0<|.z 0<|.x 1 12 0<|.s #[100,97,116,97,46,102,114,97,109,101]<|.b .neq 1 0<|.ite 0 (.t<|.t<|.f<|.c 0<|.r 0)<|.l 16<|.l 18<|.b .neq 1 0<|.ite 0 (.t<|.f<|.c 0<|.r 0)<|.i 40<|.sel [0,20,21]<|.cl 90 [(false,[1]),(false,[0])] au<|.n 0<|.ite 0 (.f<|.c 0<|.r 0)<|.i 0<|.sel [0,5]<|.loop [0] kW
theorem xL:aM Tryz.prog 54 Tryz.f54 bO wJ xa=some ([(true,8)],mA):=by kernel_rfl
def s8:List aQ:=[]
def sj:List (Nat×Nat×Bool×List Nat):=[]
def jF:UP:=.f<|.i 1<|.i 3<|.cl 52 [(false,[11]),(false,[1]),(false,[0])] au<|.ite 0 (.l 11<|.e 0 5<|.ite 0 (.l 11<|.i 0<|.e 1 0<|.ite 0 (.l 13<|.i 0<|.e 1 0<|.ite 0 (.l 15<|.i 0<|.e 1 0<|.ite 0 (.t<|.c 0<|.r 0)<|.sel [16,17,18,19,20,21,22,23]<|.cl 22 [(true,[7,6,5,4,3,2,1,0])] au<|.c 0<|.r 0)<|.f<|.sel [14,15,16,17,18,19,20,21]<|.cl 22 [(true,[7,6,5,4,3,2,1,0])] au<|.c 0<|.r 0)<|.f<|.c 0<|.r 0)<|.f<|.f<|.c 0<|.r 0)<|.f<|.f<|.f<|.c 0<|.r 0
theorem sC:aM Tryz.prog 91 Tryz.f91 bO s8 sj=some ([(true,8),(false,1)],jF):=by kernel_rfl
def Bu:List aQ:=[]
def B9:List (Nat×Nat×Bool×List Nat):=[]
def jp:UP:=.i 0<|.i 0<|.i 0<|.s #[]<|.sel [4,5,6,7,8,9,10,11]<|.cl 59 [(true,[7,6,5,4,3,2,1,0])] au<|.n 0<|.ite 0 (.i 0<|.i 0<|.i 0<|.s #[114,101,115,117,108,116,32,105,115,32,116,111,111,32,108,97,114,103,101]<|.c 3<|.po (.e 78 3)<|.po (.e 35 8)<|.po (.e 9 1)<|.po (.e 9 1)<|.po (.e 9 1)<|.c 7<|.c 6<|.c 5<|.ret [(true,[8,4,3,2,1,0,7,6]),(false,[5])])<|.s #[]<|.c 10<|.c 4<|.c 3<|.c 0<|.ret [(true,[10,9,8,7,6,5,4,3]),(false,[0])]
theorem oZ:oK Tryz.prog 26 Tryz.f26 bO Bu B9 [(true,[none,some (78,3),some (35,8),some (9,1),some (9,1),some (9,1),none,none],true)]=some jp:=by kernel_rfl
def zC:List aQ:=[⟨2000001,7,⟨[aa 82 38,aa 34 39,aa 8 40,aa 7 41,aa 17 37,aa 16 33,aa 15 31,aa 14 8,aC 5 7 5 0,aC 4 1 1 0,aC 2 0 0 0,(0,.p true [.d 0,.d 1,.d 2,.d 3,.d 4,.d 5,.d 6,.d 7]),aa 1 8],[(0,.var 0 35 [.d 0,.d 1,.d 2,.d 3,.d 4,.d 5,.d 6,.d 7]),(1,.var 1 35 [.d 9,.nil,.nil,.nil,.nil,.nil,.d 10,.d 11]),(7,.var 5 35 [.d 20,.own 2 2,.own 3 6,.own 4 7,.own 5 3,.own 6 4,.d 26,.d 27]),(6,.row 4 9 1 25),(5,.row 3 9 1 24),(4,.row 7 9 1 42),(3,.row 6 35 8 43),(2,.row 2 78 3 44)],8,8,45,[(37,true)]⟩,[]⟩,⟨2000002,3,⟨[aa 34 40,aa 8 39,aa 7 38,aa 17 37,aa 16 33,aa 15 31,aa 14 8,aC 5 7 6 0,aC 4 1 1 0,aC 2 0 0 0,(0,.p true [.d 0,.d 1,.d 2,.d 3,.d 4,.d 5,.d 6,.d 7]),aa 1 8],[(0,.var 0 35 [.d 0,.d 1,.d 2,.d 3,.d 4,.d 5,.d 6,.d 7]),(1,.var 1 35 [.d 9,.nil,.nil,.nil,.nil,.nil,.d 10,.d 11]),(7,.var 6 35 [.d 20,.own 2 2,.own 3 7,.own 4 3,.own 5 4,.own 6 5,.d 26,.d 27]),(6,.row 5 9 1 25),(5,.row 4 9 1 24),(4,.row 3 9 1 34),(3,.row 7 35 8 41),(2,.row 2 78 3 42)],8,8,43,[(37,true)]⟩,[]⟩,⟨7,1,⟨[aa 34 40,aa 8 39,aa 7 38,aa 17 37,aa 16 33,aa 15 31,aa 14 8,aC 5 7 7 0,aC 4 1 1 0,aC 2 0 0 0,(0,.p true [.d 0,.d 1,.d 2,.d 3,.d 4,.d 5,.d 6,.d 7]),aa 1 8],[(0,.var 0 35 [.d 0,.d 1,.d 2,.d 3,.d 4,.d 5,.d 6,.d 7]),(1,.var 1 35 [.d 9,.nil,.nil,.nil,.nil,.nil,.d 10,.d 11]),(7,.var 7 35 [.d 20,.own 2 2,.own 3 3,.own 4 4,.own 5 5,.own 6 6,.d 26,.d 27]),(6,.row 6 9 1 25),(5,.row 5 9 1 24),(4,.row 4 9 1 34),(3,.row 3 35 8 35),(2,.row 2 78 3 36)],8,8,41,[(37,true)]⟩,[]⟩,⟨5,1,⟨[aa 8 39,aa 7 38,aa 17 37,aa 16 33,aa 15 31,aa 14 8,aC 5 7 7 0,aC 4 1 1 0,aC 2 0 0 0,(0,.p true [.d 0,.d 1,.d 2,.d 3,.d 4,.d 5,.d 6,.d 7]),aa 1 8],[(0,.var 0 35 [.d 0,.d 1,.d 2,.d 3,.d 4,.d 5,.d 6,.d 7]),(1,.var 1 35 [.d 9,.nil,.nil,.nil,.nil,.nil,.d 10,.d 11]),(7,.var 7 35 [.d 20,.own 2 2,.own 3 3,.own 4 4,.own 5 5,.own 6 6,.d 26,.d 27]),(6,.row 6 9 1 25),(5,.row 5 9 1 24),(4,.row 4 9 1 34),(3,.row 3 35 8 35),(2,.row 2 78 3 36)],8,8,40,[(37,true)]⟩,[]⟩,⟨3000003,4,⟨[aa 16 33,aa 15 31,aa 14 8,aC 5 7 7 0,aC 4 1 1 0,aC 2 0 0 0,(0,.p true [.d 0,.d 1,.d 2,.d 3,.d 4,.d 5,.d 6,.d 7]),aa 1 8],[(0,.var 0 35 [.d 0,.d 1,.d 2,.d 3,.d 4,.d 5,.d 6,.d 7]),(1,.var 1 35 [.d 9,.nil,.nil,.nil,.nil,.nil,.d 10,.d 11]),(7,.var 7 35 [.d 20,.own 2 2,.own 3 3,.own 4 4,.own 5 5,.own 6 6,.d 26,.d 27]),(6,.row 6 9 1 25),(5,.row 5 9 1 24),(4,.row 4 9 1 34),(3,.row 3 35 8 35),(2,.row 2 78 3 36)],8,8,37,[]⟩,[]⟩]
def yH:List (Nat×Nat×Bool×List Nat):=[(14,9,false,[]),(12,9,false,[]),(8,10,false,[])]
def bw:UP:=.ite 0 (.i 1<|.b .sub 3 0<|.c 0<|.z 0<|.x 8 9 0<|.sel [0,1,2,3,4,5,6,7,10,13,14]<|.cl 71 [(true,[7,6,5,4,3,2,1,0])] cB<|.po (.mk 35 8 [[7,6,5,4,3,2,1,0]])<|.c 8<|.c 2<|.c 1<|.po (.mk 35 8 [[8,7,6,5,4,3,2,1]])<|.po (.app 35 8 144 20 0)<|.jump 2 [19,0,20])<|.i 4<|.e 10 0<|.ite 0 (.i 0<|.i 0<|.i 0<|.c 2<|.po (.e 78 3)<|.po (.e 35 8)<|.po (.e 9 1)<|.po (.e 9 1)<|.po (.e 9 1)<|.c 6<|.c 5<|.po (.mk 35 8 [[7,4,3,2,1,0,6,5]])<|.po (.app 35 8 144 15 0)<|.jump 2 [12,0,15])<|.ite 3 (.i 1<|.b .sub 5 0<|.c 0<|.z 0<|.x 3 12 0<|.c 2<|.c 1<|.c 0<|.po (.mk 78 3 [[2,1,0]])<|.c 3<|.c 2<|.c 1<|.po (.mk 78 3 [[3,2,1]])<|.po (.flat 0)<|.po (.app 78 3 32 12 0)<|.jump 2 [10,14,0])<|.i 0<|.i 0<|.s #[]<|.c 2<|.c 1<|.c 0<|.po (.mk 78 3 [[2,1,0]])<|.po (.flat 0)<|.po (.app 78 3 32 9 0)<|.jump 2 [7,11,0]
def bu:UP:=.l 8<|.i 0<|.b .gtr 1 0<|.ite 0 (.ite 6 (.i 1<|.b .sub 8 0<|.c 0<|.z 0<|.x 1 13 0<|.c 0<|.po (.mk 9 1 [[0]])<|.c 1<|.po (.mk 9 1 [[1]])<|.po (.flat 0)<|.po (.app 9 1 16 15 0)<|.jump 1 [12,11,12,13,0,10,9])<|.l 11<|.i 0<|.b .gtr 1 0<|.ite 0 (.s #[60,78,65,62]<|.c 0<|.po (.mk 9 1 [[0]])<|.po (.flat 0)<|.po (.app 9 1 16 15 0)<|.jump 1 [12,11,12,13,0,10,9])<|.jump 1 [9,8,9,10,13,7,6])<|.f<|.l 12<|.i 0<|.b .gtr 1 0<|.ite 0 (.s #[60,78,65,62]<|.c 0<|.po (.mk 9 1 [[0]])<|.po (.flat 0)<|.po (.app 9 1 16 16 0)<|.jump 1 [6,12,13,14,0,11,10])<|.jump 1 [3,9,10,11,14,8,7]
def bq:UP:=.sel [0,1,2,3,4,11,12,13,14]<|.join 3 bu<|.join 1 bw<|.i 4<|.e 9 0<|.ite 0 (.jump 3 [2])<|.f<|.jump 3 [0]
def bx:UP:=.i 1<|.a 11 0<|.jump 0 [0,4,3,2]
def mb:UP:=.b .lss 3 5<|.ite 0 (.sel [1,2,3,4,15,16,17,18,19,20,21,22,23]<|.join 7 bx<|.z 3<|.x 1 4 3<|.join 1 bq<|.i 1<|.b .geq 1 0<|.ite 0 (.sel [2,8,9,10,11,12,13,14,15]<|.cl 77 [(true,[8,7,6,5,4,3,2,1])] au<|.b .leq 1 0<|.jump 2 [0])<|.f<|.jump 2 [0])<|.c 14<|.c 8<|.c 7<|.sel [1,2,3,7,8,9,10,14]<|.cl 5000078 [(true,[7,0,1,2,6,5,4,3])] cB<|.c 7<|.c 1<|.c 0<|.ret [(true,[7,6,5,4,3,2,1,0])]
def nU:UP:=.i 0<|.i 0<|.i 0<|.i 0<|.i 0<|.i 0<|.c 14<|.po (.e 78 3)<|.po (.e 35 8)<|.po (.e 9 1)<|.po (.e 9 1)<|.po (.e 9 1)<|.c 6<|.c 5<|.sel [0,1,2,3,4,5,6,11,12,13,14,15,16,17,18,19]<|.cl 5000076 [(true,[15,4,3,2,1,0,6,5]),(true,[15,14,13,12,11,10,9,8])] cB<|.i 0<|.i 0<|.i 0<|.l 18<|.i 0<|.sel [0,1,5,6,7,8,9,10,11,12,20,21,22,23,24,25,26,27,28]<|.loop [0,6,7,8] mb
theorem yA:aM Tryz.prog 35 Tryz.f35 bO zC yH=some ([(true,8),(false,1)],nU):=by kernel_rfl
def zc:List aQ:=[⟨1000003,2,⟨[aa 15 20,aC 5 2 2 0,aC 4 1 1 0,aC 2 0 0 0,(0,.p true [.d 0,.d 1,.d 2,.d 3,.d 4,.d 5,.d 6,.d 7]),aa 1 8],[(0,.var 0 35 [.d 0,.d 1,.d 2,.d 3,.d 4,.d 5,.d 6,.d 7]),(1,.var 1 35 [.d 9,.nil,.nil,.nil,.nil,.nil,.d 10,.d 11]),(2,.var 2 35 [.d 0,.nil,.nil,.nil,.own 3 3,.own 4 4,.d 13,.d 14]),(4,.row 4 9 1 21),(3,.row 3 9 1 22)],5,5,23,[]⟩,[⟨false,2,4,9,1⟩,⟨false,2,5,9,1⟩]⟩,⟨1000011,2,⟨[aa 47 41,aa 8 40,aa 7 35,aa 29 32,aa 6 27,aa 15 20,aC 5 2 2 0,aC 4 1 1 0,aC 2 0 0 0,(0,.p true [.d 0,.d 1,.d 2,.d 3,.d 4,.d 5,.d 6,.d 7]),aa 1 8],[(0,.var 0 35 [.d 0,.d 1,.d 2,.d 3,.d 4,.d 5,.d 6,.d 7]),(1,.var 1 35 [.d 9,.nil,.nil,.nil,.nil,.nil,.d 10,.d 11]),(2,.var 2 35 [.d 0,.own 5 5,.own 6 7,.own 7 6,.own 3 3,.own 4 4,.d 13,.d 14]),(4,.row 4 9 1 21),(3,.row 3 9 1 22),(7,.row 6 9 1 28),(6,.row 7 35 8 42),(5,.row 5 78 3 43)],8,8,44,[(32,true)]⟩,[⟨false,2,1,78,3⟩,⟨false,2,2,35,8⟩]⟩,⟨2000001,7,⟨[aa 91 33,aa 47 34,aa 8 35,aa 7 36,aa 29 32,aa 6 27,aa 15 20,aC 5 2 2 0,aC 4 1 1 0,aC 2 0 0 0,(0,.p true [.d 0,.d 1,.d 2,.d 3,.d 4,.d 5,.d 6,.d 7]),aa 1 8],[(0,.var 0 35 [.d 0,.d 1,.d 2,.d 3,.d 4,.d 5,.d 6,.d 7]),(1,.var 1 35 [.d 9,.nil,.nil,.nil,.nil,.nil,.d 10,.d 11]),(2,.var 2 35 [.d 0,.own 5 5,.own 6 6,.own 7 7,.own 3 3,.own 4 4,.d 13,.d 14]),(4,.row 4 9 1 21),(3,.row 3 9 1 22),(7,.row 7 9 1 37),(6,.row 6 35 8 38),(5,.row 5 78 3 39)],8,8,40,[(32,true)]⟩,[]⟩,⟨10,1,⟨[aa 47 41,aa 8 40,aa 7 35,aa 29 32,aa 6 27,aa 15 20,aC 5 2 2 0,aC 4 1 1 0,aC 2 0 0 0,(0,.p true [.d 0,.d 1,.d 2,.d 3,.d 4,.d 5,.d 6,.d 7]),aa 1 8],[(0,.var 0 35 [.d 0,.d 1,.d 2,.d 3,.d 4,.d 5,.d 6,.d 7]),(1,.var 1 35 [.d 9,.nil,.nil,.nil,.nil,.nil,.d 10,.d 11]),(2,.var 2 35 [.d 0,.own 5 5,.own 6 6,.own 7 7,.own 3 3,.own 4 4,.d 13,.d 14]),(4,.row 4 9 1 21),(3,.row 3 9 1 22),(7,.row 7 9 1 28),(6,.row 6 35 8 29),(5,.row 5 78 3 30)],8,8,42,[(32,true)]⟩,[]⟩,⟨3000006,4,⟨[aa 6 27,aa 15 20,aC 5 2 2 0,aC 4 1 1 0,aC 2 0 0 0,(0,.p true [.d 0,.d 1,.d 2,.d 3,.d 4,.d 5,.d 6,.d 7]),aa 1 8],[(0,.var 0 35 [.d 0,.d 1,.d 2,.d 3,.d 4,.d 5,.d 6,.d 7]),(1,.var 1 35 [.d 9,.nil,.nil,.nil,.nil,.nil,.d 10,.d 11]),(2,.var 2 35 [.d 0,.own 5 5,.own 6 6,.own 7 7,.own 3 3,.own 4 4,.d 13,.d 14]),(4,.row 4 9 1 21),(3,.row 3 9 1 22),(7,.row 7 9 1 28),(6,.row 6 35 8 29),(5,.row 5 78 3 30)],8,8,31,[]⟩,[⟨false,2,1,78,3⟩,⟨false,2,2,35,8⟩,⟨false,2,3,9,1⟩]⟩]
def yI:List (Nat×Nat×Bool×List Nat):=[(15,8,false,[]),(18,8,false,[]),(11,9,false,[])]
def br:UP:=.l 10<|.i 0<|.b .gtr 1 0<|.ite 0 (.ite 6 (.z 9<|.x 1 13 9<|.c 0<|.po (.mk 9 1 [[0]])<|.c 1<|.po (.mk 9 1 [[1]])<|.po (.flat 0)<|.po (.app 9 1 16 15 0)<|.jump 1 [10,9,10,13,0,8,7])<|.l 13<|.i 0<|.b .gtr 1 0<|.ite 0 (.s #[60,78,65,62]<|.c 0<|.po (.mk 9 1 [[0]])<|.po (.flat 0)<|.po (.app 9 1 16 17 0)<|.jump 1 [12,11,12,15,0,10,9])<|.jump 1 [9,8,9,12,15,7,6])<|.f<|.l 14<|.i 0<|.b .gtr 1 0<|.ite 0 (.s #[60,78,65,62]<|.c 0<|.po (.mk 9 1 [[0]])<|.po (.flat 0)<|.po (.app 9 1 16 18 0)<|.jump 1 [6,12,13,16,0,11,10])<|.jump 1 [3,9,10,13,16,8,7]
def bz:UP:=.join 2 br<|.ite 0 (.z 4<|.x 8 9 4<|.sel [0,1,2,3,4,5,6,7,13,14]<|.cl 96 [(true,[7,6,5,4,3,2,1,0])] cB<|.po (.mk 35 8 [[7,6,5,4,3,2,1,0]])<|.c 8<|.c 2<|.c 1<|.po (.mk 35 8 [[8,7,6,5,4,3,2,1]])<|.po (.app 35 8 144 19 0)<|.jump 2 [0,19])<|.i 4<|.e 12 0<|.ite 0 (.i 0<|.i 0<|.i 0<|.c 2<|.po (.e 78 3)<|.po (.e 35 8)<|.po (.e 9 1)<|.po (.e 9 1)<|.po (.e 9 1)<|.c 6<|.c 5<|.po (.mk 35 8 [[7,4,3,2,1,0,6,5]])<|.po (.app 35 8 144 17 0)<|.jump 2 [0,17])<|.ite 3 (.z 6<|.x 3 12 6<|.c 2<|.c 1<|.c 0<|.po (.mk 78 3 [[2,1,0]])<|.c 3<|.c 2<|.c 1<|.po (.mk 78 3 [[3,2,1]])<|.po (.flat 0)<|.po (.app 78 3 32 12 0)<|.jump 2 [14,0])<|.i 0<|.i 0<|.s #[]<|.c 2<|.c 1<|.c 0<|.po (.mk 78 3 [[2,1,0]])<|.po (.flat 0)<|.po (.app 78 3 32 11 0)<|.jump 2 [13,0]
def bv:UP:=.i 1<|.a 11 0<|.jump 0 [0,4,3,2]
def mz:UP:=.l 13<|.b .lss 4 0<|.ite 0 (.sel [2,3,4,5,15,16,17,18,19,20,21,22,23]<|.join 7 bv<|.z 3<|.x 1 4 3<|.i 1<|.b .sub 1 0<|.sel [0,3,4,5,8,9,10,11,12,13,14,15]<|.cl 95 [(true,[11,10,9,8,7,6,5,4])] au<|.i 1<|.b .sub 1 0<|.i 0<|.sel [0,1,4,5,6,7,12,13,14,15]<|.cl 52 [(false,[2]),(false,[0]),(false,[1])] au<|.join 1 bz<|.i 4<|.e 11 0<|.ite 0 (.jump 2 [2])<|.f<|.jump 2 [0])<|.c 23<|.c 14<|.c 13<|.sel [2,3,4,10,11,13,14,23]<|.cl 5000097 [(true,[7,0,1,2,3,4,6,5])] cB<|.c 7<|.c 1<|.c 0<|.ret [(true,[7,6,5,4,3,2,1,0])]
def ma:UP:=.i 0<|.po (.e 78 3)<|.po (.e 35 8)<|.po (.e 9 1)<|.loop [3,0,1,2] mz
def nD:UP:=.i 0<|.i 0<|.i 0<|.i 0<|.i 0<|.i 0<|.i 0<|.i 0<|.i 0<|.l 12<|.i 0<|.b .gtr 1 0<|.sel [0,6,7,12,13,14,15,16,17,18,19,20]<|.join 2 ma<|.ite 0 (.po (.mk 9 1 [])<|.po (.flat 8)<|.po (.app 9 1 16 0 8)<|.po (.mk 9 1 [])<|.po (.flat 9)<|.po (.app 9 1 16 0 9)<|.jump 0 [0,2])<|.po (.e 9 1)<|.po (.e 9 1)<|.jump 0 [0,1]
theorem zj:aM Tryz.prog 60 Tryz.f60 bO zc yI=some ([(true,8),(false,1)],nD):=by kernel_rfl
def Ax:List aQ:=[⟨2000001,5,⟨[aa 26 31,aa 4 28,aC 5 5 5 0,aa 20 30,aa 19 28,aa 18 26,aa 17 1,aa 14 24,aC 3 4 4 0,aC 2 1 1 0,aC 1 0 0 0,(0,.p true [.d 0,.d 1,.d 2,.d 3,.d 4,.d 5,.d 6,.d 7])],[(0,.var 0 35 [.d 0,.d 1,.d 2,.d 3,.d 4,.d 5,.d 6,.d 7]),(1,.var 1 35 [.d 8,.nil,.nil,.nil,.nil,.nil,.d 9,.d 10]),(4,.var 4 35 [.d 25,.own 2 2,.own 3 3,.nil,.nil,.nil,.d 17,.d 18]),(3,.row 3 35 8 13),(2,.row 2 78 3 32),(5,.var 5 78 [.d 33,.d 34,.d 35])],6,6,36,[(30,true),(24,true)]⟩,[]⟩,⟨3000008,2,⟨[aa 19 28,aa 18 26,aa 17 1,aa 14 24,aC 3 4 4 0,aC 2 1 1 0,aC 1 0 0 0,(0,.p true [.d 0,.d 1,.d 2,.d 3,.d 4,.d 5,.d 6,.d 7])],[(0,.var 0 35 [.d 0,.d 1,.d 2,.d 3,.d 4,.d 5,.d 6,.d 7]),(1,.var 1 35 [.d 8,.nil,.nil,.nil,.nil,.nil,.d 9,.d 10]),(4,.var 4 35 [.d 25,.own 2 2,.own 3 3,.nil,.nil,.nil,.d 17,.d 18]),(3,.row 3 35 8 13),(2,.row 2 78 3 29)],5,5,30,[(24,true)]⟩,[]⟩]
def B7:List (Nat×Nat×Bool×List Nat):=[(11,12,false,[])]
def hU:UP:=.i 1<|.a 7 0<|.jump 0 [0,5]
def nH:UP:=.b .lss 1 3<|.ite 0 (.sel [1,2,10,11]<|.join 5 hU<|.z 1<|.x 3 3 1<|.i 0<|.i 0<|.s #[]<|.sel [3,4,5,6,7,8]<|.cl 74 [(true,[2,1,0])] au<|.n 0<|.ite 0 (.c 4<|.i 1<|.b .sub 5 0<|.c 0<|.z 0<|.x 1 9 0<|.c 0<|.sel [0,3,5,6,7,8,9]<|.cl 115 [(false,[0])] mu<|.z 9<|.po (.chk 3 8 9)<|.c 2<|.c 1<|.c 0<|.po (.set 3 8 9 0 [2,1,0])<|.jump 1 [5,0,8,7,6])<|.jump 1 [0,5,4,3,2])<|.c 5<|.po (.e 9 1)<|.po (.e 9 1)<|.po (.e 9 1)<|.c 10<|.c 9<|.ret [(true,[8,4,11,2,1,0,10,9])]
def jE:UP:=.i 0<|.i 0<|.i 0<|.cl 71 [(true,[10,9,8,7,6,5,4,3])] cB<|.i 0<|.i 0<|.i 0<|.l 16<|.i 0<|.b .gtr 1 0<|.ite 0 (.i 3<|.l 24<|.i 0<|.sel [0,1,2,9,10,14,15,22,26]<|.loop [0,6] nH)<|.c 13<|.po (.e 9 1)<|.po (.e 9 1)<|.po (.e 9 1)<|.c 10<|.c 9<|.ret [(true,[16,15,14,2,1,0,10,9])]
theorem pB:aM Tryz.prog 83 Tryz.f83 bO Ax B7=some ([(true,8)],jE):=by kernel_rfl
def xY:List aQ:=[⟨2000001,3,⟨[aa 32 23,aa 22 22,aa 4 15,aC 3 3 3 0,aC 2 1 1 0,aC 1 0 0 0,(0,.p true [.d 0,.d 1,.d 2,.d 3,.d 4,.d 5,.d 6,.d 7])],[(0,.var 0 35 [.d 0,.d 1,.d 2,.d 3,.d 4,.d 5,.d 6,.d 7]),(1,.var 1 35 [.d 8,.nil,.nil,.nil,.nil,.nil,.d 9,.d 10]),(3,.var 3 35 [.d 24,.own 2 2,.nil,.nil,.nil,.nil,.d 11,.d 12]),(2,.row 2 78 3 25)],4,4,26,[(22,true),(19,true)]⟩,[]⟩,⟨3000003,3,⟨[aa 4 15,aC 3 3 3 0,aC 2 1 1 0,aC 1 0 0 0,(0,.p true [.d 0,.d 1,.d 2,.d 3,.d 4,.d 5,.d 6,.d 7])],[(0,.var 0 35 [.d 0,.d 1,.d 2,.d 3,.d 4,.d 5,.d 6,.d 7]),(1,.var 1 35 [.d 8,.nil,.nil,.nil,.nil,.nil,.d 9,.d 10]),(3,.var 3 35 [.d 16,.own 2 2,.nil,.nil,.nil,.nil,.d 11,.d 12]),(2,.row 2 78 3 17)],4,4,18,[]⟩,[]⟩,⟨1,3,⟨[aC 3 3 3 0,aC 2 1 1 0,aC 1 0 0 0,(0,.p true [.d 0,.d 1,.d 2,.d 3,.d 4,.d 5,.d 6,.d 7])],[(0,.var 0 35 [.d 0,.d 1,.d 2,.d 3,.d 4,.d 5,.d 6,.d 7]),(1,.var 1 35 [.d 8,.nil,.nil,.nil,.nil,.nil,.d 9,.d 10]),(3,.var 3 35 [.d 0,.own 2 2,.nil,.nil,.nil,.nil,.d 11,.d 12]),(2,.row 2 78 3 13)],4,4,14,[]⟩,[]⟩]
def xJ:List (Nat×Nat×Bool×List Nat):=[(7,16,false,[]),(1,8,false,[])]
def eU:UP:=.i 1<|.a 5 0<|.jump 0 [0,3,2]
def fl:UP:=.l 8<|.b .lss 3 0<|.ite 0 (.l 9<|.i 0<|.b .gtr 1 0<|.ite 0 (.sel [5,7,12,13]<|.join 3 eU<|.i 3<|.z 2<|.po (.chk 3 1 2)<|.x 3 1 2<|.i 0<|.b .neq 2 0<|.ite 0 (.z 7<|.x 3 9 7<|.c 2<|.i 1<|.b .sub 3 0<|.c 0<|.z 0<|.x 1 13 0<|.c 0<|.sel [0,6,11,12,13]<|.cl 120 [(false,[0])] mu<|.z 7<|.po (.chk 3 6 7)<|.c 2<|.c 1<|.c 0<|.po (.set 3 6 7 0 [2,1,0])<|.jump 1 [5,6,0])<|.jump 1 [0,5,6])<|.l 12<|.i 0<|.b .gtr 1 0<|.ite 0 (.i 3<|.c 0<|.po (.e 35 8)<|.po (.e 9 1)<|.po (.e 9 1)<|.po (.e 9 1)<|.c 19<|.c 18<|.ret [(true,[4,13,3,2,1,0,19,18])])<|.c 9<|.po (.e 35 8)<|.po (.e 9 1)<|.po (.e 9 1)<|.po (.e 9 1)<|.c 18<|.c 17<|.ret [(true,[13,12,3,2,1,0,18,17])])<|.f<|.l 10<|.i 0<|.b .gtr 1 0<|.ite 0 (.i 3<|.c 0<|.po (.e 35 8)<|.po (.e 9 1)<|.po (.e 9 1)<|.po (.e 9 1)<|.c 17<|.c 16<|.ret [(true,[4,11,3,2,1,0,17,16])])<|.c 7<|.po (.e 35 8)<|.po (.e 9 1)<|.po (.e 9 1)<|.po (.e 9 1)<|.c 16<|.c 15<|.ret [(true,[11,10,3,2,1,0,16,15])]
def eW:UP:=.i 0<|.loop [0,6,1] fl
def fO:UP:=.i 0<|.i 0<|.i 0<|.sel [5,9,10]<|.join 3 eW<|.c 2<|.po (.emp 1)<|.ite 0 (.i 0<|.i 0<|.i 0<|.i 0<|.i 0<|.i 0<|.i 0<|.i 0<|.i 0<|.po (.mk 78 3 [])<|.jump 0 [5,4,0])<|.po (.e 78 3)<|.po (.flat 3)<|.po (.app 78 3 32 0 3)<|.i 0<|.i 0<|.i 0<|.i 0<|.i 0<|.i 0<|.i 0<|.i 0<|.i 0<|.po (.mk 78 3 [])<|.jump 0 [5,4,10]
theorem mt:aM Tryz.prog 99 Tryz.f99 bO xY xJ=some ([(true,8)],fO):=by kernel_rfl
def wU:List aQ:=[⟨3000020,2,⟨[aa 72 28,aa 71 25,aa 70 1,aa 34 24,aa 31 22,aa 20 21,aC 6 3 3 0,aa 5 12,aC 4 1 1 0,aC 2 0 0 0,(0,.p true [.d 0,.d 1,.d 2,.d 3,.d 4,.d 5,.d 6,.d 7]),aa 1 8],[(0,.var 0 35 [.d 0,.d 1,.d 2,.d 3,.d 4,.d 5,.d 6,.d 7]),(1,.var 1 35 [.d 9,.nil,.nil,.nil,.nil,.nil,.d 10,.d 11]),(3,.var 3 35 [.d 8,.own 4 4,.nil,.own 2 2,.nil,.nil,.d 15,.d 16]),(2,.row 2 9 1 13),(4,.row 4 78 3 29)],5,5,30,[(24,false),(22,false),(21,false),(12,false)]⟩,[⟨false,3,1,78,3⟩]⟩,⟨3000014,2,⟨[aa 53 33,aa 52 31,aa 51 1,aa 39 30,aa 38 28,aa 37 25,aa 36 2,aa 34 24,aa 31 22,aa 20 21,aC 6 3 3 0,aa 5 12,aC 4 1 1 0,aC 2 0 0 0,(0,.p true [.d 0,.d 1,.d 2,.d 3,.d 4,.d 5,.d 6,.d 7]),aa 1 8],[(0,.var 0 35 [.d 0,.d 1,.d 2,.d 3,.d 4,.d 5,.d 6,.d 7]),(1,.var 1 35 [.d 9,.nil,.nil,.nil,.nil,.nil,.d 10,.d 11]),(3,.var 3 35 [.d 8,.nil,.own 4 4,.own 2 2,.nil,.nil,.d 15,.d 16]),(2,.row 2 9 1 13),(4,.row 4 35 8 34)],5,5,35,[(30,false),(24,true),(22,false),(21,false),(12,false)]⟩,[]⟩,⟨3000009,2,⟨[aa 38 28,aa 37 25,aa 36 2,aa 34 24,aa 31 22,aa 20 21,aC 6 3 3 0,aa 5 12,aC 4 1 1 0,aC 2 0 0 0,(0,.p true [.d 0,.d 1,.d 2,.d 3,.d 4,.d 5,.d 6,.d 7]),aa 1 8],[(0,.var 0 35 [.d 0,.d 1,.d 2,.d 3,.d 4,.d 5,.d 6,.d 7]),(1,.var 1 35 [.d 9,.nil,.nil,.nil,.nil,.nil,.d 10,.d 11]),(3,.var 3 35 [.d 8,.nil,.own 4 4,.own 2 2,.nil,.nil,.d 15,.d 16]),(2,.row 2 9 1 13),(4,.row 4 35 8 29)],5,5,30,[(24,true),(22,false),(21,false),(12,false)]⟩,[⟨false,3,2,35,8⟩]⟩]
def xp:List (Nat×Nat×Bool×List Nat):=[(22,8,false,[]),(11,5,false,[])]
def ky:UP:=.b .lss 1 3<|.ite 0 (.z 2<|.x 3 10 2<|.i 0<|.i 0<|.s #[]<|.c 5<|.c 4<|.c 3<|.po (.mk 78 3 [[5,4,3]])<|.i 0<|.i 0<|.i 0<|.c 21<|.po (.e 35 8)<|.po (.e 9 1)<|.po (.e 9 1)<|.po (.e 9 1)<|.c 5<|.c 4<|.po (.mk 35 8 [[25,7,3,2,1,0,5,4]])<|.po (.app 35 8 144 16 0)<|.i 1<|.a 19 0<|.jump 1 [0,2])<|.t<|.c 10<|.po (.e 78 3)<|.po (.e 9 1)<|.po (.e 9 1)<|.c 11<|.c 10<|.c 3<|.ret [(true,[13,2,5,12,1,0,11,10]),(false,[3])]
def kv:UP:=.b .lss 1 4<|.ite 0 (.z 2<|.x 8 10 2<|.i 0<|.i 0<|.i 0<|.sel [3,4,5,6,7,8,9,10,12,13]<|.cl 71 [(true,[7,6,5,4,3,2,1,0])] cB<|.po (.mk 35 8 [[7,6,5,4,3,2,1,0]])<|.c 8<|.c 2<|.c 1<|.po (.mk 35 8 [[8,7,6,5,4,3,2,1]])<|.po (.app 35 8 144 18 0)<|.i 1<|.a 21 0<|.jump 0 [0,2])<|.l 11<|.i 0<|.sel [0,1,3,8,9,10,11,13,14]<|.loop [0,2] ky
def ld:UP:=.b .lss 1 4<|.ite 0 (.z 2<|.x 3 10 2<|.i 0<|.i 0<|.s #[]<|.c 5<|.c 4<|.c 3<|.c 17<|.sel [3,4,5,7,8,15,17]<|.cl 127 [(true,[2,1,0]),(false,[6]),(false,[5])] mu<|.po (.mk 78 3 [[2,1,0]])<|.c 3<|.c 2<|.c 1<|.po (.mk 78 3 [[3,2,1]])<|.po (.flat 0)<|.po (.app 78 3 32 8 0)<|.i 1<|.a 11 0<|.jump 0 [0,2])<|.t<|.c 10<|.po (.e 35 8)<|.po (.e 9 1)<|.po (.e 9 1)<|.c 11<|.c 10<|.c 3<|.ret [(true,[13,5,2,12,1,0,11,10]),(false,[3])]
def dU:UP:=.i 0<|.i 0<|.i 0<|.f<|.sel [4,5,6,7,8,9,10,11,12]<|.cl 86 [(false,[5])] la<|.i 0<|.i 0<|.i 0<|.i 0<|.i 0<|.i 0<|.i 5<|.e 16 0<|.ite 0 (.sel [5,6,8,9,10,11,12,13,14,15,16,17]<|.cl 71 [(true,[11,10,9,8,7,6,5,4])] cB<|.c 7<|.c 1<|.c 0<|.po (.mk 35 8 [[7,6,5,4,3,2,1,0]])<|.i 4<|.e 13 0<|.c 14<|.po (.e 78 3)<|.po (.e 9 1)<|.po (.e 9 1)<|.c 15<|.c 14<|.c 3<|.ret [(true,[17,2,5,16,1,0,15,14]),(false,[3])])<|.b .gtr 17 9<|.ite 0 (.i 0<|.i 0<|.i 0<|.f<|.c 3<|.po (.e 78 3)<|.po (.e 35 8)<|.po (.e 9 1)<|.po (.e 9 1)<|.po (.e 9 1)<|.c 7<|.c 6<|.c 5<|.ret [(true,[8,4,3,2,1,0,7,6]),(false,[5])])<|.i 4<|.e 11 0<|.ite 0 (.l 18<|.i 0<|.po (.e 35 8)<|.sel [0,1,2,11,12,14,15,21,22,23]<|.loop [1,0] kv)<|.l 19<|.i 0<|.po (.e 78 3)<|.sel [0,1,2,11,12,14,15,22,23]<|.loop [1,0] ld
theorem fS:aM Tryz.prog 117 Tryz.f117 bO wU xp=some ([(true,8),(false,1)],dU):=by kernel_rfl
def nY:List aQ:=[]
def n9:List (Nat×Nat×Bool×List Nat):=[(7,9,false,[])]
def fA:UP:=.s #[]<|.i 0<|.i 0<|.s #[]<|.po (.eqS false [.i,.i,.s] [6,5,4] [2,1,0])<|.ite 0 (.s #[78,65]<|.c 0<|.r 0)<|.sel [5,6,7]<|.cl 139 [(true,[2,1,0])] au<|.n 0<|.ite 0 (.s #[]<|.c 0<|.r 0)<|.i 1<|.e 4 0<|.ite 0 (.sel [6]<|.cl 141 [(false,[0])] au<|.c 0<|.r 0)<|.c 6<|.sel [5,6]<|.cl 141 [(false,[1])] au<|.s #[47]<|.a 1 0<|.c 0<|.c 3<|.cl 141 [(false,[3])] au<|.a 1 0<|.c 0<|.c 0<|.c 0<|.r 0
theorem ov:aM Tryz.prog 136 Tryz.f136 bO nY n9=some ([(true,3)],fA):=by kernel_rfl
def pk:List aQ:=[]
def pn:List (Nat×Nat×Bool×List Nat):=[]
def gK:UP:=.i 0<|.i 0<|.s #[]<|.cl 74 [(true,[7,6,5])] au<|.ite 0 (.t<|.t<|.c 10<|.c 9<|.c 8<|.ret [(true,[10,9,8])])<|.e 5 4<|.ite 0 (.t<|.c 10<|.c 9<|.c 8<|.ret [(true,[10,9,8])])<|.i 2<|.e 6 0<|.ite 0 (.c 11<|.c 10<|.c 9<|.ret [(true,[11,10,9])])<|.i 2<|.e 9 0<|.ite 0 (.sel [11,12,13]<|.cl 136 [(true,[2,1,0])] au<|.cl 115 [(false,[0])] mu<|.c 2<|.c 1<|.c 0<|.ret [(true,[2,1,0])])<|.i 1<|.e 14 0<|.ite 0 (.s #[84,82,85,69]<|.sel [0]<|.cl 115 [(false,[0])] mu<|.c 2<|.c 1<|.c 0<|.ret [(true,[2,1,0])])<|.s #[70,65,76,83,69]<|.sel [0]<|.cl 115 [(false,[0])] mu<|.c 2<|.c 1<|.c 0<|.ret [(true,[2,1,0])]
theorem pt:aM Tryz.prog 127 Tryz.f127 bO pk pn=some ([(true,3),(false,1),(false,1)],gK):=by kernel_rfl
def s5:List aQ:=[]
def tn:List (Nat×Nat×Bool×List Nat):=[]
def jh:UP:=.po (.mk 78 3 [])<|.po (.flat 1)<|.po (.app 78 3 32 0 1)<|.r 0
theorem sw:aM Tryz.prog 106 Tryz.f106 bO s5 tn=some ([(false,1)],jh):=by kernel_rfl
def sJ:List aQ:=[]
def s6:List (Nat×Nat×Bool×List Nat):=[]
def jw:UP:=.po (.mk 9 1 [])<|.po (.flat 1)<|.po (.app 9 1 16 0 1)<|.r 0
theorem sT:aM Tryz.prog 86 Tryz.f86 bO sJ s6=some ([(false,1)],jw):=by kernel_rfl
def ra:List aQ:=[⟨3000003,2,⟨[aa 28 27,aa 27 24,aa 26 2,aC 3 6 6 0,aC 2 1 1 0,aC 1 0 0 0,(0,.p true [.d 0,.d 1,.d 2,.d 3,.d 4,.d 5,.d 6,.d 7])],[(0,.var 0 35 [.d 0,.d 1,.d 2,.d 3,.d 4,.d 5,.d 6,.d 7]),(1,.var 1 35 [.d 8,.nil,.nil,.nil,.nil,.nil,.d 9,.d 10]),(6,.var 6 35 [.d 0,.own 2 2,.own 7 7,.own 3 3,.own 4 4,.own 5 5,.d 6,.d 7]),(5,.row 5 9 1 14),(4,.row 4 9 1 13),(3,.row 3 9 1 12),(7,.row 7 35 8 28),(2,.row 2 78 3 11)],8,8,29,[]⟩,[⟨false,6,2,35,8⟩]⟩]
def qD:List (Nat×Nat×Bool×List Nat):=[(5,5,false,[]),(1,20,false,[])]
def gE:UP:=.b .lss 1 4<|.ite 0 (.z 2<|.x 8 12 2<|.i 0<|.i 0<|.i 0<|.sel [3,4,5,6,7,8,9,10,12,13]<|.cl 71 [(true,[7,6,5,4,3,2,1,0])] cB<|.po (.mk 35 8 [[7,6,5,4,3,2,1,0]])<|.c 8<|.c 2<|.c 1<|.po (.mk 35 8 [[8,7,6,5,4,3,2,1]])<|.po (.app 35 8 144 18 0)<|.i 1<|.a 21 0<|.jump 0 [0,2])<|.c 13<|.c 11<|.c 10<|.ret [(true,[13,9,1,8,7,6,11,10])]
def ig:UP:=.i 0<|.i 0<|.i 0<|.c 10<|.cl 106 [(false,[9])] IB<|.sel [0,4,5,6,7,8,9,11]<|.cl 86 [(false,[5])] la<|.cl 86 [(false,[5])] la<|.cl 86 [(false,[5])] la<|.c 5<|.c 4<|.i 0<|.i 0<|.i 0<|.i 0<|.i 0<|.i 0<|.i 0<|.i 0<|.i 0<|.l 18<|.i 0<|.po (.e 35 8)<|.sel [0,1,2,12,13,14,15,16,17,21,22]<|.loop [1,0] gE
theorem rc:aM Tryz.prog 71 Tryz.f71 bO ra qD=some ([(true,8)],ig):=by kernel_rfl
def tp:List aQ:=[]
def sv:List (Nat×Nat×Bool×List Nat):=[]
def jz:UP:=.i 0<|.i 0<|.i 0<|.cl 110 [(false,[7])] au<|.ite 0 (.c 11<|.po (.e 9 1)<|.c 6<|.c 5<|.ret [(true,[12,11,10,0,8,7,6,5])])<|.c 11<|.c 5<|.c 4<|.ret [(true,[11,10,9,8,7,6,5,4])]
theorem s7:oK Tryz.prog 78 Tryz.f78 bO tp sv [(true,[none,some (78,3),some (35,8),some (9,1),some (9,1),some (9,1),none,none],true)]=some jz:=by kernel_rfl
def qz:List aQ:=[]
def qV:List (Nat×Nat×Bool×List Nat):=[]
def iN:UP:=.i 0<|.i 0<|.i 0<|.l 5<|.i 0<|.b .gtr 1 0<|.ite 0 (.sel [8,9,14,15,18,19,20,21]<|.cl 86 [(false,[1])] la<|.cl 86 [(false,[1])] la<|.c 9<|.c 5<|.c 4<|.ret [(true,[9,8,7,6,1,0,5,4])])<|.c 21<|.c 15<|.c 14<|.ret [(true,[21,20,19,18,17,16,15,14])]
theorem qx:oK Tryz.prog 76 Tryz.f76 bO qz qV [(true,[none,some (78,3),some (35,8),some (9,1),some (9,1),some (9,1),none,none],true),(true,[none,some (78,3),some (35,8),some (9,1),some (9,1),some (9,1),none,none],false)]=some iN:=by kernel_rfl
def od:List aQ:=[]
def oy:List (Nat×Nat×Bool×List Nat):=[(7,9,false,[])]
def fw:UP:=.s #[]<|.i 0<|.i 0<|.s #[]<|.po (.eqS false [.i,.i,.s] [6,5,4] [2,1,0])<|.ite 0 (.s #[78,65]<|.c 0<|.r 0)<|.sel [5,6,7]<|.cl 128 [(true,[2,1,0])] au<|.n 0<|.ite 0 (.s #[]<|.c 0<|.r 0)<|.i 1<|.e 4 0<|.ite 0 (.sel [6]<|.cl 130 [(false,[0])] au<|.c 0<|.r 0)<|.c 6<|.sel [5,6]<|.cl 130 [(false,[1])] au<|.s #[47]<|.a 1 0<|.c 0<|.c 3<|.cl 130 [(false,[3])] au<|.a 1 0<|.c 0<|.c 0<|.c 0<|.r 0
theorem oB:aM Tryz.prog 122 Tryz.f122 bO od oy=some ([(true,3)],fw):=by kernel_rfl
def Ch:List aQ:=[]
def Cq:List (Nat×Nat×Bool×List Nat):=[]
def ry:UP:=.i 0<|.i 0<|.s #[]<|.i 3<|.b .neq 7 0<|.ite 0 (.t<|.t<|.c 9<|.c 8<|.c 7<|.ret [(true,[9,8,7])])<|.i 3<|.e 10 0<|.ite 0 (.t<|.c 10<|.c 9<|.c 8<|.ret [(true,[10,9,8])])<|.i 0<|.i 0<|.s #[]<|.po (.eqS false [.i,.i,.s] [12,11,10] [2,1,0])<|.ite 0 (.c 13<|.c 12<|.c 11<|.ret [(true,[13,12,11])])<|.i 1<|.e 16 0<|.ite 0 (.s #[70,65,76,83,69]<|.s #[84,82,85,69]<|.c 1<|.c 0<|.po (.mk 9 1 [[1],[0]])<|.z 18<|.po (.chk 1 0 18)<|.x 1 0 18<|.sel [0]<|.cl 120 [(false,[0])] mu<|.c 2<|.c 1<|.c 0<|.ret [(true,[2,1,0])])<|.sel [13,14,15]<|.cl 122 [(true,[2,1,0])] au<|.cl 120 [(false,[0])] mu<|.c 2<|.c 1<|.c 0<|.ret [(true,[2,1,0])]
theorem Ct:aM Tryz.prog 101 Tryz.f101 bO Ch Cq=some ([(false,1),(false,1),(true,3)],ry):=by kernel_rfl
def xH:List aQ:=[⟨3000002,1,⟨[aa 3 12,aC 2 6 6 0,aC 1 5 5 0,(0,.p true [.d 0,.own 0 0,.own 1 1,.own 2 2,.own 3 3,.own 4 4,.d 6,.d 7])],[(4,.row 4 9 1 5),(3,.row 3 9 1 4),(2,.row 2 9 1 3),(1,.row 1 35 8 2),(0,.row 0 78 3 1),(5,.var 5 35 [.d 0,.own 0 0,.own 1 1,.own 2 2,.own 3 3,.own 4 4,.d 6,.d 7]),(6,.var 6 35 [.d 8,.nil,.nil,.nil,.nil,.nil,.d 9,.d 10])],7,7,13,[]⟩,[]⟩]
def wL:List (Nat×Nat×Bool×List Nat):=[]
def kR:UP:=.l 9<|.b .lss 1 0<|.ite 0 (.z 2<|.po (.chk 1 11 2)<|.x 1 11 2<|.s #[]<|.b .neq 1 0<|.ite 0 (.c 17<|.c 11<|.c 10<|.ret [(true,[17,16,15,14,13,12,11,10])])<|.i 1<|.a 6 0<|.jump 0 [0])<|.po (.mk 9 1 [])<|.c 15<|.c 9<|.c 8<|.ret [(true,[15,14,13,0,11,10,9,8])]
def lH:UP:=.i 0<|.i 0<|.i 0<|.i 0<|.loop [0] kR
theorem wK:oK Tryz.prog 97 Tryz.f97 bO xH wL [(true,[none,some (78,3),some (35,8),some (9,1),some (9,1),some (9,1),none,none],true)]=some lH:=by kernel_rfl
def ur:List aQ:=[⟨2000001,2,⟨[bF 3 0 0,aa 21 9,aa 13 8,aa 4 3,(2,.p false [.nil]),aa 0 0],[(0,.row 0 35 8 10)],1,1,11,[(8,true),(6,true)]⟩,[]⟩,⟨3000003,2,⟨[aa 4 3,bF 3 0 0,(2,.p false [.nil]),aa 0 0],[(0,.row 0 35 8 4)],1,1,5,[]⟩,[]⟩]
def v9:List (Nat×Nat×Bool×List Nat):=[]
def jN:UP:=.i 1<|.a 4 0<|.jump 0 [0,2]
def jY:UP:=.l 4<|.b .lss 2 0<|.ite 0 (.i 40<|.b .leq 4 0<|.ite 0 (.sel [4,5,8]<|.join 2 jN<|.z 1<|.x 8 2 1<|.i 3<|.cl 93 [(true,[8,7,6,5,4,3,2,1]),(false,[0])] au<|.n 0<|.ite 0 (.i 0<|.i 0<|.i 0<|.i (-1)<|.c 0<|.po (.e 78 3)<|.po (.e 35 8)<|.po (.e 9 1)<|.po (.e 9 1)<|.po (.e 9 1)<|.c 7<|.c 6<|.po (.mk 35 8 [[5,4,3,2,1,0,7,6]])<|.po (.app 35 8 144 21 0)<|.jump 1 [11,0])<|.z 12<|.x 8 13 12<|.sel [0,1,2,3,4,5,6,7,8,19]<|.cl 96 [(true,[7,6,5,4,3,2,1,0])] cB<|.c 7<|.c 1<|.c 0<|.po (.mk 35 8 [[7,6,5,4,3,2,1,0]])<|.po (.app 35 8 144 18 0)<|.jump 1 [18,0])<|.r 4)<|.f<|.r 3
def kA:UP:=.po (.mk 35 8 [])<|.i 0<|.loop [0,1] jY
theorem vU:aM Tryz.prog 92 Tryz.f92 bO ur v9=some ([(false,1)],kA):=by kernel_rfl
def yn:List aQ:=[]
def zp:List (Nat×Nat×Bool×List Nat):=[(1,26,false,[])]
def nJ:UP:=.i 0<|.i 0<|.i 0<|.c 10<|.po (.emp 9)<|.ite 0 (.sel [4,5,6,7,8,9,11]<|.cl 92 [(false,[5])] [(false,[some (35,8)],true)]<|.po (.emp 5)<|.ite 0 (.po (.emp 5)<|.ite 0 (.po (.emp 5)<|.ite 0 (.c 5<|.c 4<|.i 0<|.i 0<|.i 0<|.i 0<|.i 0<|.i 0<|.po (.mk 78 3 [])<|.po (.mk 9 1 [])<|.po (.mk 9 1 [])<|.po (.mk 9 1 [])<|.c 20<|.c 15<|.c 14<|.ret [(true,[20,3,13,2,1,0,15,14])])<|.po (.e 9 1)<|.po (.flat 7)<|.po (.app 9 1 16 0 7)<|.c 7<|.c 6<|.i 0<|.i 0<|.i 0<|.i 0<|.i 0<|.i 0<|.po (.mk 78 3 [])<|.po (.mk 9 1 [])<|.po (.mk 9 1 [])<|.po (.mk 9 1 [])<|.c 22<|.c 17<|.c 16<|.ret [(true,[22,3,15,2,1,10,17,16])])<|.po (.e 9 1)<|.po (.flat 7)<|.po (.app 9 1 16 0 7)<|.po (.emp 7)<|.ite 0 (.c 7<|.c 6<|.i 0<|.i 0<|.i 0<|.i 0<|.i 0<|.i 0<|.po (.mk 78 3 [])<|.po (.mk 9 1 [])<|.po (.mk 9 1 [])<|.po (.mk 9 1 [])<|.c 22<|.c 17<|.c 16<|.ret [(true,[22,3,15,2,11,0,17,16])])<|.po (.e 9 1)<|.po (.flat 9)<|.po (.app 9 1 16 0 9)<|.c 9<|.c 8<|.i 0<|.i 0<|.i 0<|.i 0<|.i 0<|.i 0<|.po (.mk 78 3 [])<|.po (.mk 9 1 [])<|.po (.mk 9 1 [])<|.po (.mk 9 1 [])<|.c 24<|.c 19<|.c 18<|.ret [(true,[24,3,17,2,13,10,19,18])])<|.po (.e 9 1)<|.po (.flat 7)<|.po (.app 9 1 16 0 7)<|.po (.emp 7)<|.ite 0 (.po (.emp 7)<|.ite 0 (.c 7<|.c 6<|.i 0<|.i 0<|.i 0<|.i 0<|.i 0<|.i 0<|.po (.mk 78 3 [])<|.po (.mk 9 1 [])<|.po (.mk 9 1 [])<|.po (.mk 9 1 [])<|.c 22<|.c 17<|.c 16<|.ret [(true,[22,3,15,12,1,0,17,16])])<|.po (.e 9 1)<|.po (.flat 9)<|.po (.app 9 1 16 0 9)<|.c 9<|.c 8<|.i 0<|.i 0<|.i 0<|.i 0<|.i 0<|.i 0<|.po (.mk 78 3 [])<|.po (.mk 9 1 [])<|.po (.mk 9 1 [])<|.po (.mk 9 1 [])<|.c 24<|.c 19<|.c 18<|.ret [(true,[24,3,17,14,1,10,19,18])])<|.po (.e 9 1)<|.po (.flat 9)<|.po (.app 9 1 16 0 9)<|.po (.emp 9)<|.ite 0 (.c 9<|.c 8<|.i 0<|.i 0<|.i 0<|.i 0<|.i 0<|.i 0<|.po (.mk 78 3 [])<|.po (.mk 9 1 [])<|.po (.mk 9 1 [])<|.po (.mk 9 1 [])<|.c 24<|.c 19<|.c 18<|.ret [(true,[24,3,17,14,11,0,19,18])])<|.po (.e 9 1)<|.po (.flat 11)<|.po (.app 9 1 16 0 11)<|.c 11<|.c 10<|.i 0<|.i 0<|.i 0<|.i 0<|.i 0<|.i 0<|.po (.mk 78 3 [])<|.po (.mk 9 1 [])<|.po (.mk 9 1 [])<|.po (.mk 9 1 [])<|.c 26<|.c 21<|.c 20<|.ret [(true,[26,3,19,16,13,10,21,20])])<|.po (.e 78 3)<|.po (.flat 11)<|.po (.app 78 3 32 0 11)<|.sel [0,6,7,8,9,10,11,13]<|.cl 92 [(false,[6])] [(false,[some (35,8)],true)]<|.po (.emp 6)<|.ite 0 (.po (.emp 6)<|.ite 0 (.po (.emp 6)<|.ite 0 (.c 6<|.c 5<|.i 0<|.i 0<|.i 0<|.i 0<|.i 0<|.i 0<|.po (.mk 78 3 [])<|.po (.mk 9 1 [])<|.po (.mk 9 1 [])<|.po (.mk 9 1 [])<|.c 21<|.c 16<|.c 15<|.ret [(true,[21,14,13,2,1,0,16,15])])<|.po (.e 9 1)<|.po (.flat 8)<|.po (.app 9 1 16 0 8)<|.c 8<|.c 7<|.i 0<|.i 0<|.i 0<|.i 0<|.i 0<|.i 0<|.po (.mk 78 3 [])<|.po (.mk 9 1 [])<|.po (.mk 9 1 [])<|.po (.mk 9 1 [])<|.c 23<|.c 18<|.c 17<|.ret [(true,[23,16,15,2,1,10,18,17])])<|.po (.e 9 1)<|.po (.flat 8)<|.po (.app 9 1 16 0 8)<|.po (.emp 8)<|.ite 0 (.c 8<|.c 7<|.i 0<|.i 0<|.i 0<|.i 0<|.i 0<|.i 0<|.po (.mk 78 3 [])<|.po (.mk 9 1 [])<|.po (.mk 9 1 [])<|.po (.mk 9 1 [])<|.c 23<|.c 18<|.c 17<|.ret [(true,[23,16,15,2,11,0,18,17])])<|.po (.e 9 1)<|.po (.flat 10)<|.po (.app 9 1 16 0 10)<|.c 10<|.c 9<|.i 0<|.i 0<|.i 0<|.i 0<|.i 0<|.i 0<|.po (.mk 78 3 [])<|.po (.mk 9 1 [])<|.po (.mk 9 1 [])<|.po (.mk 9 1 [])<|.c 25<|.c 20<|.c 19<|.ret [(true,[25,18,17,2,13,10,20,19])])<|.po (.e 9 1)<|.po (.flat 8)<|.po (.app 9 1 16 0 8)<|.po (.emp 8)<|.ite 0 (.po (.emp 8)<|.ite 0 (.c 8<|.c 7<|.i 0<|.i 0<|.i 0<|.i 0<|.i 0<|.i 0<|.po (.mk 78 3 [])<|.po (.mk 9 1 [])<|.po (.mk 9 1 [])<|.po (.mk 9 1 [])<|.c 23<|.c 18<|.c 17<|.ret [(true,[23,16,15,12,1,0,18,17])])<|.po (.e 9 1)<|.po (.flat 10)<|.po (.app 9 1 16 0 10)<|.c 10<|.c 9<|.i 0<|.i 0<|.i 0<|.i 0<|.i 0<|.i 0<|.po (.mk 78 3 [])<|.po (.mk 9 1 [])<|.po (.mk 9 1 [])<|.po (.mk 9 1 [])<|.c 25<|.c 20<|.c 19<|.ret [(true,[25,18,17,14,1,10,20,19])])<|.po (.e 9 1)<|.po (.flat 10)<|.po (.app 9 1 16 0 10)<|.po (.emp 10)<|.ite 0 (.c 10<|.c 9<|.i 0<|.i 0<|.i 0<|.i 0<|.i 0<|.i 0<|.po (.mk 78 3 [])<|.po (.mk 9 1 [])<|.po (.mk 9 1 [])<|.po (.mk 9 1 [])<|.c 25<|.c 20<|.c 19<|.ret [(true,[25,18,17,14,11,0,20,19])])<|.po (.e 9 1)<|.po (.flat 12)<|.po (.app 9 1 16 0 12)<|.c 12<|.c 11<|.i 0<|.i 0<|.i 0<|.i 0<|.i 0<|.i 0<|.po (.mk 78 3 [])<|.po (.mk 9 1 [])<|.po (.mk 9 1 [])<|.po (.mk 9 1 [])<|.c 27<|.c 22<|.c 21<|.ret [(true,[27,20,19,16,13,10,22,21])]
theorem zt:aM Tryz.prog 96 Tryz.f96 bO yn zp=some ([(true,8)],nJ):=by kernel_rfl
def vh:List aQ:=[]
def vF:List (Nat×Nat×Bool×List Nat):=[]
def kI:UP:=.f<|.i 3<|.cl 93 [(true,[9,8,7,6,5,4,3,2]),(false,[0])] au<|.ite 0 (.cl 94 [(true,[10,9,8,7,6,5,4,3])] au<|.i 200<|.b .leq 1 0<|.c 0<|.r 0)<|.f<|.c 0<|.r 0
theorem vl:aM Tryz.prog 59 Tryz.f59 bO vh vF=some ([(true,8)],kI):=by kernel_rfl
def wQ:List aQ:=[⟨3000003,2,⟨[aa 4 11,aa 3 12,aa 2 8,aC 1 0 0 0,(0,.p true [.d 0,.d 1,.d 2,.d 3,.d 4,.d 5,.d 6,.d 7])],[(0,.var 0 35 [.d 0,.d 1,.d 2,.d 3,.d 4,.d 5,.d 6,.d 7])],1,1,13,[]⟩,[]⟩]
def xD:List (Nat×Nat×Bool×List Nat):=[]
def ko:UP:=.l 4<|.b .lss 2 0<|.ite 0 (.z 3<|.x 8 6 3<|.sel [0,1,2,3,4,5,6,7,10,11]<|.cl 94 [(true,[7,6,5,4,3,2,1,0])] au<|.a 9 0<|.i 1<|.a 12 0<|.jump 0 [0,2])<|.c 2<|.r 2
def lG:UP:=.i 0<|.cl 95 [(true,[8,7,6,5,4,3,2,1])] au<|.i 0<|.sel [0,1,8]<|.loop [0,1] ko
theorem xR:aM Tryz.prog 94 Tryz.f94 bO wQ xD=some ([(true,8)],lG):=by kernel_rfl
def CC:List aQ:=[⟨3000019,1,⟨[aa 8 23,aa 132 21,aa 6 19,aa 127 17,aa 110 16,aa 87 14,aa 84 12,aa 49 11,aa 5 10,aa 4 9,aC 2 0 0 0,(0,.p true [.d 0,.d 1,.d 2,.d 3,.d 4,.d 5,.d 6,.d 7]),aa 1 8],[(0,.var 0 35 [.d 0,.d 1,.d 2,.d 3,.d 4,.d 5,.d 6,.d 7])],1,1,24,[(21,false),(17,false),(16,false),(14,false),(12,false),(11,false),(9,false)]⟩,[]⟩,⟨2000001,4,⟨[aa 169 22,aC 7 1 1 0,aa 132 21,aa 6 19,aa 127 17,aa 110 16,aa 87 14,aa 84 12,aa 49 11,aa 5 10,aa 4 9,aC 2 0 0 0,(0,.p true [.d 0,.d 1,.d 2,.d 3,.d 4,.d 5,.d 6,.d 7]),aa 1 8],[(0,.var 0 35 [.d 0,.d 1,.d 2,.d 3,.d 4,.d 5,.d 6,.d 7]),(1,.var 1 78 [.d 23,.d 24,.d 25])],2,2,26,[(21,true),(17,false),(16,false),(14,false),(12,false),(11,false),(9,false)]⟩,[]⟩,⟨3000013,1,⟨[aa 6 19,aa 127 17,aa 110 16,aa 87 14,aa 84 12,aa 49 11,aa 5 10,aa 4 9,aC 2 0 0 0,(0,.p true [.d 0,.d 1,.d 2,.d 3,.d 4,.d 5,.d 6,.d 7]),aa 1 8],[(0,.var 0 35 [.d 0,.d 1,.d 2,.d 3,.d 4,.d 5,.d 6,.d 7])],1,1,20,[(17,false),(16,false),(14,false),(12,false),(11,false),(9,false)]⟩,[]⟩,⟨10,1,⟨[aa 127 17,aa 110 16,aa 87 14,aa 84 12,aa 49 11,aa 5 10,aa 4 9,aC 2 0 0 0,(0,.p true [.d 0,.d 1,.d 2,.d 3,.d 4,.d 5,.d 6,.d 7]),aa 1 8],[(0,.var 0 35 [.d 0,.d 1,.d 2,.d 3,.d 4,.d 5,.d 6,.d 7])],1,1,18,[(16,false),(14,false),(12,false),(11,false),(9,false)]⟩,[]⟩,⟨4,1,⟨[aa 84 12,aa 49 11,aa 5 10,aa 4 9,aC 2 0 0 0,(0,.p true [.d 0,.d 1,.d 2,.d 3,.d 4,.d 5,.d 6,.d 7]),aa 1 8],[(0,.var 0 35 [.d 0,.d 1,.d 2,.d 3,.d 4,.d 5,.d 6,.d 7])],1,1,13,[(11,false),(9,false)]⟩,[]⟩,⟨2,1,⟨[aa 49 11,aa 5 10,aa 4 9,aC 2 0 0 0,(0,.p true [.d 0,.d 1,.d 2,.d 3,.d 4,.d 5,.d 6,.d 7]),aa 1 8],[(0,.var 0 35 [.d 0,.d 1,.d 2,.d 3,.d 4,.d 5,.d 6,.d 7])],1,1,12,[(9,false)]⟩,[]⟩]
def CQ:List (Nat×Nat×Bool×List Nat):=[]
def oI:UP:=.i 1<|.a 5 0<|.jump 0 [0]
def pa:UP:=.l 3<|.b .lss 1 0<|.ite 0 (.i 0<|.e 5 0<|.ite 0 (.t<|.f<|.c 0<|.r 0)<|.z 4<|.x 8 7 4<|.i 1<|.b .sub 15 0<|.sel [0,2,3,4,5,6,7,8,9,14]<|.cl 93 [(true,[8,7,6,5,4,3,2,1]),(false,[0])] au<|.n 0<|.ite 0 (.f<|.c 0<|.r 0)<|.i 1<|.a 12 0<|.jump 1 [0])<|.t<|.c 0<|.r 0
def pK:UP:=.l 6<|.b .lss 1 0<|.ite 0 (.sel [2,6,8,9]<|.join 4 oI<|.z 0<|.x 3 2 0<|.i 0<|.i 0<|.s #[]<|.sel [3,4,5,7,9]<|.cl 119 [(false,[4]),(true,[2,1,0])] au<|.n 0<|.ite 0 (.t<|.f<|.c 0<|.r 0)<|.l 5<|.i 0<|.b .gtr 1 0<|.ite 0 (.i 0<|.b .neq 7 0<|.ite 0 (.i 1<|.b .neq 9 0<|.ite 0 (.t<|.f<|.c 0<|.r 0)<|.l 12<|.i 1<|.sel [0,1,11,12,13]<|.cl 52 [(false,[4]),(false,[0]),(false,[1])] au<|.n 0<|.ite 0 (.f<|.c 0<|.r 0)<|.jump 1 [0,6,5,4])<|.f<|.jump 1 [0,10,9,8])<|.f<|.f<|.jump 1 [0,9,8,7])<|.i 0<|.sel [0,6,8]<|.loop [0] pa
def pV:UP:=.ite 0 (.f<|.c 0<|.r 0)<|.i 0<|.loop [0] pK
def pC:UP:=.ite 0 (.f<|.c 0<|.r 0)<|.i 5<|.e 13 0<|.ite 0 (.l 13<|.i 0<|.e 1 0<|.ite 0 (.l 14<|.i 0<|.e 1 0<|.ite 0 (.i (-999)<|.i 99999<|.sel [0,1,15,16]<|.cl 52 [(false,[3]),(false,[1]),(false,[0])] au<|.ite 0 (.i 0<|.i 99999<|.sel [0,1,5]<|.cl 52 [(false,[2]),(false,[1]),(false,[0])] au<|.c 0<|.r 0)<|.f<|.c 0<|.r 0)<|.f<|.f<|.c 0<|.r 0)<|.f<|.f<|.f<|.c 0<|.r 0)<|.i 0<|.e 15 0<|.ite 0 (.i 0<|.e 7 0<|.ite 0 (.l 14<|.i 0<|.e 1 0<|.c 0<|.r 0)<|.f<|.c 0<|.r 0)<|.sel [8,11,14,15,16]<|.join 1 pV<|.i 4<|.e 5 0<|.ite 0 (.l 5<|.i 0<|.b .gtr 1 0<|.jump 0 [0])<|.f<|.jump 0 [0]
def oS:UP:=.ite 0 (.f<|.c 0<|.r 0)<|.join 1 pC<|.i 5<|.b .neq 12 0<|.ite 0 (.i 0<|.b .neq 8 0<|.ite 0 (.t<|.t<|.t<|.jump 0 [0])<|.i 0<|.b .neq 9 0<|.ite 0 (.t<|.t<|.jump 0 [0])<|.i 2<|.b .neq 18 0<|.ite 0 (.l 14<|.i 0<|.b .gtr 1 0<|.ite 0 (.t<|.jump 0 [0])<|.i 4<|.b .neq 23 0<|.ite 0 (.l 22<|.i 0<|.b .gtr 1 0<|.jump 0 [0])<|.f<|.jump 0 [0])<|.f<|.i 4<|.b .neq 21 0<|.ite 0 (.l 20<|.i 0<|.b .gtr 1 0<|.jump 0 [0])<|.f<|.jump 0 [0])<|.f<|.i 2<|.b .neq 15 0<|.ite 0 (.l 11<|.i 0<|.b .gtr 1 0<|.ite 0 (.t<|.jump 0 [0])<|.i 4<|.b .neq 20 0<|.ite 0 (.l 19<|.i 0<|.b .gtr 1 0<|.jump 0 [0])<|.f<|.jump 0 [0])<|.f<|.i 4<|.b .neq 18 0<|.ite 0 (.l 17<|.i 0<|.b .gtr 1 0<|.jump 0 [0])<|.f<|.jump 0 [0]
def rt:UP:=.f<|.cl 95 [(true,[9,8,7,6,5,4,3,2])] au<|.join 1 oS<|.i 0<|.i 5<|.sel [0,1,2,7,8,9,12]<|.cl 52 [(false,[6]),(false,[1]),(false,[0])] au<|.n 0<|.ite 0 (.t<|.t<|.t<|.t<|.t<|.jump 0 [0])<|.i 40<|.b .gtr 5 0<|.ite 0 (.t<|.t<|.t<|.t<|.jump 0 [0])<|.l 9<|.i 0<|.b .neq 1 0<|.ite 0 (.l 12<|.b .neq 0 10<|.ite 0 (.t<|.t<|.t<|.jump 0 [0])<|.sel [12,13,14]<|.cl 118 [(false,[2])] au<|.n 0<|.ite 0 (.t<|.t<|.jump 0 [0])<|.i 3<|.cl 90 [(false,[4]),(false,[0])] au<|.n 0<|.ite 0 (.t<|.jump 0 [0])<|.i 20<|.sel [0,6]<|.cl 90 [(false,[1]),(false,[0])] au<|.n 0<|.jump 0 [0])<|.f<|.sel [11,12,13]<|.cl 118 [(false,[2])] au<|.n 0<|.ite 0 (.t<|.t<|.jump 0 [0])<|.i 3<|.cl 90 [(false,[4]),(false,[0])] au<|.n 0<|.ite 0 (.t<|.jump 0 [0])<|.i 20<|.sel [0,6]<|.cl 90 [(false,[1]),(false,[0])] au<|.n 0<|.jump 0 [0]
theorem CJ:aM Tryz.prog 93 Tryz.f93 bO CC CQ=some ([(true,8),(false,1)],rt):=by kernel_rfl
def Cb:List aQ:=[]
def BW:List (Nat×Nat×Bool×List Nat):=[]
def oH:UP:=.i 0<|.i 5<|.e 9 0<|.ite 0 (.i 1<|.c 0<|.r 0)<|.l 9<|.l 9<|.a 1 0<|.c 0<|.r 0
theorem B8:aM Tryz.prog 95 Tryz.f95 bO Cb BW=some ([(true,8)],oH):=by kernel_rfl
def wg:List aQ:=[⟨3000002,1,⟨[aa 7 4,aa 6 2,aa 5 0,aa 2 1,aa 0 0],[],0,0,5,[(1,false)]⟩,[]⟩]
def uf:List (Nat×Nat×Bool×List Nat):=[]
def jV:UP:=.b .lss 0 2<|.ite 0 (.z 1<|.x 1 5 1<|.s #[]<|.b .neq 1 0<|.ite 0 (.f<|.c 0<|.r 0)<|.i 1<|.a 5 0<|.jump 0 [0])<|.t<|.c 0<|.r 0
def kD:UP:=.f<|.l 1<|.i 0<|.loop [0] jV
theorem vP:aM Tryz.prog 110 Tryz.f110 bO wg uf=some ([(false,1)],kD):=by kernel_rfl
def se:List aQ:=[]
def sE:List (Nat×Nat×Bool×List Nat):=[]
def jR:UP:=.f<|.i 0<|.i 0<|.s #[]<|.po (.eqS false [.i,.i,.s] [6,5,4] [2,1,0])<|.c 0<|.r 0
theorem tk:aM Tryz.prog 74 Tryz.f74 bO se sE=some ([(true,3)],jR):=by kernel_rfl
def r9:List aQ:=[]
def tE:List (Nat×Nat×Bool×List Nat):=[]
def jo:UP:=.f<|.cl 74 [(true,[3,2,1])] au<|.ite 0 (.t<|.c 0<|.r 0)<|.i 1<|.e 6 0<|.ite 0 (.s #[]<|.e 5 0<|.ite 0 (.i 1<|.e 8 0<|.ite 0 (.i 0<|.e 11 0<|.ite 0 (.t<|.c 0<|.r 0)<|.i 1<|.e 13 0<|.c 0<|.r 0)<|.f<|.c 0<|.r 0)<|.f<|.f<|.c 0<|.r 0)<|.i 2<|.e 8 0<|.ite 0 (.sel [6,7,8]<|.cl 139 [(true,[2,1,0])] au<|.c 0<|.r 0)<|.i 3<|.e 10 0<|.ite 0 (.i 0<|.e 11 0<|.ite 0 (.i 1<|.e 12 0<|.ite 0 (.m 12<|.i 60<|.b .leq 1 0<|.c 0<|.r 0)<|.f<|.c 0<|.r 0)<|.f<|.f<|.c 0<|.r 0)<|.f<|.c 0<|.r 0
theorem sX:aM Tryz.prog 132 Tryz.f132 bO r9 tE=some ([(false,1),(true,3)],jo):=by kernel_rfl
def pT:List aQ:=[⟨3000004,1,⟨[aa 13 7,aa 12 5,aa 11 0,aa 10 4,aa 4 2,aa 0 0,aa 1 1],[],0,0,8,[(4,false),(2,false)]⟩,[]⟩]
def pu:List (Nat×Nat×Bool×List Nat):=[]
def fC:UP:=.b .lss 0 2<|.ite 0 (.z 1<|.x 1 4 1<|.s #[]<|.e 1 0<|.ite 0 (.t<|.t<|.f<|.c 0<|.r 0)<|.m 2<|.i 60<|.b .gtr 1 0<|.ite 0 (.t<|.f<|.c 0<|.r 0)<|.po (.cutL 1 10 none (some 7))<|.sel [0,6,8]<|.cl 104 [(false,[0]),(false,[1])] au<|.ite 0 (.f<|.c 0<|.r 0)<|.i 1<|.a 4 0<|.jump 0 [0])<|.t<|.c 0<|.r 0
def gQ:UP:=.f<|.l 2<|.b .gtr 0 2<|.ite 0 (.f<|.c 0<|.r 0)<|.l 4<|.i 0<|.sel [0,1,6]<|.loop [0] fC
theorem pI:aM Tryz.prog 131 Tryz.f131 bO pT pu=some ([(false,1),(false,1)],gQ):=by kernel_rfl
def yq:List aQ:=[]
def yW:List (Nat×Nat×Bool×List Nat):=[]
def nA:UP:=.f<|.i 0<|.i 0<|.s #[]<|.po (.eqS false [.i,.i,.s] [6,5,4] [2,1,0])<|.ite 0 (.t<|.c 0<|.r 0)<|.i 1<|.e 9 0<|.ite 0 (.i 1<|.e 9 0<|.ite 0 (.i 0<|.i 1<|.sel [0,1,11,13]<|.cl 52 [(false,[3]),(false,[1]),(false,[0])] au<|.ite 0 (.s #[]<|.e 4 0<|.c 0<|.r 0)<|.f<|.c 0<|.r 0)<|.f<|.f<|.c 0<|.r 0)<|.i 2<|.e 11 0<|.ite 0 (.sel [9,10,11]<|.cl 128 [(true,[2,1,0])] au<|.c 0<|.r 0)<|.i 3<|.e 13 0<|.ite 0 (.i 0<|.e 14 0<|.ite 0 (.i 1<|.e 15 0<|.ite 0 (.m 15<|.i 60<|.b .leq 1 0<|.c 0<|.r 0)<|.f<|.c 0<|.r 0)<|.f<|.f<|.c 0<|.r 0)<|.f<|.f<|.f<|.c 0<|.r 0
theorem yP:aM Tryz.prog 119 Tryz.f119 bO yq yW=some ([(false,1),(true,3)],nA):=by kernel_rfl
def vO:List aQ:=[⟨3000002,1,⟨[aa 5 4,aa 4 2,aa 0 0,aa 1 1],[],0,0,5,[(2,false)]⟩,[]⟩]
def uF:List (Nat×Nat×Bool×List Nat):=[]
def jP:UP:=.l 4<|.b .lss 1 0<|.ite 0 (.b .leq 2 5<|.ite 0 (.z 3<|.x 1 7 3<|.s #[]<|.e 1 0<|.ite 0 (.t<|.t<|.f<|.c 0<|.r 0)<|.z 6<|.x 1 10 6<|.m 0<|.i 60<|.b .gtr 1 0<|.ite 0 (.t<|.f<|.c 0<|.r 0)<|.z 10<|.x 1 14 10<|.sel [0,11,15]<|.cl 55 [(false,[2]),(false,[0])] au<|.b .lss 0 2<|.ite 0 (.f<|.c 0<|.r 0)<|.i 1<|.a 4 0<|.jump 0 [0])<|.l 7<|.b .leq 0 7<|.c 0<|.r 0)<|.f<|.l 7<|.b .leq 0 7<|.c 0<|.r 0
def kQ:UP:=.f<|.i 0<|.loop [0] jP
theorem ul:aM Tryz.prog 90 Tryz.f90 bO vO uF=some ([(false,1),(false,1)],kQ):=by kernel_rfl
def wA:List aQ:=[⟨2000001,2,⟨[aa 3 10,aa 19 11,aa 11 9,aa 4 6,aa 2 1,aa 0 0],[],0,0,12,[(9,true),(1,false)]⟩,[]⟩,⟨3000003,2,⟨[aa 4 6,aa 3 7,aa 2 1,aa 0 0],[],0,0,8,[(1,false)]⟩,[]⟩]
def wT:List (Nat×Nat×Bool×List Nat):=[]
def fq:UP:=.i 1<|.a 4 0<|.jump 0 [0,3]
def kL:UP:=.l 7<|.b .lss 2 0<|.ite 0 (.sel [2,3,9]<|.join 2 fq<|.z 1<|.x 1 2 1<|.m 0<|.i 60<|.b .gtr 1 0<|.ite 0 (.f<|.c 0<|.r 0)<|.ite 4 (.t<|.jump 1 [0,1])<|.z 5<|.x 1 6 5<|.s #[]<|.b .neq 1 0<|.jump 1 [0,3])<|.c 2<|.r 2
def mp:UP:=.f<|.l 1<|.i 0<|.e 1 0<|.i 0<|.loop [0,1] kL
theorem wS:aM Tryz.prog 118 Tryz.f118 bO wA wT=some ([(false,1)],mp):=by kernel_rfl
def wj:List aQ:=[]
def wq:List (Nat×Nat×Bool×List Nat):=[]
def lg:UP:=.f<|.b .neq 16 8<|.ite 0 (.f<|.c 0<|.r 0)<|.sel [2,3,4,5,6,7,8,10,11,12,13,14,15,16]<|.cl 39 [(false,[13]),(false,[6])] au<|.n 0<|.ite 0 (.f<|.c 0<|.r 0)<|.sel [2,3,4,5,6,7,9,10,11,12,13,14]<|.cl 40 [(false,[11]),(false,[5])] au<|.n 0<|.ite 0 (.f<|.c 0<|.r 0)<|.sel [2,3,4,5,6,8,9,10,11,12]<|.cl 41 [(false,[9]),(false,[4])] au<|.n 0<|.ite 0 (.f<|.c 0<|.r 0)<|.sel [2,3,4,5,7,8,9,10]<|.cl 41 [(false,[7]),(false,[3])] au<|.n 0<|.ite 0 (.f<|.c 0<|.r 0)<|.sel [2,3,4,6,7,8]<|.cl 41 [(false,[5]),(false,[2])] au<|.n 0<|.ite 0 (.f<|.c 0<|.r 0)<|.b .neq 6 3<|.ite 0 (.f<|.c 0<|.r 0)<|.b .neq 6 3<|.ite 0 (.f<|.c 0<|.r 0)<|.t<|.c 0<|.r 0
theorem vt:aM Tryz.prog 10 Tryz.f10 bO wj wq=some ([(true,8),(true,8)],lg):=by kernel_rfl
def sU:List aQ:=[⟨3000004,1,⟨[aa 5 7,aa 10 5,aa 4 2,aa 0 0,aa 1 1],[],0,0,8,[(5,false),(2,false)]⟩,[]⟩]
def tF:List (Nat×Nat×Bool×List Nat):=[(6,10,false,[])]
def iJ:UP:=.l 3<|.b .lss 1 0<|.ite 0 (.z 2<|.x 8 5 2<|.z 10<|.x 8 12 10<|.sel [0,1,2,3,4,5,6,7,8,9,10,11,12,13,14,15,18]<|.cl 10 [(true,[15,14,13,12,11,10,9,8]),(true,[7,6,5,4,3,2,1,0])] au<|.n 0<|.c 0<|.ite 0 (.f<|.c 0<|.r 0)<|.i 1<|.a 19 0<|.jump 0 [0])<|.t<|.c 0<|.r 0
def jA:UP:=.f<|.l 2<|.l 2<|.b .neq 1 0<|.ite 0 (.f<|.c 0<|.r 0)<|.i 0<|.sel [0,5,6]<|.loop [0] iJ
theorem rU:aM Tryz.prog 40 Tryz.f40 bO sU tF=some ([(false,1),(false,1)],jA):=by kernel_rfl
def uA:List aQ:=[]
def vM:List (Nat×Nat×Bool×List Nat):=[]
def kT:UP:=.i 0<|.sel [1,4,5,6,7,8]<|.cl 17 [(false,[5]),(false,[0])] au<|.i 0<|.b .lss 1 0<|.ite 0 (.i (-1)<|.c 0<|.r 0)<|.sel [2,4,5,6,7]<|.cl 18 [(false,[4]),(false,[0])] au<|.i 0<|.b .lss 1 0<|.ite 0 (.i (-1)<|.c 0<|.r 0)<|.sel [2,4,5,6]<|.cl 15 [(false,[3]),(false,[0])] au<|.i 0<|.b .lss 1 0<|.ite 0 (.i (-1)<|.c 0<|.r 0)<|.sel [2,4,5]<|.cl 15 [(false,[2]),(false,[0])] au<|.i 0<|.b .lss 1 0<|.ite 0 (.i (-1)<|.c 0<|.r 0)<|.sel [2,4]<|.cl 15 [(false,[1]),(false,[0])] au<|.i 0<|.b .lss 1 0<|.ite 0 (.i (-1)<|.c 0<|.r 0)<|.c 2<|.r 2
theorem vS:aM Tryz.prog 5 Tryz.f5 bO uA vM=some ([(true,8),(false,1)],kT):=by kernel_rfl
def tq:List aQ:=[⟨3000005,2,⟨[aa 5 8,aa 11 6,aa 1 9,aa 4 2,aa 0 0],[],0,0,10,[(6,false)]⟩,[]⟩]
def tK:List (Nat×Nat×Bool×List Nat):=[]
def iG:UP:=.l 4<|.b .lss 2 0<|.ite 0 (.z 3<|.x 8 6 3<|.sel [0,1,2,3,4,5,6,7,10,11]<|.cl 5 [(true,[7,6,5,4,3,2,1,0]),(false,[8])] au<|.i 0<|.b .lss 1 0<|.ite 0 (.i (-1)<|.c 0<|.r 0)<|.i 1<|.a 13 0<|.jump 0 [0,4])<|.c 2<|.r 2
def jk:UP:=.i 0<|.l 2<|.b .sub 2 0<|.i 0<|.b .lss 1 0<|.ite 0 (.i (-1)<|.c 0<|.r 0)<|.i 0<|.sel [0,3,7]<|.loop [0,1] iG
theorem tH:aM Tryz.prog 18 Tryz.f18 bO tq tK=some ([(false,1),(false,1)],jk):=by kernel_rfl
def uP:List aQ:=[]
def vQ:List (Nat×Nat×Bool×List Nat):=[]
def kP:UP:=.i 0<|.i 0<|.i 0<|.i 0<|.i 0<|.i 0<|.sel [6,7,8,9,10,11,12,13]<|.cl 29 [(false,[6])] IB<|.cl 30 [(false,[6])] [(false,[some (35,8)],true)]<|.cl 27 [(false,[6])] la<|.cl 27 [(false,[6])] la<|.sel [0,1,2,3,4,5,6,11]<|.cl 27 [(false,[6])] la<|.c 8<|.c 6<|.c 5<|.ret [(true,[8,4,3,2,1,0,6,5])]
theorem tX:aM Tryz.prog 8 Tryz.f8 bO uP vQ=some ([(true,8)],kP):=by kernel_rfl
def sM:List aQ:=[⟨3000003,2,⟨[aa 4 4,bF 3 0 0,(2,.p false [.nil]),aa 0 0],[(0,.row 0 35 8 5)],1,1,6,[]⟩,[]⟩]
def tA:List (Nat×Nat×Bool×List Nat):=[]
def iT:UP:=.l 5<|.b .lss 2 0<|.ite 0 (.z 3<|.x 8 7 3<|.sel [0,1,2,3,4,5,6,7,10,11]<|.cl 8 [(true,[7,6,5,4,3,2,1,0])] cB<|.z 17<|.po (.chk 8 16 17)<|.c 7<|.c 1<|.c 0<|.po (.set 8 16 17 0 [7,6,5,4,3,2,1,0])<|.i 1<|.a 19 0<|.jump 0 [0,2])<|.r 2
def jM:UP:=.l 0<|.po (.make 35 8 144 [.sc (.int .i64 0),.sl 0 1 [],.sl 0 1 [],.sl 0 1 [],.sl 0 1 [],.sl 0 1 [],.sc (.int .i64 0),.sc (.int .i64 0)] 0)<|.i 0<|.loop [0,1] iT
theorem tr:aM Tryz.prog 30 Tryz.f30 bO sM tA=some ([(false,1)],jM):=by kernel_rfl
def yB:List aQ:=[⟨3000004,1,⟨[aa 5 7,aa 10 5,aa 4 2,aa 0 0,aa 1 1],[],0,0,8,[(5,false),(2,false)]⟩,[]⟩]
def yC:List (Nat×Nat×Bool×List Nat):=[(6,9,false,[])]
def mr:UP:=.l 3<|.b .lss 1 0<|.ite 0 (.z 2<|.x 1 5 2<|.c 0<|.z 3<|.x 1 5 3<|.c 0<|.b .neq 1 0<|.c 0<|.ite 0 (.f<|.c 0<|.r 0)<|.i 1<|.a 6 0<|.jump 0 [0])<|.t<|.c 0<|.r 0
def nE:UP:=.f<|.l 2<|.l 2<|.b .neq 1 0<|.ite 0 (.f<|.c 0<|.r 0)<|.i 0<|.sel [0,5,6]<|.loop [0] mr
theorem zm:aM Tryz.prog 42 Tryz.f42 bO yB yC=some ([(false,1),(false,1)],nE):=by kernel_rfl
def tw:List aQ:=[⟨3000004,1,⟨[aa 5 7,aa 10 5,aa 4 2,aa 0 0,aa 1 1],[],0,0,8,[(5,false),(2,false)]⟩,[]⟩]
def rR:List (Nat×Nat×Bool×List Nat):=[(6,9,false,[])]
def ii:UP:=.l 3<|.b .lss 1 0<|.ite 0 (.z 2<|.x 1 5 2<|.c 0<|.z 3<|.x 1 5 3<|.c 0<|.b .neq 1 0<|.c 0<|.ite 0 (.f<|.c 0<|.r 0)<|.i 1<|.a 6 0<|.jump 0 [0])<|.t<|.c 0<|.r 0
def jJ:UP:=.f<|.l 2<|.l 2<|.b .neq 1 0<|.ite 0 (.f<|.c 0<|.r 0)<|.i 0<|.sel [0,5,6]<|.loop [0] ii
theorem sk:aM Tryz.prog 41 Tryz.f41 bO tw rR=some ([(false,1),(false,1)],jJ):=by kernel_rfl
def zu:List aQ:=[]
def yx:List (Nat×Nat×Bool×List Nat):=[]
def nS:UP:=.i 0<|.l 2<|.b .sub 2 0<|.i 0<|.b .lss 1 0<|.ite 0 (.i (-1)<|.c 0<|.r 0)<|.c 2<|.r 2
theorem zw:aM Tryz.prog 16 Tryz.f16 bO zu yx=some ([(false,1),(false,1)],nS):=by kernel_rfl
def si:List aQ:=[⟨3000005,2,⟨[aa 5 8,aa 11 6,aa 1 9,aa 4 2,aa 0 0],[],0,0,10,[(6,false)]⟩,[]⟩]
def sg:List (Nat×Nat×Bool×List Nat):=[]
def iE:UP:=.l 4<|.b .lss 2 0<|.ite 0 (.z 3<|.x 1 6 3<|.m 0<|.b .sub 4 0<|.i 0<|.b .lss 1 0<|.ite 0 (.i (-1)<|.c 0<|.r 0)<|.i 1<|.a 9 0<|.jump 0 [0,4])<|.c 2<|.r 2
def jW:UP:=.i 0<|.l 2<|.b .sub 2 0<|.i 0<|.b .lss 1 0<|.ite 0 (.i (-1)<|.c 0<|.r 0)<|.i 0<|.sel [0,3,7]<|.loop [0,1] iE
theorem rK:aM Tryz.prog 15 Tryz.f15 bO si sg=some ([(false,1),(false,1)],jW):=by kernel_rfl
def zh:List aQ:=[⟨3000003,2,⟨[aa 4 4,bF 3 0 0,(2,.p false [.nil]),aa 0 0],[(0,.row 0 3 1 5)],1,1,6,[]⟩,[]⟩]
def yL:List (Nat×Nat×Bool×List Nat):=[]
def lE:UP:=.l 5<|.b .lss 2 0<|.ite 0 (.z 3<|.x 1 7 3<|.z 4<|.po (.chk 1 3 4)<|.c 0<|.po (.set 1 3 4 0 [0])<|.i 1<|.a 6 0<|.jump 0 [0,2])<|.r 2
def nL:UP:=.l 0<|.po (.make 3 1 8 [.sc (.int .i64 0)] 0)<|.i 0<|.loop [0,1] lE
theorem zv:aM Tryz.prog 28 Tryz.f28 bO zh yL=some ([(false,1)],nL):=by kernel_rfl
def tj:List aQ:=[⟨3000003,2,⟨[aa 4 4,bF 3 0 0,(2,.p false [.nil]),aa 0 0],[(0,.row 0 9 1 5)],1,1,6,[]⟩,[]⟩]
def sL:List (Nat×Nat×Bool×List Nat):=[]
def iO:UP:=.l 5<|.b .lss 2 0<|.ite 0 (.z 3<|.x 1 7 3<|.z 4<|.po (.chk 1 3 4)<|.c 0<|.po (.set 1 3 4 0 [0])<|.i 1<|.a 6 0<|.jump 0 [0,2])<|.r 2
def jI:UP:=.l 0<|.po (.make 9 1 16 [.sc (.string ⟨#[]⟩)] 0)<|.i 0<|.loop [0,1] iO
theorem rY:aM Tryz.prog 27 Tryz.f27 bO tj sL=some ([(false,1)],jI):=by kernel_rfl
def zg:List aQ:=[⟨3000002,1,⟨[aa 3 3,aa 2 1,aa 0 0],[],0,0,4,[(1,false)]⟩,[]⟩]
def yQ:List (Nat×Nat×Bool×List Nat):=[]
def mc:UP:=.m 3<|.b .lss 1 0<|.ite 0 (.h 5 2<|.po (.k (.int .u8 33))<|.b .lss 1 0<|.ite 0 (.t<|.t<|.f<|.c 0<|.r 0)<|.h 8 5<|.po (.k (.int .u8 126))<|.b .gtr 1 0<|.ite 0 (.t<|.f<|.c 0<|.r 0)<|.h 11 8<|.po (.k (.int .u8 96))<|.e 1 0<|.ite 0 (.f<|.c 0<|.r 0)<|.i 1<|.a 12 0<|.jump 0 [0])<|.m 5<|.i 1<|.b .geq 1 0<|.ite 0 (.m 8<|.i 20<|.b .leq 1 0<|.c 0<|.r 0)<|.f<|.c 0<|.r 0
def nG:UP:=.f<|.i 0<|.loop [0] mc
theorem zk:aM Tryz.prog 67 Tryz.f67 bO zg yQ=some ([(false,1)],nG):=by kernel_rfl
def xK:List aQ:=[]
def xz:List (Nat×Nat×Bool×List Nat):=[]
def lZ:UP:=.f<|.cl 70 [(false,[2]),(false,[1])] au<|.i 0<|.b .geq 1 0<|.c 0<|.r 0
theorem xn:aM Tryz.prog 104 Tryz.f104 bO xK xz=some ([(false,1),(false,1)],lZ):=by kernel_rfl
def sK:List aQ:=[⟨3000002,1,⟨[aa 9 5,aa 8 3,aa 7 0,aa 4 2,aa 0 0,aa 1 1],[],0,0,6,[]⟩,[]⟩]
def tL:List (Nat×Nat×Bool×List Nat):=[]
def iw:UP:=.b .lss 0 2<|.ite 0 (.z 1<|.x 1 6 1<|.e 0 6<|.ite 0 (.c 3<|.r 3)<|.i 1<|.a 4 0<|.jump 0 [0])<|.i (-1)<|.c 0<|.r 0
def jZ:UP:=.i 0<|.l 2<|.i 0<|.loop [0] iw
theorem tG:aM Tryz.prog 70 Tryz.f70 bO sK tL=some ([(false,1),(false,1)],jZ):=by kernel_rfl
def yS:List aQ:=[⟨3000002,1,⟨[aa 3 3,aa 2 1,aa 0 0],[],0,0,4,[(1,false)]⟩,[]⟩]
def yV:List (Nat×Nat×Bool×List Nat):=[]
def lP:UP:=.m 3<|.b .lss 1 0<|.ite 0 (.h 5 2<|.po (.k (.int .u8 33))<|.b .lss 1 0<|.ite 0 (.t<|.t<|.f<|.c 0<|.r 0)<|.h 8 5<|.po (.k (.int .u8 126))<|.b .gtr 1 0<|.ite 0 (.t<|.f<|.c 0<|.r 0)<|.h 11 8<|.po (.k (.int .u8 96))<|.e 1 0<|.ite 0 (.f<|.c 0<|.r 0)<|.i 1<|.a 12 0<|.jump 0 [0])<|.m 5<|.i 1<|.i 20<|.sel [0,1,2]<|.cl 52 [(false,[2]),(false,[1]),(false,[0])] au<|.c 0<|.r 0
def nz:UP:=.f<|.i 0<|.loop [0] lP
theorem zB:aM Tryz.prog 51 Tryz.f51 bO yS yV=some ([(false,1)],nz):=by kernel_rfl
def yp:List aQ:=[⟨3000002,1,⟨[aa 5 4,aa 4 2,aa 0 0,aa 1 1],[],0,0,5,[]⟩,[]⟩]
def yr:List (Nat×Nat×Bool×List Nat):=[]
def l6:UP:=.l 4<|.b .lss 1 0<|.ite 0 (.z 2<|.x 1 6 2<|.e 0 6<|.ite 0 (.c 4<|.r 4)<|.i 1<|.a 5 0<|.jump 0 [0])<|.i (-1)<|.c 0<|.r 0
def nF:UP:=.i 0<|.i 0<|.loop [0] l6
theorem yR:aM Tryz.prog 55 Tryz.f55 bO yp yr=some ([(false,1),(false,1)],nF):=by kernel_rfl
def AO:List aQ:=[]
def AB:List (Nat×Nat×Bool×List Nat):=[]
def pQ:UP:=.f<|.cl 55 [(false,[2]),(false,[1])] au<|.i 0<|.b .geq 1 0<|.c 0<|.r 0
theorem BC:aM Tryz.prog 102 Tryz.f102 bO AO AB=some ([(false,1),(false,1)],pQ):=by kernel_rfl
def CE:List aQ:=[]
def CA:List (Nat×Nat×Bool×List Nat):=[]
def rA:UP:=.f<|.b .geq 3 2<|.ite 0 (.b .leq 4 2<|.c 0<|.r 0)<|.f<|.c 0<|.r 0
theorem CH:aM Tryz.prog 52 Tryz.f52 bO CE CA=some ([(false,1),(false,1),(false,1)],rA):=by kernel_rfl
section
variable {P:Program}{R:List (Bool×List DV)->Prop}{k:UP}{L:Lbl}{ρ:List DV}
theorem ae{n:Nat}{rest:UP}(hk:V P R k (L++[λvs=>V P R rest L (mE vs ρ)]) ρ):V P R (.join n rest k) L ρ:=⟨λvs=>V P R rest L (mE vs ρ),λvs _ h=>h,hk⟩
end
theorem aO{b c:Bool}(h:b=c):pd [(false,[.sc (.bool b)],true)] [(false,[.sc (.bool c)])]:=by subst h;rfl
theorem dz{k:IntKind}{b c:Int}(h:b=c):pd [(false,[.sc (.int k b)],true)] [(false,[.sc (.int k c)])]:=by subst h;rfl
theorem Gh{b c:ByteArray}(h:b=c):pd [(false,[.sc (.string b)],true)] [(false,[.sc (.string c)])]:=by subst h;rfl
def bg(p:Nat->Bool)(n:Nat):Bool:=(List.range n).all p
theorem C0(p:Nat->Bool):bg p 0=true:=rfl
theorem dR(p:Nat->Bool)(n:Nat):bg p (n+1)=(bg p n&&p n):=by simp[bg,List.range_succ]
theorem a9{p:Nat->Bool}{n:Nat}:bg p n=true↔∀i,i<n->p i=true:=by simp[bg]
theorem bB{p:Nat->Bool}{n i:Nat}(h:i<n)(hp:p i=false):bg p n=false:=by
 cases hb:bg p n
 ·rfl
 ·rw[a9.1 hb i h]at hp;cases hp
theorem bf{p:Nat->Bool}{i:Nat}(h:bg p i=true)(hp:p i=true):bg p (i+1)=true:=by rw[dR,h,hp];rfl
def Ek:List ByteArray->ByteArray->Nat->Int
 |[],_,_=>-1
 |x::l,s,k=>if x=s then(k:Int)else Ek l s (k+1)
def bU(l:List ByteArray)(s:ByteArray):Int:=Ek l s 0
def D5(l:List ByteArray)(s:ByteArray):Bool:=decide (0<=bU l s)
theorem Q3(s:ByteArray):∀(l:List ByteArray) (k m:Nat),(∀j,j<k->l[j]? ≠some s)->l[k]? =some s->Ek l s m=((m+k:Nat):Int):=by
 intro l
 induction l with
 |nil=>intro k m _ hk;simp at hk
 |cons x l ih=>
  intro k m h hk;unfold Ek
  cases k with
  |zero=>simp at hk;rw[if_pos hk];simp
  |succ k=>
   rw[if_neg (λe=>h 0 (by omega) (by simp[e])),ih k (m+1) (λj hj=>by have:=h (j+1) (by omega);simpa using this) (by simpa using hk)];omega
theorem J2(s:ByteArray):∀(l:List ByteArray) (m:Nat),(∀j,j<l.length->l[j]? ≠some s)->Ek l s m= -1:=by
 intro l
 induction l with
 |nil=>intro m _;rfl
 |cons x l ih=>
  intro m h;unfold Ek;rw[if_neg (λe=>h 0 (by simp) (by simp[e]))];exact ih _ (λj hj=>by have:=h (j+1) (by simpa using hj);simpa using this)
theorem KP(s:ByteArray):∀(l:List ByteArray) (m:Nat),(Ek l s m= -1/\s∉l)\/∃k:Nat,Ek l s m=((m+k:Nat):Int)/\l[k]? =some s/\∀j,j<k->l[j]? ≠some s:=by
 intro l
 induction l with
 |nil=>intro m;exact .inl ⟨rfl,by simp⟩
 |cons x l ih=>
  intro m;unfold Ek;by_cases e:x=s
  ·rw[if_pos e];exact .inr ⟨0,by simp,by simp[e],λj hj=>by omega⟩
  ·rw[if_neg e];rcases ih (m+1)with⟨h1,h2⟩|⟨k,h1,h2,h3⟩
   ·exact .inl ⟨h1,by simp[h2];exact λh=>e h.symm⟩
   ·refine .inr ⟨k+1,by rw[h1];omega,by simpa using h2,λj hj=>?_⟩
    cases j with
    |zero=>simpa using e
    |succ j=>simpa using h3 j (by omega)
theorem tM(l:List ByteArray)(s:ByteArray):(bU l s= -1/\s∉l)\/∃k:Nat,bU l s=k/\l[k]? =some s/\∀j,j<k->l[j]? ≠some s:=by
 rcases KP s l 0 with h|⟨k,h1,h2⟩
 ·exact .inl h
 ·exact .inr ⟨k,by unfold bU;rw[h1];simp,h2⟩
theorem wy(l:List ByteArray)(s:ByteArray): -1<=bU l s/\bU l s<l.length\/bU l s= -1:=by
 rcases tM l s with⟨h,_⟩|⟨k,h1,h2,_⟩
 ·exact .inr h
 ·have:=(List.getElem?_eq_some_iff.1 h2).1;exact .inl (by omega)
theorem FO(l:List ByteArray)(s:ByteArray):D5 l s=true↔s∈l:=by
 unfold D5;rcases tM l s with⟨h,h2⟩|⟨k,h1,h2,_⟩
 ·rw[h];simp[h2]
 ·rw[h1];simp;exact List.mem_of_getElem? h2
theorem getD_some{α:Type}[Inhabited α]{l:List α}{i:Nat}(h:i<l.length):l[i]? =some (l.getD i default):=by
 rw[List.getD_eq_getElem?_getD,List.getElem?_eq_getElem h];rfl
theorem DI{l:List ByteArray}{s:ByteArray}{i:Nat}(h:bg (λj=>!decide (l.getD j default=s)) i=true)(hi:i<l.length)(he:l.getD i default=s):bU l s=i:=by
 unfold bU;rw[Q3 s l i 0 (λj hj hx=>?_) (by rw[getD_some hi,he])]
 ·simp
 ·have:=a9.1 h j hj;rw[List.getD_eq_getElem?_getD,hx]at this;simp at this
theorem AZ{l:List ByteArray}{s:ByteArray}(h:bg (λj=>!decide (l.getD j default=s)) l.length=true):bU l s= -1:=by
 refine J2 s l 0 λj hj hx=>?_
 have:=a9.1 h j hj;rw[List.getD_eq_getElem?_getD,hx]at this;simp at this
theorem JQ{l:List ByteArray}{m:Nat}(h:∀x∈l,x.size<=m)(i:Nat):(l.getD i default).size<=m:=by
 rw[List.getD_eq_getElem?_getD]
 cases hi:l[i]? with
 |none=>exact Nat.zero_le _
 |some x=>exact h x (List.mem_of_getElem? hi)
theorem vR{l:List Int}{m:Int}(h0:0<=m)(h:∀x∈l,x<=m)(i:Nat):l.getD i default<=m:=by
 rw[List.getD_eq_getElem?_getD]
 cases hi:l[i]? with
 |none=>exact h0
 |some x=>exact h x (List.mem_of_getElem? hi)
def ny(s:ByteArray)(i:Nat):Bool:=decide (33<=m8 s i)&&(decide (m8 s i<=126)&& !decide (m8 s i=96))
def nB(s:ByteArray):Bool:=bg (ny s) s.size&&decide (1<=s.size/\s.size<=20)
theorem lM{s:ByteArray}{i:Nat}(h:i<s.size)(hp:ny s i=false):nB s=false:=by unfold nB;rw[bB h hp];rfl
theorem qf(a:Nat):BitVec.ofInt 64 (a:Int)=BitVec.ofNat 64 a:=by simp
theorem TX{a b:Nat}(ha:a<2^63):IntKind.i64.wrap ((BitVec.ofInt 64 (a:Int) &&& BitVec.ofInt 64 (b:Int)).toNat:Nat)=((a &&& b:Nat):Int):=by
 have h1:(BitVec.ofInt 64 (a:Int) &&& BitVec.ofInt 64 (b:Int)).toNat=a &&& b:=by
  rw[qf,qf,BitVec.toNat_and,BitVec.toNat_ofNat,BitVec.toNat_ofNat,<-Nat.and_mod_two_pow];have:a &&& b<=a:=Nat.and_le_left;exact Nat.mod_eq_of_lt (by omega)
 rw[h1];have:a &&& b<=a:=Nat.and_le_left;exact zE (by omega) (by omega)
theorem Xe{a b:Nat}(ha:a<2^63)(hb:b<2^63):IntKind.i64.wrap ((BitVec.ofInt 64 (a:Int) ||| BitVec.ofInt 64 (b:Int)).toNat:Nat)=((a ||| b:Nat):Int):=by
 have h0:a ||| b<2^63:=Nat.or_lt_two_pow ha hb
 have h1:(BitVec.ofInt 64 (a:Int) ||| BitVec.ofInt 64 (b:Int)).toNat=a ||| b:=by
  rw[qf,qf,BitVec.toNat_or,BitVec.toNat_ofNat,BitVec.toNat_ofNat,<-Nat.or_mod_two_pow];exact Nat.mod_eq_of_lt (by omega)
 rw[h1];exact zE (by omega) (by omega)
theorem Sw{c:Bool}{a b:Nat}(ha:a<2^63):cA .and c (some (.sc (.int .i64 (a:Int)))) (some (.sc (.int .i64 (b:Int))))=some [.sc (.int .i64 ((a &&& b:Nat):Int))]:=by
 simp only[cA,kh,dK,if_true,zx];exact congrArg (λz=>some [DV.sc (.int .i64 z)]) (TX ha)
theorem Yu{c:Bool}{a b:Nat}(ha:a<2^63)(hb:b<2^63):cA .or c (some (.sc (.int .i64 (a:Int)))) (some (.sc (.int .i64 (b:Int))))=some [.sc (.int .i64 ((a ||| b:Nat):Int))]:=by
 simp only[cA,kh,dK,if_true,zx];exact congrArg (λz=>some [DV.sc (.int .i64 z)]) (Xe ha hb)
theorem Ss{c:Bool}{k:IntKind}{a b:Nat}(hb:b<=64):cA .shr c (some (.sc (.int .i64 (a:Int)))) (some (.sc (.int k (b:Int))))=some [.sc (.int .i64 ((a / 2^b:Nat):Int))]:=by
 have h1:¬(b:Int)<0:=by omega
 simp only[cA,kh,dK,if_neg h1,zx,IntKind.bits,Int.toNat_natCast,Nat.min_eq_left hb];have h2:(2:Int)^b=((2^b:Nat):Int):=by simp
 rw[h2,Int.fdiv_eq_ediv_of_nonneg _ (Int.natCast_nonneg _)];rfl
theorem WY{c:Bool}{k:IntKind}{a b:Nat}(hb:b<=64)(h:a*2^b<2^63):cA .shl c (some (.sc (.int .i64 (a:Int)))) (some (.sc (.int k (b:Int))))=some [.sc (.int .i64 ((a*2^b:Nat):Int))]:=by
 have h1:¬(b:Int)<0:=by omega
 have h2:(a:Int)*2^b=((a*2^b:Nat):Int):=by simp
 simp only[cA,kh,dK,if_neg h1,zx,IntKind.bits,Int.toNat_natCast,Nat.min_eq_left hb,h2];rw[zE (by omega) (by omega)]
theorem Ta{c:Bool}{k:IntKind}{b:Nat}(hb:b<=62):cA .shl c (some (.sc (.int .i64 1))) (some (.sc (.int k (b:Int))))=some [.sc (.int .i64 ((2^b:Nat):Int))]:=by
 have hp:2^b<=2^62:=Nat.pow_le_pow_right (by decide) hb;have:=@WY c k 1 b (by omega) (by omega)
 rwa [Nat.one_mul]at this
theorem Wf{c:Bool}{a b:Int}(h0:0<=a)(ha:a<9223372036854775808)(h1:0<=b)(hb:b<9223372036854775808):cA .or c (some (.sc (.int .i64 a))) (some (.sc (.int .i64 b)))=some [.sc (.int .i64 ((a.toNat ||| b.toNat:Nat):Int))]:=by
 obtain⟨m,rfl⟩:=Int.eq_ofNat_of_zero_le h0;obtain⟨n,rfl⟩:=Int.eq_ofNat_of_zero_le h1;exact Yu (by omega) (by omega)
theorem To{c:Bool}{a b:Int}(h0:0<=a)(ha:a<9223372036854775808)(h1:0<=b):cA .and c (some (.sc (.int .i64 a))) (some (.sc (.int .i64 b)))=some [.sc (.int .i64 ((a.toNat &&& b.toNat:Nat):Int))]:=by
 obtain⟨m,rfl⟩:=Int.eq_ofNat_of_zero_le h0;obtain⟨n,rfl⟩:=Int.eq_ofNat_of_zero_le h1;exact Sw (by omega)
theorem Wg{n:Nat}(h:n<9223372036854775808):IntKind.u64.wrap (n:Int)=n:=by
 simp only[IntKind.wrap,IntKind.bits,IntKind.signed];simp;omega
theorem Oh{z:Int}(h:0<=z)(h2:z<256):IntKind.u8.wrap z=z:=by
 simp only[IntKind.wrap,IntKind.bits,IntKind.signed];simp;omega
theorem Zm{i:Nat}:((i:Int)-1).toNat=i-1:=by omega
theorem Y6{i:Nat}(h:1<=i):(i:Int)-1=((i-1:Nat):Int):=by omega
def vV(n:Nat):Nat:=if h:n=0 then 0 else n % 2+vV (n / 2)
 termination_by n
 decreasing_by omega
theorem xm:vV 0=0:=by rw[vV];simp
theorem Aq{n:Nat}(h:n≠0):vV n=n % 2+vV (n / 2):=by rw[vV,dif_neg h]
theorem zG(n:Nat):vV n<=n:=by
 induction n using Nat.strongRecOn with
 |_ n ih=>
  by_cases h:n=0
  ·subst h;rw[xm];exact Nat.le_refl _
  ·rw[Aq h];have:=ih (n / 2) (by omega);omega
theorem Nc{c:Bool}{s t:ByteArray}:cA .leq c (some (.sc (.string s))) (some (.sc (.string t)))=some [.sc (.bool (Op.bytesLess s.toList t.toList||decide (s=t)))]:=by simp[cA,kh,v8,zx]
theorem L7{c:Bool}{s t:ByteArray}:cA .geq c (some (.sc (.string s))) (some (.sc (.string t)))=some [.sc (.bool (!Op.bytesLess s.toList t.toList))]:=by simp[cA,kh,v8,zx]
end Go.Proofs.YtliknccmjjncbaaGreat
namespace Go.Proofs.YtliknccmjjncbaaGreat
open Go.RowKit
set_option maxRecDepth 100000
def bG(s:ByteArray):List DV:=[.sc (.string s)]
def ea(n:Int):List DV:=[.sc (.int .i64 n)]
def aq(l:List ByteArray):DV:=.sl 9 1 (l.map bG)
def aZ(l:List Int):DV:=.sl 3 1 (l.map ea)
theorem Lg{t:Nat}{l:List ByteArray}{kd:IntKind}{z:Int}(h:0<=z)(h1:z<l.length):cc 1 (some (.sl t 1 (l.map bG))) (some (.sc (.int kd z)))=some [.sc (.string (l.getD z.toNat default))]:=lR (λ_=>rfl) h h1
theorem Cm{t:Nat}{l:List Int}{kd:IntKind}{z:Int}(h:0<=z)(h1:z<l.length):cc 1 (some (.sl t 1 (l.map ea))) (some (.sc (.int kd z)))=some [.sc (.int .i64 (l.getD z.toNat default))]:=lR (λ_=>rfl) h h1
theorem YA{t:Nat}{l:List ByteArray}{kd:IntKind}{z:Int}{s:ByteArray}(h:0<=z)(h1:z<l.length):Ac 1 0 (some (.sl t 1 (l.map bG))) (some (.sc (.int kd z))) (some [.sc (.string s)])=some [.sl t 1 ((l.set z.toNat s).map bG)]:=by
 rw[l9 (e:=bG) (λ_=>rfl) h h1 rfl,List.map_set];rfl
theorem YW{t:Nat}{l:List Int}{kd:IntKind}{z n:Int}(h:0<=z)(h1:z<l.length):Ac 1 0 (some (.sl t 1 (l.map ea))) (some (.sc (.int kd z))) (some [.sc (.int .i64 n)])=some [.sl t 1 ((l.set z.toNat n).map ea)]:=by
 rw[l9 (e:=ea) (λ_=>rfl) h h1 rfl,List.map_set];rfl
theorem T3{t k:Nat}{l:List ByteArray}:pi (some (.sl t k (l.map bG)))=some []:=tD λ_=>rfl
theorem Uo{t k:Nat}{l:List Int}:pi (some (.sl t k (l.map ea)))=some []:=tD λ_=>rfl
theorem NP{t:Nat}{s:ByteArray}:pi (some (.sl t 1 [[.sc (.string s)]]))=some []:=rfl
theorem Nr{t:Nat}{kd:IntKind}{n:Int}:pi (some (.sl t 1 [[.sc (.int kd n)]]))=some []:=rfl
theorem Nf(l:List ByteArray)(s:ByteArray):l.map bG++[[.sc (.string s)]]=(l++[s]).map bG:=by rw[List.map_append];rfl
theorem MQ(l:List Int)(n:Int):l.map ea++[[.sc (.int .i64 n)]]=(l++[n]).map ea:=by rw[List.map_append];rfl
attribute[go_sem] Nc L7 Ta Wf To Ss Wg Oh Zm Lg Cm YA YW T3 Uo NP Nr Nf MQ
theorem pq(t:Nat)(l:List ByteArray)(s:ByteArray)(hl:l.length<=100000000000):aB Tryz.prog 70 [(false,[.sl t 1 (l.map bG)]),(false,[.sc (.string s)])] [(false,[.sc (.int .i64 (bU l s))],true)]:=by
 refine ah Tryz.func70 tG rfl ?_;simp only[jZ];simp(disch:=first|omega|(simp only[ax];omega)|simp only[av,Nat.reduceAdd]) only[go_sem,true_and];refine lp (λi:Nat=>[.sc (.int .i64 i)]) (λi=>i<=l.length/\bg (λj=>!decide (l.getD j default=s)) i=true) (λi=>l.length-i) 0 rfl ⟨by omega,rfl⟩ ?_;rintro i ⟨hi,hb⟩;simp only[iw]
 repeat' (first|(with_reducible first|refine ae ?_|refine ac ‹_› rfl ?_|refine ab ‹_› rfl ?_|refine ak (λhbr=>?_) λhbr=>?_)|simp(disch:=first|omega|(simp only[ax];omega)|simp only[av,Nat.reduceAdd]) only[go_sem,Lg,uv])
 ·rw[DI hb (by omega) ‹_›];rfl
 ·exact⟨i+1,rfl,⟨by omega,bf hb (by simpa using‹¬l.getD i default=s›)⟩,by omega⟩
 ·obtain rfl:i=l.length:=by omega
  rw[AZ hb];rfl
theorem wP(t:Nat)(l:List ByteArray)(s:ByteArray)(hl:l.length<=100000000000):aB Tryz.prog 104 [(false,[.sl t 1 (l.map bG)]),(false,[.sc (.string s)])] [(false,[.sc (.bool (D5 l s))],true)]:=by
 have h:=pq t l s hl;refine ah Tryz.func104 xn rfl ?_;simp only[lZ]
 repeat' (first|(with_reducible first|refine ae ?_|refine ac ‹_› rfl ?_|refine ab ‹_› rfl ?_|refine ak (λhbr=>?_) λhbr=>?_)|simp(disch:=first|omega|(simp only[ax];omega)|simp only[av,Nat.reduceAdd]) only[go_sem,true_and])
 rfl
theorem Be(s:ByteArray)(hs:s.size<=100000000000):aB Tryz.prog 67 [(false,[.sc (.string s)])] [(false,[.sc (.bool (nB s))],true)]:=by
 refine ah Tryz.func67 zk rfl ?_;simp only[nG];simp(disch:=first|omega|(simp only[ax];omega)|simp only[av,Nat.reduceAdd]) only[go_sem,true_and];refine lp (λi:Nat=>[.sc (.int .i64 i)]) (λi=>i<=s.size/\bg (ny s) i=true) (λi=>s.size-i) 0 rfl ⟨by omega,rfl⟩ ?_;rintro i ⟨hi,hb⟩;simp only[mc]
 repeat' (first|(with_reducible first|refine ae ?_|refine ac ‹_› rfl ?_|refine ab ‹_› rfl ?_|refine ak (λhbr=>?_) λhbr=>?_)|simp(disch:=first|omega|(simp only[ax];omega)|simp only[av,Nat.reduceAdd]) only[go_sem,uv])
 ·rw[lM (i:=i) (by omega) (by simp[ny];omega)];rfl
 ·rw[lM (i:=i) (by omega) (by simp[ny];omega)];rfl
 ·rw[lM (i:=i) (by omega) (by simp[ny];omega)];rfl
 ·exact⟨i+1,rfl,⟨by omega,bf hb (by simp[ny];omega)⟩,by omega⟩
 ·obtain rfl:i=s.size:=by omega
  refine aO ?_;unfold nB;rw[hb,Bool.true_and,Bool.eq_iff_iff];simp;omega
 ·obtain rfl:i=s.size:=by omega
  refine aO ?_;unfold nB;rw[hb,Bool.true_and,Bool.eq_iff_iff];simp;omega
theorem Ip(x lo hi:Int):aB Tryz.prog 52 [(false,[.sc (.int .i64 x)]),(false,[.sc (.int .i64 lo)]),(false,[.sc (.int .i64 hi)])] [(false,[.sc (.bool (decide (lo<=x/\x<=hi)))],true)]:=by
 refine ah Tryz.func52 CH rfl ?_;simp only[rA]
 repeat' (first|(with_reducible first|refine ae ?_|refine ac ‹_› rfl ?_|refine ab ‹_› rfl ?_|refine ak (λhbr=>?_) λhbr=>?_)|simp(disch:=first|omega|(simp only[ax];omega)|simp only[av,Nat.reduceAdd]) only[go_sem,true_and])
 all_goals (refine aO ?_;rw[Bool.eq_iff_iff];simp;omega)
theorem uQ(t:Nat)(l:List ByteArray)(s:ByteArray)(hl:l.length<=100000000000):aB Tryz.prog 55 [(false,[.sl t 1 (l.map bG)]),(false,[.sc (.string s)])] [(false,[.sc (.int .i64 (bU l s))],true)]:=by
 refine ah Tryz.func55 yR rfl ?_;simp only[nF];simp(disch:=first|omega|(simp only[ax];omega)|simp only[av,Nat.reduceAdd]) only[go_sem,true_and];refine lp (λi:Nat=>[.sc (.int .i64 i)]) (λi=>i<=l.length/\bg (λj=>!decide (l.getD j default=s)) i=true) (λi=>l.length-i) 0 rfl ⟨by omega,rfl⟩ ?_;rintro i ⟨hi,hb⟩;simp only[l6]
 repeat' (first|(with_reducible first|refine ae ?_|refine ac ‹_› rfl ?_|refine ab ‹_› rfl ?_|refine ak (λhbr=>?_) λhbr=>?_)|simp(disch:=first|omega|(simp only[ax];omega)|simp only[av,Nat.reduceAdd]) only[go_sem,Lg,uv])
 ·rw[DI hb (by omega) ‹_›];rfl
 ·exact⟨i+1,rfl,⟨by omega,bf hb (by simpa using‹¬l.getD i default=s›)⟩,by omega⟩
 ·obtain rfl:i=l.length:=by omega
  rw[AZ hb];rfl
theorem PQ(t:Nat)(l:List ByteArray)(s:ByteArray)(hl:l.length<=100000000000):aB Tryz.prog 102 [(false,[.sl t 1 (l.map bG)]),(false,[.sc (.string s)])] [(false,[.sc (.bool (D5 l s))],true)]:=by
 have h:=uQ t l s hl;refine ah Tryz.func102 BC rfl ?_;simp only[pQ]
 repeat' (first|(with_reducible first|refine ae ?_|refine ac ‹_› rfl ?_|refine ab ‹_› rfl ?_|refine ak (λhbr=>?_) λhbr=>?_)|simp(disch:=first|omega|(simp only[ax];omega)|simp only[av,Nat.reduceAdd]) only[go_sem,true_and])
 rfl
theorem Au(s:ByteArray)(hs:s.size<=100000000000):aB Tryz.prog 51 [(false,[.sc (.string s)])] [(false,[.sc (.bool (nB s))],true)]:=by
 have h:=Ip s.size 1 20;refine ah Tryz.func51 zB rfl ?_;simp only[nz];simp(disch:=first|omega|(simp only[ax];omega)|simp only[av,Nat.reduceAdd]) only[go_sem,true_and];refine lp (λi:Nat=>[.sc (.int .i64 i)]) (λi=>i<=s.size/\bg (ny s) i=true) (λi=>s.size-i) 0 rfl ⟨by omega,rfl⟩ ?_;rintro i ⟨hi,hb⟩;simp only[lP]
 repeat' (first|(with_reducible first|refine ae ?_|refine ac ‹_› rfl ?_|refine ab ‹_› rfl ?_|refine ak (λhbr=>?_) λhbr=>?_)|simp(disch:=first|omega|(simp only[ax];omega)|simp only[av,Nat.reduceAdd]) only[go_sem,uv])
 ·rw[lM (i:=i) (by omega) (by simp[ny];omega)];rfl
 ·rw[lM (i:=i) (by omega) (by simp[ny];omega)];rfl
 ·rw[lM (i:=i) (by omega) (by simp[ny];omega)];rfl
 ·exact⟨i+1,rfl,⟨by omega,bf hb (by simp[ny];omega)⟩,by omega⟩
 ·obtain rfl:i=s.size:=by omega
  refine aO ?_;unfold nB;rw[hb,Bool.true_and,Bool.eq_iff_iff];simp;omega
open Go.RowKit Go.ChangeShapes Go.WideShapes Go.Deep
theorem Rn{n:Int}(h:(Lit.int .i64 n).wf=true):BU n:=by
 exact bounds_i64 h
def Lb{α:Type}(e:α->List DV)(Ok:α->Prop)(P:Program)(t:TypeId):Prop:=
 ∀(H:Type) (enc:TypeId×Value->H) (w:World) (base:Nat) (spare:Nat->Bool) (held:Bool) (fuel:Nat) (cs:List Value) (x:DataW H×List MemPlace),
  DataW.trod enc P w base spare held fuel t cs=some x->∃a:α,aL w (· <w.heap.size) cs (e a)/\Ok a
section
variable {P:Program}{t:TypeId}
theorem qk(ht:P.underlying t=some (.int .i64)):Lb (λn:Int=>[.sc (.int .i64 n)]) BU P t:=by
 intro H enc w base spare held fuel cs x h;obtain⟨n,rfl,-,hn⟩:=DataW.trod_int ht h;exact⟨n,.sc trivial .nil,Rn hn⟩
theorem Ew(ht:P.underlying t=some .string):Lb (λs:ByteArray=>[.sc (.string s)]) (λs=>s.size<=9223372036854775807) P t:=by
 intro H enc w base spare held fuel cs x h;obtain⟨s,rfl,-,hs⟩:=DataW.trod_string ht h;exact⟨s,.sc trivial .nil,hs⟩
theorem Le(ht:P.underlying t=some .bool):Lb (λb:Bool=>[.sc (.bool b)]) (λ_=>True) P t:=by
 intro H enc w base spare held fuel cs x h;obtain⟨s,rfl,-⟩:=DataW.trod_bool ht h;exact⟨s,.sc trivial .nil,trivial⟩
theorem KD{w:World}{A:Nat->Prop}{α:Type}{e:α->List DV}(a:Nat->α)(cs:Nat->List Value):∀n,(∀i,i<n->aL w A (cs i) (e (a i)))->aL w A ((List.range n).map cs).flatten (((List.range n).map a).map e).flatten:=by
 intro n
 induction n with
 |zero=>intro _;exact .nil
 |succ n ih=>
  intro h;simp only[List.range_succ,List.map_append,List.map_cons,List.map_nil,List.flatten_append,List.flatten_cons,List.flatten_nil,List.append_nil];exact(ih λi hi=>h i (by omega)).app (h n (by omega))
theorem BZ{w:World}{α:Type}{e:α->List DV}{Ok:α->Prop}{k:Nat}(te:TypeId)(hk:0<k)(hl:∀a,(e a).length=k){a:Addr}{len cap base:Nat}(hle:len<=cap)(hm:cap<=9223372036854775807)
 (hi:∀i,i<len->∃cs',w.cells? base (a.add (i*k)) k=some cs'/\∃y,aL w (· <w.heap.size) cs' (e y)/\Ok y):
 ∃l:List α,aL w (· <w.heap.size) [.slice (some a) len cap] [.sl te k (l.map e)]/\l.length<=9223372036854775807/\∀x∈l,Ok x:=by
 rcases Nat.eq_zero_or_pos len with h0|h0
 ·subst h0;exact⟨[],.sl0 hm .nil,by simp,by simp⟩
 ·have hch:∀i,i<len->∃p:α×List Value,aL w (· <w.heap.size) p.2 (e p.1)/\Ok p.1/\∀j,j<k->w.cell? (a.add (i*k+j))=p.2[j]?:=by
   intro i hil;obtain⟨cs',hcs,y,hR,hOk⟩:=hi i hil;obtain⟨-,hcl,hat⟩:=World.cells?_some hcs;exact⟨(y,cs'),hR,hOk,λj hj=>by rw[<-ME];exact hat j hj⟩
  have hdef:∃p:α×List Value,True:=⟨(hch 0 h0).choose,trivial⟩;obtain⟨p0,-⟩:=hdef
  have hch2:∀i,∃p:α×List Value,i<len->aL w (· <w.heap.size) p.2 (e p.1)/\Ok p.1/\∀j,j<k->w.cell? (a.add (i*k+j))=p.2[j]?:=by
   intro i;by_cases h:i<len
   ·obtain⟨p,hp⟩:=hch i h;exact⟨p,λ_=>hp⟩
   ·exact⟨p0,λh'=>(h h').elim⟩
  obtain⟨f,hf⟩:=Classical.axiomOfChoice hch2
  have hspot:a.spot=none:=by
   have hcl:(f 0).2.length=k:=by rw[(hf 0 h0).1.len,hl]
   have hc0:=(hf 0 h0).2.2 0 hk;rw[List.getElem?_eq_getElem (by omega)]at hc0
   cases hs:a.spot with
   |none=>rfl
   |some q=>
    unfold World.cell? Addr.add at hc0;simp[hs]at hc0;split at hc0<;>simp at hc0
  obtain⟨b,off,sp⟩:=a;simp only at hspot;subst hspot
  have hadd:∀j,(⟨b,off,none⟩:Addr).add j=⟨b,off+j,none⟩:=by
   intro j;unfold Addr.add;split
   ·next h=>rw[h];rfl
   ·rfl
  have hlen:∀c∈((List.range len).map λi=>(f i).2),c.length=k:=by
   intro c hc;obtain⟨i,hi,rfl⟩:=List.mem_map.1 hc;rw[(hf i (List.mem_range.1 hi)).1.len,hl]
  have hR:=KD (w:=w) (A:=(· <w.heap.size)) (e:=e) (λi=>(f i).1) (λi=>(f i).2) len (λi hi=>(hf i hi).1)
  have hat:At w b off ((List.range len).map λi=>(f i).2).flatten:=by
   intro j u hu
   have hjl:j<len*k:=by
    have:=(List.getElem?_eq_some_iff.1 hu).1;rw[cO hlen]at this;simpa using this
   have hi:j / k<len:=Nat.div_lt_of_lt_mul (by rw[Nat.mul_comm];exact hjl);have h3:=(hf _ hi).2.2 (j % k) (Nat.mod_lt _ hk);rw[Nat.mul_comm,Nat.div_add_mod,hadd]at h3;rw[h3];have hg:((List.range len).map λi=>(f i).2)[j / k]? =some (f (j / k)).2:=by simp[List.getElem?_map,List.getElem?_range hi]
   have hfa:=tO hlen hg
   have:((((List.range len).map λi=>(f i).2).flatten.drop (j / k*k)).take k)[j % k]? =some u:=by
    rw[List.getElem?_take,if_pos (Nat.mod_lt _ hk),List.getElem?_drop,Nat.mul_comm,Nat.div_add_mod];exact hu
   rw[hfa]at this;exact this
  have hcell0:w.cell? ⟨b,off,none⟩≠none:=by
   have hcl:(f 0).2.length=k:=by rw[(hf 0 h0).1.len,hl]
   have hc0:=(hf 0 h0).2.2 0 hk;rw[List.getElem?_eq_getElem (by omega),hadd]at hc0;simp only[Nat.zero_mul,Nat.add_zero]at hc0;rw[hc0];simp
  refine⟨(List.range len).map λi=>(f i).1,.sl (A:=(· <w.heap.size)) ?_ (by simp) h0 hle hm hk (by intro c hc;obtain⟨x,_,rfl⟩:=List.mem_map.1 hc;exact hl x) hR hat .nil,?_,?_⟩
  ·apply Classical.byContradiction;intro hb;apply hcell0;have hn:w.heap[b]? =none:=by simp;omega
   simp[World.cell?,hn]
  ·simp;omega
  ·intro x hx;obtain⟨i,hi,rfl⟩:=List.mem_map.1 hx;exact(hf i (List.mem_range.1 hi)).2.1
theorem xl{α:Type}{e:α->List DV}{Ok:α->Prop}{el:TypeId}{k:Nat}(te:TypeId)(ht:P.underlying t=some (.slice el))(hc:P.cellsOf el=k)(hk:0<k)(hl:∀a,(e a).length=k)(ho:Lb e Ok P el):
 Lb (λl:List α=>[.sl te k (l.map e)]) (λl=>l.length<=9223372036854775807/\∀x∈l,Ok x) P t:=by
 intro H enc w base spare held fuel cs x h;rcases open_slice ht h with⟨rfl,-⟩|⟨a,len,cap,m,n,D,Pl,rfl,hb,hle,hm,hmm,hx,hi⟩
 ·exact⟨[],.sl0 (Nat.zero_le _) .nil,by simp,by simp⟩
 ·rw[hc]at hi;have hlm:len<=m:=by rw[hmm];split<;>omega
  exact BZ te hk hl hle hm λi hil=>by
   obtain⟨cs',hcs,htr⟩:=hi i (by omega);exact⟨cs',hcs,ho H enc w base spare held n cs' _ htr⟩
def Vl{α:Type}(F:Nat)(e:α->List DV)(Ok:α->Prop)(P:Program)(t:TypeId):Prop:=
 ∀(H:Type) (enc:TypeId×Value->H) (w:World) (base:Nat) (spare:Nat->Bool) (held:Bool) (fuel:Nat) (cs:List Value) (x:DataW H×List MemPlace),fuel<F->
  DataW.trod enc P w base spare held fuel t cs=some x->∃a:α,aL w (· <w.heap.size) cs (e a)/\Ok a
theorem HT{α:Type}{F:Nat}{e:α->List DV}{Ok:α->Prop}{el:TypeId}{k:Nat}(te:TypeId)(ht:P.underlying t=some (.slice el))(hc:P.cellsOf el=k)(hk:0<k)(hl:∀a,(e a).length=k)(ho:Vl F e Ok P el):
 Vl F (λl:List α=>[.sl te k (l.map e)]) (λl=>l.length<=9223372036854775807/\∀x∈l,Ok x) P t:=by
 intro H enc w base spare held fuel cs x hF h;rcases DataW.trod_slice ht h with⟨rfl,-⟩|⟨a,len,cap,elems,rest,n,hn,rfl,-,hb,hle,hm,hlen,hel,-⟩
 ·exact⟨[],.sl0 (Nat.zero_le _) .nil,by simp,by simp⟩
 ·rw[hc]at hel;refine BZ (base:=base) te hk hl hle hm λi hil=>?_
  have:=hel i hil;rw[List.getElem?_eq_getElem (by omega)]at this;obtain⟨cs',h1,h2⟩:=Option.bind_eq_some_iff.1 this;exact⟨cs',h1,ho H enc w base spare held n cs' _ (by omega) h2⟩
theorem GM{H:Type}{enc:TypeId×Value->H}{w:World}{base:Nat}{spare:Nat->Bool}{held:Bool}{fuel:Nat}{cs:List Value}{x:DataW H×List MemPlace}{fs:Array Field}
 (ht:P.underlying t=some (.struct fs)) (h:DataW.trod enc P w base spare held fuel t cs=some x):
 cs.length=P.cellsOf t/\∃n,n<fuel/\∀(j:Nat) (f:Field),fs[j]? =some f->∃y:DataW H×List MemPlace,DataW.trod enc P w base spare held n f.type ((cs.drop f.offset).take (P.cellsOf f.type))=some y:=by
 obtain⟨ys,n,hn,hy,hlen,hyl,hf⟩:=DataW.trod_struct ht h;refine⟨hlen,n,by omega,λj f hj=>?_⟩;have hjl:j<fs.size:=(Array.getElem?_eq_some_iff.1 hj).1;exact⟨ys[j]'(by omega),by rw[hf j f hj];exact List.getElem?_eq_getElem (by omega)⟩
theorem Dq{H:Type}{enc:TypeId×Value->H}{w:World}{base:Nat}{spare:Nat->Bool}{held:Bool}{fuel:Nat}{cs:List Value}{x:DataW H×List MemPlace}{fs:Array Field}
 (ht:P.underlying t=some (.struct fs)) (h:DataW.trod enc P w base spare held fuel t cs=some x):
 cs.length=P.cellsOf t/\∃n,∀(j:Nat) (f:Field),fs[j]? =some f->∃y:DataW H×List MemPlace,DataW.trod enc P w base spare held n f.type ((cs.drop f.offset).take (P.cellsOf f.type))=some y:=by
 obtain⟨ys,n,hn,hy,hlen,hyl,hf⟩:=DataW.trod_struct ht h;refine⟨hlen,n,λj f hj=>?_⟩;have hjl:j<fs.size:=(Array.getElem?_eq_some_iff.1 hj).1;exact⟨ys[j]'(by omega),by rw[hf j f hj];exact List.getElem?_eq_getElem (by omega)⟩
theorem cr{w:World}{A:Nat->Prop}{cs:List Value}{o k:Nat}{d ds:List DV}(h:aL w A ((cs.drop o).take k) d)(r:aL w A (cs.drop (o+k)) ds):aL w A (cs.drop o) (d++ds):=by
 have:=h.app r
 rwa [<-List.drop_drop,List.take_append_drop]at this
theorem cT{w:World}{A:Nat->Prop}{cs:List Value}{o o' c k:Nat}{d:List DV}(h:aL w A ((cs.drop o).take c) d)(ho:o=o')(hc:c=k):aL w A ((cs.drop o').take k) d:=by subst ho hc;exact h
theorem BX{w:World}{A:Nat->Prop}{cs:List Value}{c k:Nat}(h:cs.length=c)(hc:c=k):aL w A (cs.drop k) []:=by
 subst hc;rw[List.drop_of_length_le (by omega)];exact .nil
theorem IQ{α:Type}{e:α->List DV}{Ok:α->Prop}(ho:Lb e Ok P t){fs:Array Field}(ht:P.underlying t=some (.struct fs)){H:Type}{enc:TypeId×Value->H}{w:World}{base b:Nat}{spare:Nat->Bool}{held:Bool}{v:Value}{d:DataW H}{p:List MemPlace}
 (h:DataW.Trod enc P w b spare held t v d p) (ok:Value.okWide P w .any base t v):∃a,EJ w (· <w.heap.size) v (true,e a)/\Ok a:=by
 obtain⟨cs,rfl,-⟩:=okWide_struct ht ok;obtain⟨fuel,hf⟩:=h;obtain⟨a,hr,hk⟩:=ho H enc w b spare held fuel _ _ hf;exact⟨a,⟨cs.toList,by simp,hr⟩,hk⟩
end
theorem Jz{P:Program}{f:FuncId}{args:List (Bool×List DV)}{v:Value}(h:aB P f args [(false,[.sc v],true)]){w:World}{vs:List Value}(ha:dg w (· <w.heap.size) vs args):
 Calls P f vs.toArray w λe w'=>e=.returned v/\Below w.heap.size w w':=by
 refine(h.2 w (· <w.heap.size) vs (λ_ h=>h) ha).mono ?_
 rintro e w' ⟨u,rfl,⟨us,fs,h1,h2,h3,-,h4⟩,hb⟩;refine⟨?_,hb⟩;have h1:us=[u]:=h1;subst h1
 match fs,h3 with
 |[f'],_=>
  obtain⟨vals,e1,e2⟩:=h4 0 u _ f' rfl rfl rfl;have e1:vals=[u]:=e1;subst e1;have e2:aR w' w.heap.size [u] [.sc v] f':=e2;rw[(aL.scOf e2.rep).1]
end Go.Proofs.YtliknccmjjncbaaGreat
namespace Go.Proofs.YtliknccmjjncbaaGreat
open Go.RowKit
def JN(left:Int)(wt:Nat):Int:=if(wt:Int)<=left then left-wt else -1
theorem dl{left:Int}{wt:Nat}(h:(wt:Int)<=left):JN left wt=left-wt:=if_pos h
theorem bS{left:Int}{wt:Nat}(h:left<wt):JN left wt= -1:=if_neg (by omega)
def cE{α:Type}(l:List α)(k:Nat)(z:α):List α:=l.take k++List.replicate (l.length-k) z
theorem CU{α:Type}{l:List α}{k:Nat}{z:α}(h:k<=l.length):(cE l k z).length=l.length:=by simp[cE];omega
theorem CX{α:Type}{l:List α}{k:Nat}{z:α}(h:k<l.length):(cE l k z)[k]? =some z:=by
 unfold cE;rw[List.getElem?_append_right (by simp;omega),List.length_take,Nat.min_eq_left (by omega),Nat.sub_self,List.getElem?_replicate,if_pos (by omega)]
theorem Ds{α:Type}{l:List α}{k:Nat}{x z:α}(h:l[k]? =some x):(cE l k z).set k x=cE l (k+1) z:=by
 have hk:k<l.length:=(List.getElem?_eq_some_iff.1 h).1;apply List.ext_getElem?;intro j;rw[List.getElem?_set];unfold cE;by_cases hj:k=j
 ·subst hj;rw[if_pos rfl,if_pos (by simp;omega),List.getElem?_append_left (by simp;omega)];rw[List.getElem?_take,if_pos (by omega),h]
 ·rw[if_neg hj];by_cases hlt:j<k
  ·rw[List.getElem?_append_left (by simp;omega),List.getElem?_append_left (by simp;omega),List.getElem?_take,List.getElem?_take,if_pos hlt,if_pos (by omega)]
  ·rw[List.getElem?_append_right (by simp;omega),List.getElem?_append_right (by simp;omega)];simp only[List.length_take,List.getElem?_replicate];have e1:(j-min k l.length<l.length-k)↔(j-min (k+1) l.length<l.length-(k+1)):=by omega
   by_cases h2:j-min k l.length<l.length-k
   ·rw[if_pos h2,if_pos (e1.1 h2)]
   ·rw[if_neg h2,if_neg (λh=>h2 (e1.2 h))]
theorem DH{α:Type}(l:List α)(z:α):cE l l.length z=l:=by simp[cE]
set_option maxRecDepth 100000
def du{α:Type}(f:α->Nat):List α->Nat
 |[]=>0
 |x::l=>f x+du f l
theorem Dc{α:Type}(f:α->Nat)(l m:List α):du f (l++m)=du f l+du f m:=by
 induction l with
 |nil=>simp[du]
 |cons x l ih=>simp only[List.cons_append,du,ih];omega
theorem Ih{α:Type}[Inhabited α](f:α->Nat){l:List α}{i:Nat}(h:i<l.length):du f (l.take (i+1))=du f (l.take i)+f (l.getD i default):=by
 rw[List.take_succ_eq_append_getElem h,Dc,List.getD_eq_getElem?_getD,List.getElem?_eq_getElem h];simp[du]
theorem MA{α:Type}(f:α->Nat)(l:List α)(i:Nat):du f (l.take i)<=du f l:=by
 have:=Dc f (l.take i) (l.drop i);rw[List.take_append_drop]at this;omega
theorem Ka{α:Type}(f:α->Nat){l:List α}{x:α}(h:x∈l):f x<=du f l:=by
 induction l with
 |nil=>cases h
 |cons y l ih=>rcases List.mem_cons.1 h with rfl|h
               ·simp[du]
               ·have:=ih h;simp only[du];omega
theorem aK{α:Type}[Inhabited α]{l:List α}{i:Nat}(h:i<l.length):l.getD i default∈l:=by
 rw[List.getD_eq_getElem?_getD,List.getElem?_eq_getElem h];exact List.getElem_mem h
theorem R7{α β:Type}(l:List α)(e:α->β)(z:β):List.replicate l.length z=cE (l.map e) 0 z:=by simp[cE]
theorem sf{α β:Type}(l:List α)(e:α->β)(z:β):cE (l.map e) l.length z=l.map e:=by have:=DH (l.map e) z;rwa [List.length_map]at this
theorem GQ{α:Type}[Inhabited α]{e:α->List DV}{l:List α}{t k i:Nat}{kd:IntKind}{z ds:List DV}(hd:ds=e (l.getD i default))(hz:z.length=k)(he:∀x,(e x).length=k)(h:i<l.length):
 Ac k 0 (some (.sl t k (cE (l.map e) i z))) (some (.sc (.int kd (i:Int)))) (some ds)=some [.sl t k (cE (l.map e) (i+1) z)]:=by
 subst hd;have h1:(l.map e)[i]? =some (e (l.getD i default)):=by rw[List.getElem?_map,getD_some h];rfl
 rw[SA (e:=z) (by omega) (by rw[he];omega) (by rw[Int.toNat_natCast];exact CX (by simpa using h)),Int.toNat_natCast]
 have h2:plug 0 (e (l.getD i default)) z=e (l.getD i default):=by
  unfold plug;simp only[List.take_zero,List.nil_append,Nat.zero_add];rw[List.drop_of_length_le (by rw[he,hz];exact Nat.le_refl _),List.append_nil]
 rw[h2,Ds h1]
theorem G3{α:Type}{e:α->List DV}{l:List α}{t k i:Nat}{kd:IntKind}{z:List DV}(h:i<l.length):Er k (some (.sl t k (cE (l.map e) i z))) (some (.sc (.int kd (i:Int))))=some []:=
 RW (by omega) (by rw[CU (by simp;omega)];simp;omega)
theorem Jf{α:Type}{e:α->List DV}{l:List α}{el k b:Nat}{zz:List DV}(h1:l.length<=1000000000)(hb:b<=140):BP el k b zz (some (.sc (.int .i64 (l.length:Int))))=some [.sl el k (cE (l.map e) 0 zz)]:=by
 rw[OV (by omega) (by omega) hb,<-R7,Int.toNat_natCast]
def dt(l:List ByteArray):Nat:=l.length+du ByteArray.size l
def Kr(l:List ByteArray):Prop:=l.length<=9223372036854775807/\∀s∈l,s.size<=9223372036854775807
def V2(l:List Int):Prop:=l.length<=9223372036854775807/\∀n∈l,BU n
theorem b9{l:List ByteArray}{n:Nat}(h:dt l<=n):l.length<=n:=by unfold dt at h;omega
theorem KN{l:List ByteArray}{n:Nat}(h:dt l<=n):∀s∈l,s.size<=n:=λs hs=>by have:=Ka ByteArray.size hs;unfold dt at h;omega
theorem xO{F:List ByteArray}{i:Nat}(h:i<F.length):D5 (F.take i) (F.getD i default)=decide (bU F (F.getD i default)<i):=by
 have hm:=aK (l:=F) h;rcases tM F (F.getD i default)with⟨_,h2⟩|⟨k,h1,h2,h3⟩
 ·exact absurd hm h2
 ·rw[h1];rw[Bool.eq_iff_iff,FO,decide_eq_true_eq];constructor
  ·intro hx;obtain⟨j,hj⟩:=List.getElem?_of_mem hx;have hj2:=(List.getElem?_eq_some_iff.1 hj).1;rw[List.length_take]at hj2;rw[List.getElem?_take,if_pos (by omega)]at hj;rcases Nat.lt_or_ge j k with g|g
   ·exact absurd hj (h3 j g)
   ·omega
  ·intro hk;refine List.mem_of_getElem? (i:=k) ?_;rw[List.getElem?_take,if_pos (by omega)];exact h2
theorem ES:Lb (λl=>[aq l]) Kr Tryz.prog 22:=xl (e:=bG) 9 Tryz.underlying22 (by kernel_rfl) (by decide) (λ_=>rfl) (Ew Tryz.underlying9)
theorem Td:Lb (λl=>[aZ l]) V2 Tryz.prog 23:=xl (e:=ea) 3 Tryz.underlying23 (by kernel_rfl) (by decide) (λ_=>rfl) (qk Tryz.underlying3)
theorem EA(l:List ByteArray)(left:Int)(ok:Kr l)(h0:0<=left)(h1:left<=1048576):aB Tryz.prog 15 [(false,[aq l]),(false,[.sc (.int .i64 left)])] [(false,[.sc (.int .i64 (JN left (dt l)))],true)]:=by
 obtain⟨k1,k2⟩:=ok;refine ah Tryz.func15 rK rfl ?_;simp only[jW];simp only[aq];simp(disch:=first|omega|(simp only[ax];omega)|simp only[av,Nat.reduceAdd]) only[go_sem,true_and];refine eJ (λhbr=>?_) (λhbr=>?_)
 ·simp(disch:=first|omega|(simp only[ax];omega)|simp only[av,Nat.reduceAdd]) only[go_sem,true_and];exact dz (bS (by unfold dt;omega))
 simp(disch:=first|omega|(simp only[ax];omega)|simp only[av,Nat.reduceAdd]) only[go_sem,true_and];refine lp (λi:Nat=>[.sc (.int .i64 i),.sc (.int .i64 (left-(l.length:Int)-(du ByteArray.size (l.take i):Nat)))]) (λi=>i<=l.length/\(du ByteArray.size (l.take i):Nat)<=left-(l.length:Int)) (λi=>l.length-i) 0 (by simp[gL,du]) ⟨by omega,by simp[du];omega⟩ ?_;rintro i ⟨hi,hs⟩;simp only[iE];by_cases hlt:i<l.length
 ·have h3:=Ih ByteArray.size hlt;have h4:=k2 _ (aK hlt);have h5:=MA ByteArray.size l (i+1)
  repeat' (first|(with_reducible first|refine ae ?_|refine ac ‹_› rfl ?_|refine ab ‹_› rfl ?_|refine ak (λhbr=>?_) λhbr=>?_)|simp(disch:=first|omega|(simp only[ax];omega)|simp only[av,Nat.reduceAdd]) only[go_sem,show left-(l.length:Int)-(du ByteArray.size (l.take i):Nat)-((l.getD i default).size:Int)=left-(l.length:Int)-(du ByteArray.size (l.take (i+1)):Nat)from by omega])
  ·exact dz (bS (by unfold dt;omega))
  ·exact⟨i+1,rfl,⟨by omega,by omega⟩,by omega⟩
  ·omega
 ·obtain rfl:i=l.length:=by omega
  rw[List.take_length]at hs ⊢
  repeat' (first|(with_reducible first|refine ae ?_|refine ac ‹_› rfl ?_|refine ab ‹_› rfl ?_|refine ak (λhbr=>?_) λhbr=>?_)|simp(disch:=first|omega|(simp only[ax];omega)|simp only[av,Nat.reduceAdd]) only[go_sem,true_and])
  all_goals first|omega|exact dz (by rw[dl (by unfold dt;omega)];unfold dt;omega)
theorem Vj(l:List Int)(left:Int)(ok:l.length<=9223372036854775807)(h0:0<=left)(h1:left<=1048576):aB Tryz.prog 16 [(false,[aZ l]),(false,[.sc (.int .i64 left)])] [(false,[.sc (.int .i64 (JN left l.length))],true)]:=by
 refine ah Tryz.func16 zw rfl ?_;simp only[nS];simp only[aZ]
 repeat' (first|(with_reducible first|refine ae ?_|refine ac ‹_› rfl ?_|refine ab ‹_› rfl ?_|refine ak (λhbr=>?_) λhbr=>?_)|simp(disch:=first|omega|(simp only[ax];omega)|simp only[av,Nat.reduceAdd]) only[go_sem,true_and])
 ·exact dz (bS (by omega))
 ·exact dz (by rw[dl (by omega)])
theorem D7(l:List ByteArray)(h:l.length<=1048576):aB Tryz.prog 27 [(false,[aq l])] [(false,[aq l],true)]:=by
 refine ah Tryz.func27 rY rfl ?_;simp only[jI];simp only[aq];have hm:=λb (hb:b<=140)=>Jf (e:=bG) (l:=l) (el:=9) (k:=1) (b:=b) (zz:=[.sc (.string ⟨#[]⟩)]) (by omega) hb
 have hm1:=hm 16 (by decide);simp(disch:=first|omega|(simp only[ax];omega)|simp only[av,Nat.reduceAdd]) only[go_sem,hm1];refine G2 l.length (λi=>[.sc (.int .i64 i),.sl 9 1 (cE (l.map bG) i [.sc (.string ⟨#[]⟩)])]) rfl λi hi=>?_
 simp only[iO];by_cases hlt:i<l.length
 ·have e1:=G3 (e:=bG) (t:=9) (k:=1) (kd:=.i64) (z:=[.sc (.string ⟨#[]⟩)]) hlt;have e2:=GQ (e:=bG) (t:=9) (k:=1) (kd:=.i64) (z:=[.sc (.string ⟨#[]⟩)]) rfl rfl (λ_=>rfl) hlt;simp only[bG]at e2
  repeat' (first|(with_reducible first|refine ae ?_|refine ac ‹_› rfl ?_|refine ab ‹_› rfl ?_|refine ak (λhbr=>?_) λhbr=>?_)|simp(disch:=first|omega|(simp only[ax];omega)|simp only[av,Nat.reduceAdd]) only[go_sem,e1,bG,e2])
  ·omega
  ·omega
 ·obtain rfl:i=l.length:=by omega
  repeat' (first|(with_reducible first|refine ae ?_|refine ac ‹_› rfl ?_|refine ab ‹_› rfl ?_|refine ak (λhbr=>?_) λhbr=>?_)|simp(disch:=first|omega|(simp only[ax];omega)|simp only[av,Nat.reduceAdd]) only[go_sem,sf])
  ·omega
  ·rfl
theorem Tx(l:List Int)(h:l.length<=1048576):aB Tryz.prog 28 [(false,[aZ l])] [(false,[aZ l],true)]:=by
 refine ah Tryz.func28 zv rfl ?_;simp only[nL];simp only[aZ];have hm:=λb (hb:b<=140)=>Jf (e:=ea) (l:=l) (el:=3) (k:=1) (b:=b) (zz:=[.sc (.int .i64 0)]) (by omega) hb
 have hm1:=hm 8 (by decide);simp(disch:=first|omega|(simp only[ax];omega)|simp only[av,Nat.reduceAdd]) only[go_sem,hm1];refine G2 l.length (λi=>[.sc (.int .i64 i),.sl 3 1 (cE (l.map ea) i [.sc (.int .i64 0)])]) rfl λi hi=>?_
 simp only[lE];by_cases hlt:i<l.length
 ·have e1:=G3 (e:=ea) (t:=3) (k:=1) (kd:=.i64) (z:=[.sc (.int .i64 0)]) hlt;have e2:=GQ (e:=ea) (t:=3) (k:=1) (kd:=.i64) (z:=[.sc (.int .i64 0)]) rfl rfl (λ_=>rfl) hlt;simp only[ea]at e2
  repeat' (first|(with_reducible first|refine ae ?_|refine ac ‹_› rfl ?_|refine ab ‹_› rfl ?_|refine ak (λhbr=>?_) λhbr=>?_)|simp(disch:=first|omega|(simp only[ax];omega)|simp only[av,Nat.reduceAdd]) only[go_sem,e1,ea,e2])
  ·omega
  ·omega
 ·obtain rfl:i=l.length:=by omega
  repeat' (first|(with_reducible first|refine ae ?_|refine ac ‹_› rfl ?_|refine ab ‹_› rfl ?_|refine ak (λhbr=>?_) λhbr=>?_)|simp(disch:=first|omega|(simp only[ax];omega)|simp only[av,Nat.reduceAdd]) only[go_sem,sf])
  ·omega
  ·rfl
theorem EU(l:List ByteArray)(h:l.length<=100000000000):aB Tryz.prog 41 [(false,[aq l]),(false,[aq l])] [(false,[.sc (.bool true)],true)]:=by
 refine ah Tryz.func41 sk rfl ?_;simp only[jJ];simp only[aq];simp(disch:=first|omega|(simp only[ax];omega)|simp only[av,Nat.reduceAdd]) only[go_sem,eq_self];refine G2 l.length (λi=>[.sc (.int .i64 i)]) rfl λi hi=>?_
 simp only[ii]
 repeat' (first|(with_reducible first|refine ae ?_|refine ac ‹_› rfl ?_|refine ab ‹_› rfl ?_|refine ak (λhbr=>?_) λhbr=>?_)|simp(disch:=first|omega|(simp only[ax];omega)|simp only[av,Nat.reduceAdd]) only[go_sem,eq_self])
 ·omega
 ·rfl
theorem VH(l:List Int)(h:l.length<=100000000000):aB Tryz.prog 42 [(false,[aZ l]),(false,[aZ l])] [(false,[.sc (.bool true)],true)]:=by
 refine ah Tryz.func42 zm rfl ?_;simp only[nE];simp only[aZ];simp(disch:=first|omega|(simp only[ax];omega)|simp only[av,Nat.reduceAdd]) only[go_sem,eq_self];refine G2 l.length (λi=>[.sc (.int .i64 i)]) rfl λi hi=>?_
 simp only[mr]
 repeat' (first|(with_reducible first|refine ae ?_|refine ac ‹_› rfl ?_|refine ab ‹_› rfl ?_|refine ak (λhbr=>?_) λhbr=>?_)|simp(disch:=first|omega|(simp only[ax];omega)|simp only[av,Nat.reduceAdd]) only[go_sem,eq_self])
 ·omega
 ·rfl
theorem NK(x lo hi:Int)(w:World):
 Calls Tryz.prog 52 #[.int .i64 x,.int .i64 lo,.int .i64 hi] w λe w'=>e=.returned (.bool (decide (lo<=x/\x<=hi)))/\w=w':=by
 by_cases h1:lo<=x
 ·by_cases h2:x<=hi
  ·go_enter Tryz.func52,Tryz.ntmps52
   go_wp2
   go_ret
   exact⟨by simp[h1,h2],rfl⟩
  ·go_enter Tryz.func52,Tryz.ntmps52
   go_wp2
   go_ret
   exact⟨by simp[h2],rfl⟩
 ·go_enter Tryz.func52,Tryz.ntmps52
  go_wp2
  go_ret
  exact⟨by simp;omega,rfl⟩
theorem P7(x lo hi:Int)(b:Bool)(w:World)(h:decide (lo<=x/\x<=hi)=b):
 Calls Tryz.prog 52 #[.int .i64 x,.int .i64 lo,.int .i64 hi] w λe w'=>e=.returned (.bool b)/\w=w':=by
 subst h;exact NK x lo hi w
def aA{α:Type}(f:α->Nat)(l:List α):Nat:=(l.map f).sum
theorem Io{α:Type}(f:α->Nat)(l:List α){k:Nat}{x:α}(h:l[k]? =some x):aA f (l.take (k+1))=aA f (l.take k)+f x:=by
 obtain⟨hk,rfl⟩:=List.getElem?_eq_some_iff.1 h;unfold aA;rw[List.take_succ_eq_append_getElem hk,List.map_append,List.sum_append];simp
theorem Km{α:Type}(f:α->Nat)(l:List α){k:Nat}(h:l.length<=k):aA f (l.take k)=aA f l:=by rw[List.take_of_length_le h]
structure It where
 num:Int
 den:Int
 text:ByteArray
 deriving DecidableEq
def bC:It:=⟨0,0,ByteArray.empty⟩
def cq(x:It):Bool:=decide (x.text=ByteArray.empty)&&(decide (1<=x.den/\x.den<=999999999)&&(decide (-999999999<=x.num/\x.num<=999999999)&&decide (Int.gcd x.num x.den=1)))
def x9(n:Int):Prop:=-4000000000000000000<=n/\n<=4000000000000000000
instance (n:Int):Decidable (x9 n):=inferInstanceAs (Decidable (_/\_))
def yZ(n d:Int):It:=⟨(if d<0 then -n else n) / (Int.gcd n d:Int),(if d<0 then -d else d) / (Int.gcd n d:Int),ByteArray.empty⟩
def FZ(n d:Int):It:=if d=0\/¬x9 n\/¬x9 d then bC else if cq (yZ n d)=true then yZ n d else bC
theorem My{x:It}:cq x=true↔x.text=ByteArray.empty/\(1<=x.den/\x.den<=999999999)/\(-999999999<=x.num/\x.num<=999999999)/\Int.gcd x.num x.den=1:=by
 simp[cq]
theorem vC{n d:Int}(h:d=0\/¬x9 n\/¬x9 d):FZ n d=bC:=by unfold FZ;rw[if_pos h]
theorem IL{n d:Int}(h0:d≠0)(h1:x9 n)(h2:x9 d):FZ n d=if cq (yZ n d)=true then yZ n d else bC:=by
 unfold FZ;rw[if_neg (by simp[h0,h1,h2])]
theorem EE{n d:Int}(h:d≠0):1<=(Int.gcd n d:Int)/\(Int.gcd n d:Int)∣n/\(Int.gcd n d:Int)∣d:=by
 refine⟨?_,Int.gcd_dvd_left ..,Int.gcd_dvd_right ..⟩;have:0<Int.gcd n d:=Nat.pos_of_ne_zero (λe=>h (Int.eq_zero_of_gcd_eq_zero_right e));omega
theorem tl{n g:Int}(h:g∣n):n.tdiv g=n / g:=Int.tdiv_eq_ediv_of_dvd h
theorem D0(x y:Nat):Nat.gcd y (x % y)=Nat.gcd x y:=by
 rw[Nat.gcd_comm x y,Nat.gcd_rec y x,Nat.gcd_comm]
abbrev oT(x:It):Value:=.agg #[.int .i64 x.num,.int .i64 x.den,.string x.text]
def k9(x:It):List Value:=[.int .i64 x.num,.int .i64 x.den,.string x.text]
def cI(x:It):Nat:=x.text.size
def bT(l:List It):Nat:=l.length+aA cI l
def EW(w:World)(G:Nat)(v0 v1:Value)(wr:World):Prop:=∃x y m:Nat,(x:Int)<=4000000000000000000/\(y:Int)<=4000000000000000000/\v0=.int .i64 x/\v1=.int .i64 y/\Nat.gcd x y=G/\wr=w.drewN m
theorem Dg{a b:Int}{G:Nat}{p q:Int}{w:World}(h:Int.gcd a b=G)(h1:p=a.natAbs)(h2:q=b.natAbs)(hx:(a.natAbs:Int)<=4000000000000000000)(hy:(b.natAbs:Int)<=4000000000000000000):
 EW w G (.int .i64 p) (.int .i64 q) w:=
 ⟨a.natAbs,b.natAbs,0,hx,hy,by rw[h1],by rw[h2],by rw[<-h];rfl,rfl⟩
theorem Fi{x y G:Nat}{w w':World}(hx:(x:Int)<=4000000000000000000)(hy:(y:Int)<=4000000000000000000)(h0:¬y=0)(h:Nat.gcd x y=G)(hw:∃j,w'=w.drewN j):
 EW w G (.int .i64 y) (.int .i64 ((x:Int) % y)) w':=by
 obtain⟨j,hj⟩:=hw;have hr:x % y<=x:=Nat.mod_le _ _;exact⟨y,x % y,j,hy,by omega,rfl,by rw[Int.natCast_emod],by rw[D0];exact h,hj⟩
theorem Jw(a:Int)(w:World)(ha: -9223372036854775807<=a/\a<=9223372036854775807):
 Calls Tryz.prog 142 #[.int .i64 a] w λe w'=>e=.returned (.int .i64 (a.natAbs:Nat))/\w=w':=by
 by_cases h:a<0
 all_goals
  go_enter Tryz.func142,Tryz.ntmps142
  go_wp2
  go_ret
  exact⟨tU (by omega),rfl⟩
theorem oO(a b:Int)(w:World)(ha:x9 a)(hb:x9 b):
 Calls Tryz.prog 140 #[.int .i64 a,.int .i64 b] w λe w'=>e=.returned (.int .i64 (Int.gcd a b:Nat))/\∃m,w'=w.drewN m:=by
 unfold x9 at ha hb;generalize hG:Int.gcd a b=G;have HG:=Lib.hid hG;clear hG;rcases(show(0<=a/\0<=b)\/(0<=a/\b<0)\/(a<0/\0<=b)\/(a<0/\b<0)from by omega)with⟨h1,h2⟩|⟨h1,h2⟩|⟨h1,h2⟩|⟨h1,h2⟩
 all_goals
  go_enter Tryz.func140,Tryz.ntmps140
  go_wp2
  go_loopw [0,1] (EW w G) (λ_ b _=>(intOf b).toNat)
  case atStart=>exact Dg HG.out (by omega) (by omega) (by omega) (by omega)
  case round=>
   obtain⟨x,y,m,hx,hy,rfl,rfl,hg,rfl⟩:=hrel;have HGG:=Lib.hid hg;clear hg;by_cases hy0:y=0
   ·subst hy0;have hb0:(((0:Nat):Int)!=0)=false:=by simp
    go_wp2
    go_ret
    exact⟨tU (by have:=HGG.out;rw[Nat.gcd_zero_right]at this;rw[this]),m,rfl⟩
   ·have hb0:((y:Int)!=0)=true:=by rw[bne_iff_ne];omega
    have hr:x % y<=x:=Nat.mod_le _ _;have hr2:x % y<y:=Nat.mod_lt _ (by omega)
    go_wp2
    go_quiet (fail)
    go_wp2
    go_roundw
    case rel=>exact Fi hx hy hy0 HGG.out (Vt _ _ _)
    case measure=>simp[intOf];omega
theorem Ft(a b:Int)(w:World)(ha:x9 a)(hb:x9 b):
 Calls Tryz.prog 137 #[.int .i64 a,.int .i64 b] w λe w'=>e=.returned (.int .i64 (Int.gcd a b:Nat))/\∃m,w'=w.drewN m:=by
 unfold x9 at ha hb;generalize hG:Int.gcd a b=G;have HG:=Lib.hid hG;clear hG;rcases(show(0<=a/\0<=b)\/(0<=a/\b<0)\/(a<0/\0<=b)\/(a<0/\b<0)from by omega)with⟨h1,h2⟩|⟨h1,h2⟩|⟨h1,h2⟩|⟨h1,h2⟩
 all_goals
  go_enter Tryz.func137,Tryz.ntmps137
  go_wp2_with fail
  refine(Jw _ _ (by omega)).mono ?_;rintro e w' ⟨rfl,rfl⟩
  go_wp2_with fail
  refine(Jw _ _ (by omega)).mono ?_;rintro e w' ⟨rfl,rfl⟩
  go_wp2_with fail
  go_loopw [5,6] (EW w G) (λ_ b _=>(intOf b).toNat)
  case atStart=>exact Dg HG.out (by omega) (by omega) (by omega) (by omega)
  case round=>
   obtain⟨x,y,m,hx,hy,rfl,rfl,hg,rfl⟩:=hrel;have HGG:=Lib.hid hg;clear hg;by_cases hy0:y=0
   ·subst hy0;have hb0:(((0:Nat):Int)!=0)=false:=by simp
    go_wp2
    go_ret
    exact⟨tU (by have:=HGG.out;rw[Nat.gcd_zero_right]at this;rw[this]),m,rfl⟩
   ·have hb0:((y:Int)!=0)=true:=by rw[bne_iff_ne];omega
    have hr:x % y<=x:=Nat.mod_le _ _;have hr2:x % y<y:=Nat.mod_lt _ (by omega)
    go_wp2
    go_roundw
    case rel=>exact Fi hx hy hy0 HGG.out ⟨_,rfl⟩
    case measure=>simp[intOf];omega
theorem yX{x:It}(h:¬x.text=ByteArray.empty):cq x=false:=by simp[cq,h]
theorem pE{x:It}(h:¬(1<=x.den/\x.den<=999999999)):cq x=false:=by
 unfold cq;rw[decide_eq_false h];simp
theorem px{x:It}(h:¬(-999999999<=x.num/\x.num<=999999999)):cq x=false:=by
 unfold cq;rw[decide_eq_false h];simp
theorem No{x:It}(h0:x.text=ByteArray.empty)(h1:1<=x.den/\x.den<=999999999)(h2: -999999999<=x.num/\x.num<=999999999):cq x=decide (((Int.gcd x.num x.den:Nat):Int)=1):=by
 unfold cq;rw[decide_eq_true h0,decide_eq_true h1,decide_eq_true h2];simp;omega
theorem Ul{x:ByteArray}(h:¬x=ByteArray.empty):¬x.toList=[]:=by
 rw[ByteArray.toList_eq];intro e;apply h
 cases x with
 |mk d=>simp at e;subst e;rfl
theorem F5(x:It):(cq x=false/\¬x.text.toList=[])\/(cq x=false/\x.text=ByteArray.empty/\x.den<1)\/(cq x=false/\x.text=ByteArray.empty/\1<=x.den/\999999999<x.den)\/
 (cq x=false/\x.text=ByteArray.empty/\1<=x.den/\x.den<=999999999/\x.num< -999999999)\/(cq x=false/\x.text=ByteArray.empty/\1<=x.den/\x.den<=999999999/\-999999999<=x.num/\999999999<x.num)\/
 (cq x=decide (((Int.gcd x.num x.den:Nat):Int)=1)/\x.text=ByteArray.empty/\1<=x.den/\x.den<=999999999/\-999999999<=x.num/\x.num<=999999999):=by
 by_cases h0:x.text=ByteArray.empty
 ·by_cases h1:1<=x.den
  ·by_cases h2:x.den<=999999999
   ·by_cases h3: -999999999<=x.num
    ·by_cases h4:x.num<=999999999
     ·exact .inr (.inr (.inr (.inr (.inr ⟨No h0 ⟨h1,h2⟩ ⟨h3,h4⟩,h0,h1,h2,h3,h4⟩))))
     ·exact .inr (.inr (.inr (.inr (.inl ⟨px (by omega),h0,h1,h2,h3,by omega⟩))))
    ·exact .inr (.inr (.inr (.inl ⟨px (by omega),h0,h1,h2,by omega⟩)))
   ·exact .inr (.inr (.inl ⟨pE (by omega),h0,h1,by omega⟩))
  ·exact .inr (.inl ⟨pE (by omega),h0,by omega⟩)
 ·exact .inl ⟨yX h0,Ul h0⟩
theorem lk(x:It)(w:World):
 Calls Tryz.prog 139 #[oT x] w λe w'=>e=.returned (.bool (cq x))/\Below w.heap.size w w':=by
 rcases F5 x with⟨h,h0⟩|⟨h,h0,h1⟩|⟨h,h0,h1,h2⟩|⟨h,h0,h1,h2,h3⟩|⟨h,h0,h1,h2,h3,h4⟩|⟨h,h0,h1,h2,h3,h4⟩
 all_goals
  have H:=Lib.hid h;clear h;obtain⟨num,den,text⟩:=x;simp only at*
  try subst h0
 iterate 5
  ·go_enter Tryz.func139,Tryz.ntmps139
   go_wp2
   go_ret
   exact⟨by rw[H.out];rfl,(Below.refl _ _).alloc (Nat.le_refl _) _⟩
 go_enter Tryz.func139,Tryz.ntmps139
 go_wp2_with fail
 refine(oO _ _ _ (by unfold x9;omega) (by unfold x9;omega)).mono ?_;rintro e w' ⟨rfl,m,rfl⟩
 go_wp2
 go_ret
 exact⟨by rw[H.out];rfl,cQ ((Below.refl _ _).alloc (Nat.le_refl _) _) m⟩
theorem CL(x:It)(w:World):
 Calls Tryz.prog 128 #[oT x] w λe w'=>e=.returned (.bool (cq x))/\Below w.heap.size w w':=by
 rcases F5 x with⟨h,h0⟩|⟨h,h0,h1⟩|⟨h,h0,h1,h2⟩|⟨h,h0,h1,h2,h3⟩|⟨h,h0,h1,h2,h3,h4⟩|⟨h,h0,h1,h2,h3,h4⟩
 all_goals
  have H:=Lib.hid h;clear h;obtain⟨num,den,text⟩:=x;simp only at*
  try subst h0
 ·go_enter Tryz.func128,Tryz.ntmps128
  go_wp2
  go_ret
  exact⟨by rw[H.out];rfl,(Below.refl _ _).alloc (Nat.le_refl _) _⟩
 iterate 2
  ·go_enter Tryz.func128,Tryz.ntmps128
   go_wp2_with (go_at_call 52;refine(P7 _ _ _ false _ (by simp;omega)).mono ?_;rintro e w' ⟨rfl,rfl⟩)
   go_ret
   exact⟨by rw[H.out];rfl,(Below.refl _ _).alloc (Nat.le_refl _) _⟩
 iterate 2
  ·go_enter Tryz.func128,Tryz.ntmps128
   go_wp2_with fail
   refine(P7 _ _ _ true _ (by simp;omega)).mono ?_;rintro e w' ⟨rfl,rfl⟩
   go_wp2_with fail
   refine(P7 _ _ _ false _ (by simp;omega)).mono ?_;rintro e w' ⟨rfl,rfl⟩
   go_wp2
   go_ret
   exact⟨by rw[H.out];rfl,(Below.refl _ _).alloc (Nat.le_refl _) _⟩
 go_enter Tryz.func128,Tryz.ntmps128
 go_wp2_with (go_at_call 52;refine(P7 _ _ _ true _ (by simp;omega)).mono ?_;rintro e w' ⟨rfl,rfl⟩)
 refine(Ft _ _ _ (by unfold x9;omega) (by unfold x9;omega)).mono ?_;rintro e w' ⟨rfl,m,rfl⟩
 go_wp2
 go_ret
 exact⟨by rw[H.out];rfl,cQ ((Below.refl _ _).alloc (Nat.le_refl _) _) m⟩
def Mg(x:It)(w:World)(e:Ending)(w':World):Prop:=e=.returned (oT x)/\Below w.heap.size w w'
theorem K2(n d:Int):(FZ n d=bC/\d=0)\/(FZ n d=bC/\d≠0/\n< -4000000000000000000)\/(FZ n d=bC/\d≠0/\-4000000000000000000<=n/\4000000000000000000<n)\/
 (FZ n d=bC/\d≠0/\-4000000000000000000<=n/\n<=4000000000000000000/\d< -4000000000000000000)\/(FZ n d=bC/\d≠0/\-4000000000000000000<=n/\n<=4000000000000000000/\-4000000000000000000<=d/\4000000000000000000<d)\/
 (FZ n d=(if cq (yZ n d)=true then yZ n d else bC)/\d≠0/\-4000000000000000000<=n/\n<=4000000000000000000/\-4000000000000000000<=d/\d<=4000000000000000000):=by
 by_cases h0:d=0
 ·exact .inl ⟨vC (.inl h0),h0⟩
 ·by_cases h1: -4000000000000000000<=n
  ·by_cases h2:n<=4000000000000000000
   ·by_cases h3: -4000000000000000000<=d
    ·by_cases h4:d<=4000000000000000000
     ·exact .inr (.inr (.inr (.inr (.inr ⟨IL h0 ⟨h1,h2⟩ ⟨h3,h4⟩,h0,h1,h2,h3,h4⟩))))
     ·exact .inr (.inr (.inr (.inr (.inl ⟨vC (.inr (.inr (by unfold x9;omega))),h0,h1,h2,h3,by omega⟩))))
    ·exact .inr (.inr (.inr (.inl ⟨vC (.inr (.inr (by unfold x9;omega))),h0,h1,h2,by omega⟩)))
   ·exact .inr (.inr (.inl ⟨vC (.inr (.inl (by unfold x9;omega))),h0,h1,by omega⟩))
  ·exact .inr (.inl ⟨vC (.inr (.inl (by unfold x9;omega))),h0,by omega⟩)
theorem Eh{n g:Int}(h1: -4000000000000000000<=n)(h2:n<=4000000000000000000)(hg:1<=g): -4000000000000000000<=n.tdiv g/\n.tdiv g<=4000000000000000000:=by
 have h:(n.tdiv g).natAbs<=n.natAbs:=by rw[Int.natAbs_tdiv];exact Nat.div_le_self _ _
 omega
theorem QY{n d P Q:Int}(hd:d<0)(h1: -4000000000000000000<=n)(h2:n<=4000000000000000000)(h3: -4000000000000000000<=d)(h4:d<=4000000000000000000)
 (hP:wrap64 (-n.tdiv (Int.gcd n d:Int))=P) (hQ:wrap64 (-d.tdiv (Int.gcd n d:Int))=Q):yZ n d=⟨P,Q,ByteArray.empty⟩:=by
 obtain⟨hg,hgn,hgd⟩:=EE (n:=n) (d:=d) (by omega);have b1:=Eh h1 h2 hg;have b2:=Eh h3 h4 hg;rw[IntWalk.wrap64_in _ ⟨by omega,by omega⟩]at hP hQ;unfold yZ;rw[if_pos hd,if_pos hd,<-hP,<-hQ,tl hgn,tl hgd,Int.neg_ediv_of_dvd hgn,Int.neg_ediv_of_dvd hgd]
theorem P2{n d P Q:Int}(hd:0<d)(hP:n.tdiv (Int.gcd n d:Int)=P)(hQ:d / (Int.gcd n d:Int)=Q):yZ n d=⟨P,Q,ByteArray.empty⟩:=by
 obtain⟨hg,hgn,hgd⟩:=EE (n:=n) (d:=d) (by omega);unfold yZ;rw[if_neg (by omega),if_neg (by omega),<-hP,<-hQ,tl hgn]
theorem DY(n d:Int)(w:World):
 Calls Tryz.prog 133 #[.int .i64 n,.int .i64 d] w (Mg (FZ n d) w):=by
 rcases K2 n d with⟨h,h0⟩|⟨h,h0,h1⟩|⟨h,h0,h1,h2⟩|⟨h,h0,h1,h2,h3⟩|⟨h,h0,h1,h2,h3,h4⟩|⟨h,h0,h1,h2,h3,h4⟩
 ·have H:=Lib.hid h;clear h;have b0:(d==0)=true:=beq_iff_eq.2 h0;clear h0
  go_enter Tryz.func133,Tryz.ntmps133
  go_wp2
  exact bodyPost_ret (v:=oT bC) (by simp[results,Tryz.results133,go_sem];exact⟨rfl,rfl,rfl⟩) rfl ⟨by rw[H.out],(Below.refl _ _).alloc (Nat.le_refl _) _⟩
 iterate 4
  ·have H:=Lib.hid h;clear h;have b0:(d==0)=false:=beq_eq_false_iff_ne.2 h0
   go_enter Tryz.func133,Tryz.ntmps133
   go_wp2
   exact bodyPost_ret (v:=oT bC) (by simp[results,Tryz.results133,go_sem];exact⟨rfl,rfl,rfl⟩) rfl ⟨by rw[H.out],(Below.refl _ _).alloc (Nat.le_refl _) _⟩
 have H:=Lib.hid h;clear h;have b0:(d==0)=false:=beq_eq_false_iff_ne.2 h0;obtain⟨hg,hgn,hgd⟩:=EE (n:=n) h0;rcases(show d<0\/0<d from by omega)with hd|hd
 ·have e1:=Lib.hid (show Int.gcd (-n) (-d)=Int.gcd n d from by rw[Int.neg_gcd,Int.gcd_neg]);obtain⟨P,hP⟩:∃P,wrap64 (-n.tdiv (Int.gcd n d:Int))=P:=⟨_,rfl⟩;obtain⟨Q,hQ⟩:∃Q,wrap64 (-d.tdiv (Int.gcd n d:Int))=Q:=⟨_,rfl⟩;have e2:=Lib.hid (QY hd h1 h2 h3 h4 hP hQ)
  go_enter Tryz.func133,Tryz.ntmps133
  go_wp2_with fail
  refine(oO _ _ _ (by unfold x9;omega) (by unfold x9;omega)).mono ?_;rw[e1.out];generalize hG:((Int.gcd n d:Nat):Int)=G at *;clear hG;rintro e w' ⟨rfl,m,rfl⟩
  go_wp2
  go_region
  go_wp2_with fail
  refine(lk ⟨P,Q,ByteArray.empty⟩ _).mono ?_;rintro e w1 ⟨rfl,hb⟩;obtain⟨hc,hf⟩:=Jt hb;have hz:w.heap.size+1<w1.heap.size:=by have:=hb.size;simp at this;omega
  have g0:w1.cell? ⟨w.heap.size,0,none⟩=some (.int .i64 0):=(hc _ _ (by simp<;>omega)).trans (by simp[go_sem]);have g1:w1.cell? ⟨w.heap.size,1,none⟩=some (.int .i64 0):=(hc _ _ (by simp<;>omega)).trans (by simp[go_sem]);have g2:w1.cell? ⟨w.heap.size,2,none⟩=some (.string ByteArray.empty):=(hc _ _ (by simp<;>omega)).trans (by simp[go_sem];rfl);have HB:=Lib.hid hb;clear hb hP hQ hgn hgd;by_cases hn:cq ⟨P,Q,ByteArray.empty⟩=true
  ·have HM:=Lib.hid (show FZ n d=⟨P,Q,ByteArray.empty⟩from by rw[H.out,e2.out,if_pos hn])
   go_wp2
   refine bodyPost_ret (v:=oT ⟨P,Q,ByteArray.empty⟩) (by simp[results,Tryz.results133,go_sem,g0,g1,g2,hz];rfl) rfl ⟨by rw[HM.out],?_⟩
   repeat (refine Below.setCell ?_ (by simp<;>omega) _)
   exact((cQ ((Below.refl _ _).alloc (Nat.le_refl _) _) _).alloc (by simp) _).trans (HB.out.mono (by simp;omega))
  ·have hn:cq ⟨P,Q,ByteArray.empty⟩=false:=by simpa using hn
   have HM:=Lib.hid (show FZ n d=bC from by rw[H.out,e2.out,if_neg (by simp[hn])])
   go_wp2
   refine bodyPost_ret (v:=oT bC) (by simp[results,Tryz.results133,go_sem,g0,g1,g2,hz];exact⟨rfl,rfl,rfl⟩) rfl ⟨by rw[HM.out],?_⟩
   repeat (refine Below.setCell ?_ (by simp<;>omega) _)
   exact((cQ ((Below.refl _ _).alloc (Nat.le_refl _) _) _).alloc (by simp) _).trans (HB.out.mono (by simp;omega))
 ·obtain⟨P,hP⟩:∃P,n.tdiv (Int.gcd n d:Int)=P:=⟨_,rfl⟩;obtain⟨Q,hQ⟩:∃Q,d / (Int.gcd n d:Int)=Q:=⟨_,rfl⟩;have e2:=Lib.hid (P2 hd hP hQ);have hPb:=Eh h1 h2 hg;rw[hP]at hPb
  go_enter Tryz.func133,Tryz.ntmps133
  go_wp2_with fail
  refine(oO _ _ _ (by unfold x9;omega) (by unfold x9;omega)).mono ?_;generalize hG:((Int.gcd n d:Nat):Int)=G at *;clear hG;rintro e w' ⟨rfl,m,rfl⟩
  go_wp2
  go_region
  go_wp2_with fail
  refine(lk ⟨P,Q,ByteArray.empty⟩ _).mono ?_;rintro e w1 ⟨rfl,hb⟩;obtain⟨hc,hf⟩:=Jt hb;have hz:w.heap.size+1<w1.heap.size:=by have:=hb.size;simp at this;omega
  have g0:w1.cell? ⟨w.heap.size,0,none⟩=some (.int .i64 0):=(hc _ _ (by simp<;>omega)).trans (by simp[go_sem]);have g1:w1.cell? ⟨w.heap.size,1,none⟩=some (.int .i64 0):=(hc _ _ (by simp<;>omega)).trans (by simp[go_sem]);have g2:w1.cell? ⟨w.heap.size,2,none⟩=some (.string ByteArray.empty):=(hc _ _ (by simp<;>omega)).trans (by simp[go_sem];rfl);have HB:=Lib.hid hb;clear hb hP hQ hgn hgd;by_cases hn:cq ⟨P,Q,ByteArray.empty⟩=true
  ·have HM:=Lib.hid (show FZ n d=⟨P,Q,ByteArray.empty⟩from by rw[H.out,e2.out,if_pos hn])
   go_wp2
   refine bodyPost_ret (v:=oT ⟨P,Q,ByteArray.empty⟩) (by simp[results,Tryz.results133,go_sem,g0,g1,g2,hz];rfl) rfl ⟨by rw[HM.out],?_⟩
   repeat (refine Below.setCell ?_ (by simp<;>omega) _)
   exact((cQ ((Below.refl _ _).alloc (Nat.le_refl _) _) _).alloc (by simp) _).trans (HB.out.mono (by simp;omega))
  ·have hn:cq ⟨P,Q,ByteArray.empty⟩=false:=by simpa using hn
   have HM:=Lib.hid (show FZ n d=bC from by rw[H.out,e2.out,if_neg (by simp[hn])])
   go_wp2
   refine bodyPost_ret (v:=oT bC) (by simp[results,Tryz.results133,go_sem,g0,g1,g2,hz];exact⟨rfl,rfl,rfl⟩) rfl ⟨by rw[HM.out],?_⟩
   repeat (refine Below.setCell ?_ (by simp<;>omega) _)
   exact((cQ ((Below.refl _ _).alloc (Nat.le_refl _) _) _).alloc (by simp) _).trans (HB.out.mono (by simp;omega))
def LC(n:Int):It:=FZ n 1
theorem F6(n:Int)(w:World):Calls Tryz.prog 124 #[.int .i64 n] w (Mg (LC n) w):=by
 go_enter Tryz.func124,Tryz.ntmps124
 go_wp2_with fail
 refine(DY n 1 _).mono ?_;rintro e w1 ⟨rfl,hb1⟩;obtain⟨hc,hf⟩:=Jt hb1;have HB1:=Lib.hid hb1;clear hb1
 go_wp2
 refine bodyPost_ret (v:=oT (FZ n 1)) (by simp[results,Tryz.results124,go_sem,hc]) rfl ⟨rfl,?_⟩
 repeat (refine Below.setCell ?_ (by simp<;>omega) _)
 refine Below.trans ?_ (HB1.out.mono (by simp))
 repeat (first|exact Below.refl _ _|refine Below.setCell ?_ (by simp<;>omega) _|refine Below.alloc ?_ (by simp<;>omega) _|refine cQ ?_ _|refine Below.drew ?_)
def zR(n:Int):It:=⟨n,1,ByteArray.empty⟩
theorem OU{n:Int}(h: -999999999<=n/\n<=999999999):cq (zR n)=true:=by
 rw[My];exact⟨rfl,⟨by show(1:Int)<=1;omega,by show(1:Int)<=999999999;omega⟩,h,by simp[zR]⟩
theorem Rb{n:Int}(h: -999999999<=n/\n<=999999999):LC n=zR n:=by
 have e:yZ n 1=zR n:=by simp[yZ,zR]
 unfold LC;rw[IL (by decide) (by unfold x9;omega) (by decide),e,if_pos (OU h)]
theorem J8(n:Int)(w:World):Calls Tryz.prog 62 #[.int .i64 n] w (Mg (zR n) w):=by
 go_enter Tryz.func62,Tryz.ntmps62
 go_wp2
 refine bodyPost_ret (v:=oT (zR n)) (by simp[results,Tryz.results62,go_sem,zR];try rfl) rfl ⟨rfl,?_⟩
 repeat (first|exact Below.refl _ _|refine Below.setCell ?_ (by simp<;>omega) _|refine Below.alloc ?_ (by simp<;>omega) _|refine cQ ?_ _|refine Below.drew ?_)
instance:Inhabited It:=⟨⟨0,0,ByteArray.empty⟩⟩
def ao(x:It):List DV:=[.sc (.int .i64 x.num),.sc (.int .i64 x.den),.sc (.string x.text)]
theorem Bw(x:It):pz (ao x):=by intro d hd;simp[ao]at hd;rcases hd with rfl|rfl|rfl<;>exact⟨_,rfl⟩
theorem Gl(l:List It):pz (l.map ao).flatten:=by
 intro d hd;obtain⟨e,he,hd⟩:=List.mem_flatten.1 hd;obtain⟨x,_,rfl⟩:=List.mem_map.1 he;exact Bw x d hd
def VM(vs:List Value):List DV:=vs.map .sc
theorem EG{w:World}{A:Nat->Prop}{vals vs:List Value}(h:aL w A vals (VM vs)):vals=vs:=by
 induction vs generalizing vals with
 |nil=>cases h;rfl
 |cons v vs ih=>cases h with|sc h1 h2=>rw[ih h2]
theorem I2{w:World}{base:Nat}{vs:List Value}(h:∀v∈vs,Sc v):aR w base vs (VM vs) []:=by
 induction vs with
 |nil=>exact .nil
 |cons v vs ih=>exact .sc (h v (List.mem_cons_self ..)) (ih λv hv=>h v (List.mem_cons_of_mem _ hv))
def Df(x:Bool×List Value):Value:=if x.1 then .agg x.2.toArray else x.2.headD undef
theorem oX{P:Program}{f:FuncId}(args:List (Bool×List Value))(res:Bool×List Value)(hc:bc P f=true)(ha:∀x∈args,x.1=false->x.2.length=1)(hr:∀v∈res.2,Sc v)(hr1:res.1=false->res.2.length=1)
 (h:∀w,Calls P f (args.map Df).toArray w λe w'=>e=.returned (Df res)/\Below w.heap.size w w'):aB P f (args.map λx=>(x.1,VM x.2)) [(res.1,VM res.2,true)]:=by
 refine⟨hc,λw B vs hB har=>?_⟩
 have hvs:vs=args.map Df:=by
  apply List.ext_getElem?;intro j;by_cases hj:j<args.length
  ·have hl:=har.1;simp at hl;have h1:=har.2 j vs[j] _ (List.getElem?_eq_getElem (by omega)) (by rw[List.getElem?_map,List.getElem?_eq_getElem hj];rfl);rw[List.getElem?_eq_getElem (by omega),List.getElem?_map,List.getElem?_eq_getElem hj];simp only[Option.map_some,Option.some.injEq];unfold EJ at h1;unfold Df;split at h1
   ·rename_i hb;obtain⟨vals,e1,e2⟩:=h1;rw[if_pos hb,e1,EG e2]
   ·rename_i hb;have:=EG h1;rw[if_neg hb];rw[<-this];rfl
  ·have hl:=har.1;simp at hl;rw[List.getElem?_eq_none (by omega),List.getElem?_eq_none (by simp;omega)]
 subst hvs;refine(h w).mono ?_;rintro e w' ⟨rfl,hb⟩;refine⟨_,rfl,⟨[Df res],[[]],by simp,rfl,rfl,by simp,λj u r f' h1 h2 h3=>?_⟩,hb⟩
 cases j with
 |zero=>
  simp at h1 h2 h3;subst h1 h2 h3;refine⟨res.2,?_,I2 hr⟩;unfold Df;simp only;split
  ·rfl
  ·rename_i hb;have:=hr1 (by simpa using hb)
   match hx:res.2,this with
   |[v],_=>rfl
 |succ j=>simp at h1
theorem Ik{α:Type}(l:List α)(z:α):cE l 0 z=List.replicate l.length z:=by simp[cE]
def VK(x:It):List Value:=[.int .i64 x.num,.int .i64 x.den,.string x.text]
theorem M1(x:It):∀v∈VK x,Sc v:=by simp[VK,Sc]
theorem Ag(x:It):aB Tryz.prog 139 [(true,ao x)] [(false,[.sc (.bool (cq x))],true)]:=oX [(true,VK x)] (false,[.bool (cq x)]) (by kernel_rfl) (by simp) (by simp[Sc]) (by simp) (λw=>lk x w)
theorem BL(x:It):aB Tryz.prog 128 [(true,ao x)] [(false,[.sc (.bool (cq x))],true)]:=oX [(true,VK x)] (false,[.bool (cq x)]) (by kernel_rfl) (by simp) (by simp[Sc]) (by simp) (λw=>CL x w)
theorem OA(n:Int):aB Tryz.prog 124 [(false,[.sc (.int .i64 n)])] [(true,ao (LC n),true)]:=oX [(false,[.int .i64 n])] (true,VK (LC n)) (by kernel_rfl) (by simp) (M1 _) (by simp) (λw=>F6 n w)
theorem NG(n:Int):aB Tryz.prog 62 [(false,[.sc (.int .i64 n)])] [(true,ao (zR n),true)]:=oX [(false,[.int .i64 n])] (true,VK (zR n)) (by kernel_rfl) (by simp) (M1 _) (by simp) (λw=>J8 n w)
theorem VN(x lo hi:Int):aB Tryz.prog 52 [(false,[.sc (.int .i64 x)]),(false,[.sc (.int .i64 lo)]),(false,[.sc (.int .i64 hi)])] [(false,[.sc (.bool (decide (lo<=x/\x<=hi)))],true)]:=
 oX [(false,[.int .i64 x]),(false,[.int .i64 lo]),(false,[.int .i64 hi])] (false,[.bool (decide (lo<=x/\x<=hi))]) (by kernel_rfl) (by simp) (by simp[Sc]) (by simp) (λw=>(NK x lo hi w).mono λe w' ⟨h1,h2⟩=>⟨h1,by subst h2;exact Below.refl _ _⟩)
inductive aX where
 |mk (kind:Int) (items:List It) (parts:List aX) (names cls levels:List ByteArray) (code env:Int)
def fD(ti tv:Nat):aX->List DV
 |.mk k its ps ns cl lv c e=>[.sc (.int .i64 k),.sl ti 3 (its.map ao),.sl tv 8 (ps.map λp=>fD ti tv p),aq ns,aq cl,aq lv,.sc (.int .i64 c),.sc (.int .i64 e)]
abbrev ap:aX->List DV:=fD 78 35
def fV(k:Int)(its:List It):aX:=.mk k its [] [] [] [] 0 0
def cN(k:Int)(its:List It):List DV:=[.sc (.int .i64 k),.sl 78 3 (its.map ao),.sl 35 8 [],.sl 9 1 [],.sl 9 1 [],.sl 9 1 [],.sc (.int .i64 0),.sc (.int .i64 0)]
theorem al(ti tv:Nat)(k:Int)(its:List It)(ps:List aX)(ns cl lv:List ByteArray)(c e:Int):fD ti tv (.mk k its ps ns cl lv c e)=[.sc (.int .i64 k),.sl ti 3 (its.map ao),.sl tv 8 (ps.map (fD ti tv)),aq ns,aq cl,aq lv,.sc (.int .i64 c),.sc (.int .i64 e)]:=by rw[fD]
theorem aX.ind{Q:aX->Prop}(h:∀k its ps ns cl lv c e,(∀p∈ps,Q p)->Q (.mk k its ps ns cl lv c e))(v:aX):Q v:=
 aX.rec (motive_1:=Q) (motive_2:=λl=>∀p∈l,Q p) (λk its ps ns cl lv c e ih=>h k its ps ns cl lv c e ih) (λp hp=>by cases hp) (λa l ha hl p hp=>by
  rcases List.mem_cons.1 hp with rfl|hp
  ·exact ha
  ·exact hl p hp) v
theorem Hl(k:Int)(its:List It):ap (fV k its)=cN k its:=by
 simp only[ap,fV,fD,cN,aq];rfl
theorem cD{t:Nat}{l:List It}{kd:IntKind}{z:Int}(h:0<=z)(h1:z<l.length):cc 3 (some (.sl t 3 (l.map ao))) (some (.sc (.int kd z)))=some (ao (l.getD z.toNat default)):=lR (λ_=>rfl) h h1
theorem qY{t k:Nat}{k1 k2:IntKind}{a b:Int}{s:ByteArray}:pi (some (.sl t k [[.sc (.int k1 a),.sc (.int k2 b),.sc (.string s)]]))=some []:=rfl
theorem bh{α:Type}[Inhabited α]{l:List α}{i:Nat}(h:i<l.length):l.take (i+1)=l.take i++[l.getD i default]:=by
 rw[List.take_succ_eq_append_getElem h,List.getD_eq_getElem?_getD,List.getElem?_eq_getElem h];rfl
@[go_sem] theorem tagg_2:bR Tryz.prog 2=some false:=by kernel_rfl
@[go_sem] theorem tsz_2:cG Tryz.prog 2=some 1:=by kernel_rfl
@[go_sem] theorem tby_2:dW Tryz.prog 2=some 8:=by kernel_rfl
@[go_sem] theorem und_2:Tryz.prog.underlying 2=some (.int .i64):=by kernel_rfl
@[go_sem] theorem zac_2:aY Tryz.prog 2=some [.d (.sc (.int .i64 0))]:=by kernel_rfl
@[go_sem] theorem tzero_2:aT Tryz.prog 2=some [.int .i64 0]:=by kernel_rfl
@[go_sem] theorem tagg_3:bR Tryz.prog 3=some false:=by kernel_rfl
@[go_sem] theorem tsz_3:cG Tryz.prog 3=some 1:=by kernel_rfl
@[go_sem] theorem tby_3:dW Tryz.prog 3=some 8:=by kernel_rfl
@[go_sem] theorem und_3:Tryz.prog.underlying 3=some (.int .i64):=by kernel_rfl
@[go_sem] theorem zac_3:aY Tryz.prog 3=some [.d (.sc (.int .i64 0))]:=by kernel_rfl
@[go_sem] theorem tzero_3:aT Tryz.prog 3=some [.int .i64 0]:=by kernel_rfl
@[go_sem] theorem tagg_4:bR Tryz.prog 4=some false:=by kernel_rfl
@[go_sem] theorem tsz_4:cG Tryz.prog 4=some 1:=by kernel_rfl
@[go_sem] theorem tby_4:dW Tryz.prog 4=some 1:=by kernel_rfl
@[go_sem] theorem und_4:Tryz.prog.underlying 4=some .bool:=by kernel_rfl
@[go_sem] theorem zac_4:aY Tryz.prog 4=some [.d (.sc (.bool false))]:=by kernel_rfl
@[go_sem] theorem tzero_4:aT Tryz.prog 4=some [.bool false]:=by kernel_rfl
@[go_sem] theorem tagg_5:bR Tryz.prog 5=some false:=by kernel_rfl
@[go_sem] theorem tsz_5:cG Tryz.prog 5=some 1:=by kernel_rfl
@[go_sem] theorem tby_5:dW Tryz.prog 5=some 1:=by kernel_rfl
@[go_sem] theorem und_5:Tryz.prog.underlying 5=some (.int .u8):=by kernel_rfl
@[go_sem] theorem zac_5:aY Tryz.prog 5=some [.d (.sc (.int .u8 0))]:=by kernel_rfl
@[go_sem] theorem tzero_5:aT Tryz.prog 5=some [.int .u8 0]:=by kernel_rfl
@[go_sem] theorem tagg_6:bR Tryz.prog 6=some false:=by kernel_rfl
@[go_sem] theorem tsz_6:cG Tryz.prog 6=some 1:=by kernel_rfl
@[go_sem] theorem tby_6:dW Tryz.prog 6=some 1:=by kernel_rfl
@[go_sem] theorem und_6:Tryz.prog.underlying 6=some (.int .u8):=by kernel_rfl
@[go_sem] theorem zac_6:aY Tryz.prog 6=some [.d (.sc (.int .u8 0))]:=by kernel_rfl
@[go_sem] theorem tzero_6:aT Tryz.prog 6=some [.int .u8 0]:=by kernel_rfl
@[go_sem] theorem tagg_7:bR Tryz.prog 7=some true:=by kernel_rfl
@[go_sem] theorem tsz_7:cG Tryz.prog 7=some 4:=by kernel_rfl
@[go_sem] theorem tby_7:dW Tryz.prog 7=some 24:=by kernel_rfl
@[go_sem] theorem zac_7:aY Tryz.prog 7=some [.d (.sc (.int .i64 0)),.d (.sc (.int .i64 0)),.d (.sc (.bool false)),.d (.sc (.int .u8 0))]:=by kernel_rfl
@[go_sem] theorem tzero_7:aT Tryz.prog 7=some [.int .i64 0,.int .i64 0,.bool false,.int .u8 0]:=by kernel_rfl
@[go_sem] theorem tpl_7:Co Tryz.prog 7=true:=by kernel_rfl
@[go_sem] theorem tfl_7_0:dd Tryz.prog 7 0=some (0,1,false):=by kernel_rfl
@[go_sem] theorem tfl_7_1:dd Tryz.prog 7 1=some (1,1,false):=by kernel_rfl
@[go_sem] theorem tfl_7_2:dd Tryz.prog 7 2=some (2,1,false):=by kernel_rfl
@[go_sem] theorem tfl_7_3:dd Tryz.prog 7 3=some (3,1,false):=by kernel_rfl
@[go_sem] theorem tagg_8:bR Tryz.prog 8=some true:=by kernel_rfl
@[go_sem] theorem tsz_8:cG Tryz.prog 8=some 4:=by kernel_rfl
@[go_sem] theorem tby_8:dW Tryz.prog 8=some 24:=by kernel_rfl
@[go_sem] theorem zac_8:aY Tryz.prog 8=some [.d (.sc (.int .i64 0)),.d (.sc (.int .i64 0)),.d (.sc (.bool false)),.d (.sc (.int .u8 0))]:=by kernel_rfl
@[go_sem] theorem tzero_8:aT Tryz.prog 8=some [.int .i64 0,.int .i64 0,.bool false,.int .u8 0]:=by kernel_rfl
@[go_sem] theorem tpl_8:Co Tryz.prog 8=true:=by kernel_rfl
@[go_sem] theorem tfl_8_0:dd Tryz.prog 8 0=some (0,1,false):=by kernel_rfl
@[go_sem] theorem tfl_8_1:dd Tryz.prog 8 1=some (1,1,false):=by kernel_rfl
@[go_sem] theorem tfl_8_2:dd Tryz.prog 8 2=some (2,1,false):=by kernel_rfl
@[go_sem] theorem tfl_8_3:dd Tryz.prog 8 3=some (3,1,false):=by kernel_rfl
@[go_sem] theorem tagg_9:bR Tryz.prog 9=some false:=by kernel_rfl
@[go_sem] theorem tsz_9:cG Tryz.prog 9=some 1:=by kernel_rfl
@[go_sem] theorem tby_9:dW Tryz.prog 9=some 16:=by kernel_rfl
@[go_sem] theorem und_9:Tryz.prog.underlying 9=some .string:=by kernel_rfl
@[go_sem] theorem zac_9:aY Tryz.prog 9=some [.d (.sc (.string ByteArray.empty))]:=by kernel_rfl
@[go_sem] theorem tzero_9:aT Tryz.prog 9=some [.string ByteArray.empty]:=by kernel_rfl
@[go_sem] theorem tagg_10:bR Tryz.prog 10=some false:=by kernel_rfl
@[go_sem] theorem tsz_10:cG Tryz.prog 10=some 1:=by kernel_rfl
@[go_sem] theorem tby_10:dW Tryz.prog 10=some 16:=by kernel_rfl
@[go_sem] theorem und_10:Tryz.prog.underlying 10=some .string:=by kernel_rfl
@[go_sem] theorem zac_10:aY Tryz.prog 10=some [.d (.sc (.string ByteArray.empty))]:=by kernel_rfl
@[go_sem] theorem tzero_10:aT Tryz.prog 10=some [.string ByteArray.empty]:=by kernel_rfl
@[go_sem] theorem tagg_11:bR Tryz.prog 11=some false:=by kernel_rfl
@[go_sem] theorem tsz_11:cG Tryz.prog 11=some 1:=by kernel_rfl
@[go_sem] theorem tby_11:dW Tryz.prog 11=some 16:=by kernel_rfl
@[go_sem] theorem und_11:Tryz.prog.underlying 11=some .string:=by kernel_rfl
@[go_sem] theorem zac_11:aY Tryz.prog 11=some [.d (.sc (.string ByteArray.empty))]:=by kernel_rfl
@[go_sem] theorem tzero_11:aT Tryz.prog 11=some [.string ByteArray.empty]:=by kernel_rfl
@[go_sem] theorem tagg_12:bR Tryz.prog 12=some false:=by kernel_rfl
@[go_sem] theorem tsz_12:cG Tryz.prog 12=some 1:=by kernel_rfl
@[go_sem] theorem tby_12:dW Tryz.prog 12=some 8:=by kernel_rfl
@[go_sem] theorem und_12:Tryz.prog.underlying 12=some (.int .u64):=by kernel_rfl
@[go_sem] theorem zac_12:aY Tryz.prog 12=some [.d (.sc (.int .u64 0))]:=by kernel_rfl
@[go_sem] theorem tzero_12:aT Tryz.prog 12=some [.int .u64 0]:=by kernel_rfl
@[go_sem] theorem tagg_13:bR Tryz.prog 13=some true:=by kernel_rfl
@[go_sem] theorem tsz_13:cG Tryz.prog 13=some 2:=by kernel_rfl
@[go_sem] theorem tby_13:dW Tryz.prog 13=some 24:=by kernel_rfl
@[go_sem] theorem zac_13:aY Tryz.prog 13=some [.d (.sc (.string ByteArray.empty)),.d (.sc (.int .u64 0))]:=by kernel_rfl
@[go_sem] theorem tzero_13:aT Tryz.prog 13=some [.string ByteArray.empty,.int .u64 0]:=by kernel_rfl
@[go_sem] theorem tpl_13:Co Tryz.prog 13=true:=by kernel_rfl
@[go_sem] theorem tfl_13_0:dd Tryz.prog 13 0=some (0,1,false):=by kernel_rfl
@[go_sem] theorem tfl_13_1:dd Tryz.prog 13 1=some (1,1,false):=by kernel_rfl
@[go_sem] theorem tagg_14:bR Tryz.prog 14=some true:=by kernel_rfl
@[go_sem] theorem tsz_14:cG Tryz.prog 14=some 2:=by kernel_rfl
@[go_sem] theorem tby_14:dW Tryz.prog 14=some 24:=by kernel_rfl
@[go_sem] theorem zac_14:aY Tryz.prog 14=some [.d (.sc (.string ByteArray.empty)),.d (.sc (.int .u64 0))]:=by kernel_rfl
@[go_sem] theorem tzero_14:aT Tryz.prog 14=some [.string ByteArray.empty,.int .u64 0]:=by kernel_rfl
@[go_sem] theorem tpl_14:Co Tryz.prog 14=true:=by kernel_rfl
@[go_sem] theorem tfl_14_0:dd Tryz.prog 14 0=some (0,1,false):=by kernel_rfl
@[go_sem] theorem tfl_14_1:dd Tryz.prog 14 1=some (1,1,false):=by kernel_rfl
@[go_sem] theorem tagg_18:bR Tryz.prog 18=some true:=by kernel_rfl
@[go_sem] theorem tsz_18:cG Tryz.prog 18=some 1:=by kernel_rfl
@[go_sem] theorem tby_18:dW Tryz.prog 18=some 8:=by kernel_rfl
@[go_sem] theorem tagg_19:bR Tryz.prog 19=some true:=by kernel_rfl
@[go_sem] theorem tsz_19:cG Tryz.prog 19=some 1:=by kernel_rfl
@[go_sem] theorem tby_19:dW Tryz.prog 19=some 8:=by kernel_rfl
@[go_sem] theorem tagg_21:bR Tryz.prog 21=some false:=by kernel_rfl
@[go_sem] theorem tsz_21:cG Tryz.prog 21=some 1:=by kernel_rfl
@[go_sem] theorem tby_21:dW Tryz.prog 21=some 4:=by kernel_rfl
@[go_sem] theorem und_21:Tryz.prog.underlying 21=some (.int .i32):=by kernel_rfl
@[go_sem] theorem zac_21:aY Tryz.prog 21=some [.d (.sc (.int .i32 0))]:=by kernel_rfl
@[go_sem] theorem tzero_21:aT Tryz.prog 21=some [.int .i32 0]:=by kernel_rfl
@[go_sem] theorem tagg_22:bR Tryz.prog 22=some false:=by kernel_rfl
@[go_sem] theorem tsz_22:cG Tryz.prog 22=some 1:=by kernel_rfl
@[go_sem] theorem tby_22:dW Tryz.prog 22=some 24:=by kernel_rfl
@[go_sem] theorem zac_22:aY Tryz.prog 22=some [.nil]:=by kernel_rfl
@[go_sem] theorem tzero_22:aT Tryz.prog 22=some [.slice none 0 0]:=by kernel_rfl
@[go_sem] theorem tel_22:dN Tryz.prog 22=some (9,1):=by kernel_rfl
@[go_sem] theorem tagg_23:bR Tryz.prog 23=some false:=by kernel_rfl
@[go_sem] theorem tsz_23:cG Tryz.prog 23=some 1:=by kernel_rfl
@[go_sem] theorem tby_23:dW Tryz.prog 23=some 24:=by kernel_rfl
@[go_sem] theorem zac_23:aY Tryz.prog 23=some [.nil]:=by kernel_rfl
@[go_sem] theorem tzero_23:aT Tryz.prog 23=some [.slice none 0 0]:=by kernel_rfl
@[go_sem] theorem tel_23:dN Tryz.prog 23=some (3,1):=by kernel_rfl
@[go_sem] theorem tagg_24:bR Tryz.prog 24=some true:=by kernel_rfl
@[go_sem] theorem tsz_24:cG Tryz.prog 24=some 4:=by kernel_rfl
@[go_sem] theorem tby_24:dW Tryz.prog 24=some 72:=by kernel_rfl
@[go_sem] theorem zac_24:aY Tryz.prog 24=some [.d (.sc (.string ByteArray.empty)),.d (.sc (.bool false)),.nil,.nil]:=by kernel_rfl
@[go_sem] theorem tzero_24:aT Tryz.prog 24=some [.string ByteArray.empty,.bool false,.slice none 0 0,.slice none 0 0]:=by kernel_rfl
@[go_sem] theorem tpl_24:Co Tryz.prog 24=true:=by kernel_rfl
@[go_sem] theorem tfl_24_0:dd Tryz.prog 24 0=some (0,1,false):=by kernel_rfl
@[go_sem] theorem tfl_24_1:dd Tryz.prog 24 1=some (1,1,false):=by kernel_rfl
@[go_sem] theorem tfl_24_2:dd Tryz.prog 24 2=some (2,1,false):=by kernel_rfl
@[go_sem] theorem tfl_24_3:dd Tryz.prog 24 3=some (3,1,false):=by kernel_rfl
@[go_sem] theorem tagg_25:bR Tryz.prog 25=some true:=by kernel_rfl
@[go_sem] theorem tsz_25:cG Tryz.prog 25=some 4:=by kernel_rfl
@[go_sem] theorem tby_25:dW Tryz.prog 25=some 72:=by kernel_rfl
@[go_sem] theorem zac_25:aY Tryz.prog 25=some [.d (.sc (.string ByteArray.empty)),.d (.sc (.bool false)),.nil,.nil]:=by kernel_rfl
@[go_sem] theorem tzero_25:aT Tryz.prog 25=some [.string ByteArray.empty,.bool false,.slice none 0 0,.slice none 0 0]:=by kernel_rfl
@[go_sem] theorem tpl_25:Co Tryz.prog 25=true:=by kernel_rfl
@[go_sem] theorem tfl_25_0:dd Tryz.prog 25 0=some (0,1,false):=by kernel_rfl
@[go_sem] theorem tfl_25_1:dd Tryz.prog 25 1=some (1,1,false):=by kernel_rfl
@[go_sem] theorem tfl_25_2:dd Tryz.prog 25 2=some (2,1,false):=by kernel_rfl
@[go_sem] theorem tfl_25_3:dd Tryz.prog 25 3=some (3,1,false):=by kernel_rfl
@[go_sem] theorem tagg_26:bR Tryz.prog 26=some false:=by kernel_rfl
@[go_sem] theorem tsz_26:cG Tryz.prog 26=some 1:=by kernel_rfl
@[go_sem] theorem tby_26:dW Tryz.prog 26=some 24:=by kernel_rfl
@[go_sem] theorem zac_26:aY Tryz.prog 26=some [.nil]:=by kernel_rfl
@[go_sem] theorem tzero_26:aT Tryz.prog 26=some [.slice none 0 0]:=by kernel_rfl
@[go_sem] theorem tel_26:dN Tryz.prog 26=some (70,3):=by kernel_rfl
@[go_sem] theorem tagg_27:bR Tryz.prog 27=some false:=by kernel_rfl
@[go_sem] theorem tsz_27:cG Tryz.prog 27=some 1:=by kernel_rfl
@[go_sem] theorem tby_27:dW Tryz.prog 27=some 24:=by kernel_rfl
@[go_sem] theorem zac_27:aY Tryz.prog 27=some [.nil]:=by kernel_rfl
@[go_sem] theorem tzero_27:aT Tryz.prog 27=some [.slice none 0 0]:=by kernel_rfl
@[go_sem] theorem tel_27:dN Tryz.prog 27=some (29,8):=by kernel_rfl
@[go_sem] theorem tagg_28:bR Tryz.prog 28=some true:=by kernel_rfl
@[go_sem] theorem tsz_28:cG Tryz.prog 28=some 8:=by kernel_rfl
@[go_sem] theorem tby_28:dW Tryz.prog 28=some 144:=by kernel_rfl
@[go_sem] theorem zac_28:aY Tryz.prog 28=some [.d (.sc (.int .i64 0)),.nil,.nil,.nil,.nil,.nil,.d (.sc (.int .i64 0)),.d (.sc (.int .i64 0))]:=by kernel_rfl
@[go_sem] theorem tzero_28:aT Tryz.prog 28=some [.int .i64 0,.slice none 0 0,.slice none 0 0,.slice none 0 0,.slice none 0 0,.slice none 0 0,.int .i64 0,.int .i64 0]:=by kernel_rfl
@[go_sem] theorem tpl_28:Co Tryz.prog 28=true:=by kernel_rfl
@[go_sem] theorem tfl_28_0:dd Tryz.prog 28 0=some (0,1,false):=by kernel_rfl
@[go_sem] theorem tfl_28_1:dd Tryz.prog 28 1=some (1,1,false):=by kernel_rfl
@[go_sem] theorem tfl_28_2:dd Tryz.prog 28 2=some (2,1,false):=by kernel_rfl
@[go_sem] theorem tfl_28_3:dd Tryz.prog 28 3=some (3,1,false):=by kernel_rfl
@[go_sem] theorem tfl_28_4:dd Tryz.prog 28 4=some (4,1,false):=by kernel_rfl
@[go_sem] theorem tfl_28_5:dd Tryz.prog 28 5=some (5,1,false):=by kernel_rfl
@[go_sem] theorem tfl_28_6:dd Tryz.prog 28 6=some (6,1,false):=by kernel_rfl
@[go_sem] theorem tfl_28_7:dd Tryz.prog 28 7=some (7,1,false):=by kernel_rfl
@[go_sem] theorem tagg_29:bR Tryz.prog 29=some true:=by kernel_rfl
@[go_sem] theorem tsz_29:cG Tryz.prog 29=some 8:=by kernel_rfl
@[go_sem] theorem tby_29:dW Tryz.prog 29=some 144:=by kernel_rfl
@[go_sem] theorem zac_29:aY Tryz.prog 29=some [.d (.sc (.int .i64 0)),.nil,.nil,.nil,.nil,.nil,.d (.sc (.int .i64 0)),.d (.sc (.int .i64 0))]:=by kernel_rfl
@[go_sem] theorem tzero_29:aT Tryz.prog 29=some [.int .i64 0,.slice none 0 0,.slice none 0 0,.slice none 0 0,.slice none 0 0,.slice none 0 0,.int .i64 0,.int .i64 0]:=by kernel_rfl
@[go_sem] theorem tpl_29:Co Tryz.prog 29=true:=by kernel_rfl
@[go_sem] theorem tfl_29_0:dd Tryz.prog 29 0=some (0,1,false):=by kernel_rfl
@[go_sem] theorem tfl_29_1:dd Tryz.prog 29 1=some (1,1,false):=by kernel_rfl
@[go_sem] theorem tfl_29_2:dd Tryz.prog 29 2=some (2,1,false):=by kernel_rfl
@[go_sem] theorem tfl_29_3:dd Tryz.prog 29 3=some (3,1,false):=by kernel_rfl
@[go_sem] theorem tfl_29_4:dd Tryz.prog 29 4=some (4,1,false):=by kernel_rfl
@[go_sem] theorem tfl_29_5:dd Tryz.prog 29 5=some (5,1,false):=by kernel_rfl
@[go_sem] theorem tfl_29_6:dd Tryz.prog 29 6=some (6,1,false):=by kernel_rfl
@[go_sem] theorem tfl_29_7:dd Tryz.prog 29 7=some (7,1,false):=by kernel_rfl
@[go_sem] theorem tagg_32:bR Tryz.prog 32=some false:=by kernel_rfl
@[go_sem] theorem tsz_32:cG Tryz.prog 32=some 1:=by kernel_rfl
@[go_sem] theorem tby_32:dW Tryz.prog 32=some 24:=by kernel_rfl
@[go_sem] theorem zac_32:aY Tryz.prog 32=some [.nil]:=by kernel_rfl
@[go_sem] theorem tzero_32:aT Tryz.prog 32=some [.slice none 0 0]:=by kernel_rfl
@[go_sem] theorem tel_32:dN Tryz.prog 32=some (78,3):=by kernel_rfl
@[go_sem] theorem tagg_33:bR Tryz.prog 33=some false:=by kernel_rfl
@[go_sem] theorem tsz_33:cG Tryz.prog 33=some 1:=by kernel_rfl
@[go_sem] theorem tby_33:dW Tryz.prog 33=some 24:=by kernel_rfl
@[go_sem] theorem zac_33:aY Tryz.prog 33=some [.nil]:=by kernel_rfl
@[go_sem] theorem tzero_33:aT Tryz.prog 33=some [.slice none 0 0]:=by kernel_rfl
@[go_sem] theorem tel_33:dN Tryz.prog 33=some (35,8):=by kernel_rfl
@[go_sem] theorem tagg_34:bR Tryz.prog 34=some true:=by kernel_rfl
@[go_sem] theorem tsz_34:cG Tryz.prog 34=some 8:=by kernel_rfl
@[go_sem] theorem tby_34:dW Tryz.prog 34=some 144:=by kernel_rfl
@[go_sem] theorem zac_34:aY Tryz.prog 34=some [.d (.sc (.int .i64 0)),.nil,.nil,.nil,.nil,.nil,.d (.sc (.int .i64 0)),.d (.sc (.int .i64 0))]:=by kernel_rfl
@[go_sem] theorem tzero_34:aT Tryz.prog 34=some [.int .i64 0,.slice none 0 0,.slice none 0 0,.slice none 0 0,.slice none 0 0,.slice none 0 0,.int .i64 0,.int .i64 0]:=by kernel_rfl
@[go_sem] theorem tpl_34:Co Tryz.prog 34=true:=by kernel_rfl
@[go_sem] theorem tfl_34_0:dd Tryz.prog 34 0=some (0,1,false):=by kernel_rfl
@[go_sem] theorem tfl_34_1:dd Tryz.prog 34 1=some (1,1,false):=by kernel_rfl
@[go_sem] theorem tfl_34_2:dd Tryz.prog 34 2=some (2,1,false):=by kernel_rfl
@[go_sem] theorem tfl_34_3:dd Tryz.prog 34 3=some (3,1,false):=by kernel_rfl
@[go_sem] theorem tfl_34_4:dd Tryz.prog 34 4=some (4,1,false):=by kernel_rfl
@[go_sem] theorem tfl_34_5:dd Tryz.prog 34 5=some (5,1,false):=by kernel_rfl
@[go_sem] theorem tfl_34_6:dd Tryz.prog 34 6=some (6,1,false):=by kernel_rfl
@[go_sem] theorem tfl_34_7:dd Tryz.prog 34 7=some (7,1,false):=by kernel_rfl
@[go_sem] theorem tagg_35:bR Tryz.prog 35=some true:=by kernel_rfl
@[go_sem] theorem tsz_35:cG Tryz.prog 35=some 8:=by kernel_rfl
@[go_sem] theorem tby_35:dW Tryz.prog 35=some 144:=by kernel_rfl
@[go_sem] theorem zac_35:aY Tryz.prog 35=some [.d (.sc (.int .i64 0)),.nil,.nil,.nil,.nil,.nil,.d (.sc (.int .i64 0)),.d (.sc (.int .i64 0))]:=by kernel_rfl
@[go_sem] theorem tzero_35:aT Tryz.prog 35=some [.int .i64 0,.slice none 0 0,.slice none 0 0,.slice none 0 0,.slice none 0 0,.slice none 0 0,.int .i64 0,.int .i64 0]:=by kernel_rfl
@[go_sem] theorem tpl_35:Co Tryz.prog 35=true:=by kernel_rfl
@[go_sem] theorem tfl_35_0:dd Tryz.prog 35 0=some (0,1,false):=by kernel_rfl
@[go_sem] theorem tfl_35_1:dd Tryz.prog 35 1=some (1,1,false):=by kernel_rfl
@[go_sem] theorem tfl_35_2:dd Tryz.prog 35 2=some (2,1,false):=by kernel_rfl
@[go_sem] theorem tfl_35_3:dd Tryz.prog 35 3=some (3,1,false):=by kernel_rfl
@[go_sem] theorem tfl_35_4:dd Tryz.prog 35 4=some (4,1,false):=by kernel_rfl
@[go_sem] theorem tfl_35_5:dd Tryz.prog 35 5=some (5,1,false):=by kernel_rfl
@[go_sem] theorem tfl_35_6:dd Tryz.prog 35 6=some (6,1,false):=by kernel_rfl
@[go_sem] theorem tfl_35_7:dd Tryz.prog 35 7=some (7,1,false):=by kernel_rfl
@[go_sem] theorem tagg_38:bR Tryz.prog 38=some true:=by kernel_rfl
@[go_sem] theorem tsz_38:cG Tryz.prog 38=some 4:=by kernel_rfl
@[go_sem] theorem tby_38:dW Tryz.prog 38=some 72:=by kernel_rfl
@[go_sem] theorem zac_38:aY Tryz.prog 38=some [.d (.sc (.string ByteArray.empty)),.d (.sc (.bool false)),.nil,.nil]:=by kernel_rfl
@[go_sem] theorem tzero_38:aT Tryz.prog 38=some [.string ByteArray.empty,.bool false,.slice none 0 0,.slice none 0 0]:=by kernel_rfl
@[go_sem] theorem tpl_38:Co Tryz.prog 38=true:=by kernel_rfl
@[go_sem] theorem tfl_38_0:dd Tryz.prog 38 0=some (0,1,false):=by kernel_rfl
@[go_sem] theorem tfl_38_1:dd Tryz.prog 38 1=some (1,1,false):=by kernel_rfl
@[go_sem] theorem tfl_38_2:dd Tryz.prog 38 2=some (2,1,false):=by kernel_rfl
@[go_sem] theorem tfl_38_3:dd Tryz.prog 38 3=some (3,1,false):=by kernel_rfl
@[go_sem] theorem tagg_69:bR Tryz.prog 69=some true:=by kernel_rfl
@[go_sem] theorem tsz_69:cG Tryz.prog 69=some 3:=by kernel_rfl
@[go_sem] theorem tby_69:dW Tryz.prog 69=some 32:=by kernel_rfl
@[go_sem] theorem zac_69:aY Tryz.prog 69=some [.d (.sc (.int .i64 0)),.d (.sc (.int .i64 0)),.d (.sc (.string ByteArray.empty))]:=by kernel_rfl
@[go_sem] theorem tzero_69:aT Tryz.prog 69=some [.int .i64 0,.int .i64 0,.string ByteArray.empty]:=by kernel_rfl
@[go_sem] theorem tpl_69:Co Tryz.prog 69=true:=by kernel_rfl
@[go_sem] theorem tfl_69_0:dd Tryz.prog 69 0=some (0,1,false):=by kernel_rfl
@[go_sem] theorem tfl_69_1:dd Tryz.prog 69 1=some (1,1,false):=by kernel_rfl
@[go_sem] theorem tfl_69_2:dd Tryz.prog 69 2=some (2,1,false):=by kernel_rfl
@[go_sem] theorem tagg_70:bR Tryz.prog 70=some true:=by kernel_rfl
@[go_sem] theorem tsz_70:cG Tryz.prog 70=some 3:=by kernel_rfl
@[go_sem] theorem tby_70:dW Tryz.prog 70=some 32:=by kernel_rfl
@[go_sem] theorem zac_70:aY Tryz.prog 70=some [.d (.sc (.int .i64 0)),.d (.sc (.int .i64 0)),.d (.sc (.string ByteArray.empty))]:=by kernel_rfl
@[go_sem] theorem tzero_70:aT Tryz.prog 70=some [.int .i64 0,.int .i64 0,.string ByteArray.empty]:=by kernel_rfl
@[go_sem] theorem tpl_70:Co Tryz.prog 70=true:=by kernel_rfl
@[go_sem] theorem tfl_70_0:dd Tryz.prog 70 0=some (0,1,false):=by kernel_rfl
@[go_sem] theorem tfl_70_1:dd Tryz.prog 70 1=some (1,1,false):=by kernel_rfl
@[go_sem] theorem tfl_70_2:dd Tryz.prog 70 2=some (2,1,false):=by kernel_rfl
@[go_sem] theorem tagg_78:bR Tryz.prog 78=some true:=by kernel_rfl
@[go_sem] theorem tsz_78:cG Tryz.prog 78=some 3:=by kernel_rfl
@[go_sem] theorem tby_78:dW Tryz.prog 78=some 32:=by kernel_rfl
@[go_sem] theorem zac_78:aY Tryz.prog 78=some [.d (.sc (.int .i64 0)),.d (.sc (.int .i64 0)),.d (.sc (.string ByteArray.empty))]:=by kernel_rfl
@[go_sem] theorem tzero_78:aT Tryz.prog 78=some [.int .i64 0,.int .i64 0,.string ByteArray.empty]:=by kernel_rfl
@[go_sem] theorem tpl_78:Co Tryz.prog 78=true:=by kernel_rfl
@[go_sem] theorem tfl_78_0:dd Tryz.prog 78 0=some (0,1,false):=by kernel_rfl
@[go_sem] theorem tfl_78_1:dd Tryz.prog 78 1=some (1,1,false):=by kernel_rfl
@[go_sem] theorem tfl_78_2:dd Tryz.prog 78 2=some (2,1,false):=by kernel_rfl
@[go_sem] theorem tagg_83:bR Tryz.prog 83=some false:=by kernel_rfl
@[go_sem] theorem tsz_83:cG Tryz.prog 83=some 1:=by kernel_rfl
@[go_sem] theorem tby_83:dW Tryz.prog 83=some 8:=by kernel_rfl
@[go_sem] theorem und_83:Tryz.prog.underlying 83=some (.int .u64):=by kernel_rfl
@[go_sem] theorem zac_83:aY Tryz.prog 83=some [.d (.sc (.int .u64 0))]:=by kernel_rfl
@[go_sem] theorem tzero_83:aT Tryz.prog 83=some [.int .u64 0]:=by kernel_rfl
@[go_sem] theorem tagg_104:bR Tryz.prog 104=some false:=by kernel_rfl
@[go_sem] theorem tsz_104:cG Tryz.prog 104=some 1:=by kernel_rfl
@[go_sem] theorem tby_104:dW Tryz.prog 104=some 24:=by kernel_rfl
@[go_sem] theorem zac_104:aY Tryz.prog 104=some [.nil]:=by kernel_rfl
@[go_sem] theorem tzero_104:aT Tryz.prog 104=some [.slice none 0 0]:=by kernel_rfl
@[go_sem] theorem tel_104:dN Tryz.prog 104=some (5,1):=by kernel_rfl
@[go_sem] theorem tagg_117:bR Tryz.prog 117=some true:=by kernel_rfl
@[go_sem] theorem tsz_117:cG Tryz.prog 117=some 4:=by kernel_rfl
@[go_sem] theorem tby_117:dW Tryz.prog 117=some 40:=by kernel_rfl
@[go_sem] theorem tagg_118:bR Tryz.prog 118=some true:=by kernel_rfl
@[go_sem] theorem tsz_118:cG Tryz.prog 118=some 4:=by kernel_rfl
@[go_sem] theorem tby_118:dW Tryz.prog 118=some 40:=by kernel_rfl
@[go_sem] theorem tagg_120:bR Tryz.prog 120=some true:=by kernel_rfl
@[go_sem] theorem tsz_120:cG Tryz.prog 120=some 0:=by kernel_rfl
@[go_sem] theorem tby_120:dW Tryz.prog 120=some 0:=by kernel_rfl
@[go_sem] theorem zac_120:aY Tryz.prog 120=some []:=by kernel_rfl
@[go_sem] theorem tzero_120:aT Tryz.prog 120=some []:=by kernel_rfl
@[go_sem] theorem tagg_121:bR Tryz.prog 121=some true:=by kernel_rfl
@[go_sem] theorem tsz_121:cG Tryz.prog 121=some 0:=by kernel_rfl
@[go_sem] theorem tby_121:dW Tryz.prog 121=some 0:=by kernel_rfl
@[go_sem] theorem zac_121:aY Tryz.prog 121=some []:=by kernel_rfl
@[go_sem] theorem tzero_121:aT Tryz.prog 121=some []:=by kernel_rfl
@[go_sem] theorem tagg_123:bR Tryz.prog 123=some false:=by kernel_rfl
@[go_sem] theorem tsz_123:cG Tryz.prog 123=some 1:=by kernel_rfl
@[go_sem] theorem tby_123:dW Tryz.prog 123=some 4:=by kernel_rfl
@[go_sem] theorem und_123:Tryz.prog.underlying 123=some (.int .u32):=by kernel_rfl
@[go_sem] theorem zac_123:aY Tryz.prog 123=some [.d (.sc (.int .u32 0))]:=by kernel_rfl
@[go_sem] theorem tzero_123:aT Tryz.prog 123=some [.int .u32 0]:=by kernel_rfl
@[go_sem] theorem tagg_124:bR Tryz.prog 124=some false:=by kernel_rfl
@[go_sem] theorem tsz_124:cG Tryz.prog 124=some 1:=by kernel_rfl
@[go_sem] theorem tby_124:dW Tryz.prog 124=some 1:=by kernel_rfl
@[go_sem] theorem und_124:Tryz.prog.underlying 124=some (.int .u8):=by kernel_rfl
@[go_sem] theorem zac_124:aY Tryz.prog 124=some [.d (.sc (.int .u8 0))]:=by kernel_rfl
@[go_sem] theorem tzero_124:aT Tryz.prog 124=some [.int .u8 0]:=by kernel_rfl
@[go_sem] theorem tagg_125:bR Tryz.prog 125=some false:=by kernel_rfl
@[go_sem] theorem tsz_125:cG Tryz.prog 125=some 1:=by kernel_rfl
@[go_sem] theorem tby_125:dW Tryz.prog 125=some 1:=by kernel_rfl
@[go_sem] theorem und_125:Tryz.prog.underlying 125=some (.int .u8):=by kernel_rfl
@[go_sem] theorem zac_125:aY Tryz.prog 125=some [.d (.sc (.int .u8 0))]:=by kernel_rfl
@[go_sem] theorem tzero_125:aT Tryz.prog 125=some [.int .u8 0]:=by kernel_rfl
@[go_sem] theorem tagg_128:bR Tryz.prog 128=some false:=by kernel_rfl
@[go_sem] theorem tsz_128:cG Tryz.prog 128=some 1:=by kernel_rfl
@[go_sem] theorem tby_128:dW Tryz.prog 128=some 4:=by kernel_rfl
@[go_sem] theorem und_128:Tryz.prog.underlying 128=some (.int .i32):=by kernel_rfl
@[go_sem] theorem zac_128:aY Tryz.prog 128=some [.d (.sc (.int .i32 0))]:=by kernel_rfl
@[go_sem] theorem tzero_128:aT Tryz.prog 128=some [.int .i32 0]:=by kernel_rfl
@[go_sem] theorem tagg_129:bR Tryz.prog 129=some false:=by kernel_rfl
@[go_sem] theorem tsz_129:cG Tryz.prog 129=some 1:=by kernel_rfl
@[go_sem] theorem tby_129:dW Tryz.prog 129=some 4:=by kernel_rfl
@[go_sem] theorem und_129:Tryz.prog.underlying 129=some (.int .i32):=by kernel_rfl
@[go_sem] theorem zac_129:aY Tryz.prog 129=some [.d (.sc (.int .i32 0))]:=by kernel_rfl
@[go_sem] theorem tzero_129:aT Tryz.prog 129=some [.int .i32 0]:=by kernel_rfl
@[go_sem] theorem tagg_130:bR Tryz.prog 130=some true:=by kernel_rfl
@[go_sem] theorem tsz_130:cG Tryz.prog 130=some 11:=by kernel_rfl
@[go_sem] theorem tby_130:dW Tryz.prog 130=some 48:=by kernel_rfl
@[go_sem] theorem tagg_131:bR Tryz.prog 131=some true:=by kernel_rfl
@[go_sem] theorem tsz_131:cG Tryz.prog 131=some 11:=by kernel_rfl
@[go_sem] theorem tby_131:dW Tryz.prog 131=some 48:=by kernel_rfl
def vD:List aQ:=[⟨3000004,2,⟨[aa 3 5,aa 5 3,aa 2 1,aa 0 6],[],0,0,7,[(3,false)]⟩,[]⟩]
def vI:List (Nat×Nat×Bool×List Nat):=[]
def jT:UP:=.i 0<|.b .gtr 1 0<|.ite 0 (.i 10<|.b .rem 3 0<|.i 48<|.a 0 1<|.po (.cvI .u8 0)<|.c 0<|.po (.mk 5 1 [[0]])<|.po (.cvB 0)<|.a 0 10<|.i 10<|.b .quo 11 0<|.jump 0 [2,0])<|.s #[109]<|.a 0 4<|.c 0<|.r 0
def kS:UP:=.s #[]<|.i 0<|.b .leq 2 0<|.ite 0 (.s #[109,48]<|.c 0<|.r 0)<|.s #[]<|.loop [0,4] jT
theorem vE:aM Tryz.prog 88 Tryz.f88 bO vD vI=some ([(false,1)],kS):=by kernel_rfl
def tx:List aQ:=[⟨3000014,3,⟨[aa 7 16,aa 6 17,bF 3 0 0,aa 28 5,aa 13 10,aa 4 5,aa 9 3,aa 2 1,aa 0 7],[(0,.row 0 5 1 18)],1,1,19,[(10,false),(3,false)]⟩,[]⟩,⟨1000012,1,⟨[bF 3 0 0,aa 28 5,aa 13 10,aa 4 5,aa 9 3,aa 2 1,aa 0 7],[(0,.row 0 5 1 11)],1,1,12,[(10,false),(3,false)]⟩,[]⟩,⟨2000001,4,⟨[aa 0 11,bF 3 0 0,aa 5 12,aa 17 13,aa 13 10,aa 4 5,aa 9 3,aa 2 1],[(0,.row 0 5 1 14)],1,1,15,[(10,true),(3,false)]⟩,[]⟩,⟨3000005,2,⟨[bF 3 0 0,aa 4 5,aa 9 3,aa 2 1,aa 0 7],[(0,.row 0 5 1 8)],1,1,9,[(3,false)]⟩,[⟨true,3,0,5,1⟩]⟩]
def th:List (Nat×Nat×Bool×List Nat):=[(16,13,false,[2,3])]
def dZ:UP:=.jump 0 [3,0]
def iz:UP:=.b .lss 1 2<|.ite 0 (.z 3<|.po (.chk 1 1 3)<|.x 1 1 3<|.c 0<|.z 3<|.po (.chk 1 2 3)<|.x 1 2 3<|.c 0<|.z 4<|.po (.chk 1 3 4)<|.c 1<|.po (.set 1 3 4 0 [1])<|.z 6<|.po (.chk 1 0 6)<|.c 1<|.po (.set 1 0 6 0 [1])<|.i 1<|.a 7 0<|.i 1<|.b .sub 10 0<|.jump 1 [0,2,4])<|.po (.cvB 1)<|.c 0<|.r 0
def dX:UP:=.l 0<|.i 1<|.b .sub 1 0<|.i 0<|.sel [0,1,4]<|.loop [1,0,2] iz
def ik:UP:=.i 0<|.b .neq 2 0<|.ite 0 (.sel [2,3]<|.join 4 dZ<|.i 10<|.b .rem 2 0<|.i 0<|.b .lss 1 0<|.ite 0 (.po (.un .neg 2)<|.i 48<|.a 0 1<|.po (.cvI .u8 0)<|.c 0<|.po (.mk 5 1 [[0]])<|.po (.flat 0)<|.po (.app 5 1 1 9 0)<|.i 10<|.b .quo 12 0<|.jump 1 [0,7,8,2])<|.i 48<|.a 0 3<|.po (.cvI .u8 0)<|.c 0<|.po (.mk 5 1 [[0]])<|.po (.flat 0)<|.po (.app 5 1 1 8 0)<|.i 10<|.b .quo 11 0<|.jump 1 [0,9,7,2])<|.sel [2,5]<|.join 1 dX<|.ite 1 (.po (.k (.int .u8 45))<|.c 0<|.po (.mk 5 1 [[0]])<|.po (.flat 0)<|.po (.app 5 1 1 2 0)<|.jump 1 [0])<|.jump 1 [0]
def jf:UP:=.s #[]<|.i 0<|.e 2 0<|.ite 0 (.s #[48]<|.c 0<|.r 0)<|.i 0<|.b .lss 4 0<|.po (.e 5 1)<|.sel [0,1,6]<|.loop [2,0] ik
theorem sq:aM Tryz.prog 141 Tryz.f141 bO tx th=some ([(false,1)],jf):=by kernel_rfl
def sO:List aQ:=[⟨2000001,3,⟨[aa 3 7,aa 5 8,aa 14 9,aa 8 6,aa 4 3,aa 2 1,aa 0 0],[],0,0,10,[(6,true)]⟩,[]⟩,⟨3000003,2,⟨[aa 4 3,aa 3 4,aa 2 1,aa 0 0],[],0,0,5,[]⟩,[]⟩]
def rT:List (Nat×Nat×Bool×List Nat):=[]
def d8:UP:=.i 10<|.b .quo 5 0<|.jump 0 [0,4]
def iH:UP:=.i 0<|.b .neq 2 0<|.ite 0 (.sel [2,3]<|.join 3 d8<|.i 10<|.b .rem 2 0<|.i 0<|.b .lss 1 0<|.ite 0 (.po (.un .neg 2)<|.i 1<|.a 1 0<|.s #[48,49,50,51,52,53,54,55,56,57]<|.po (.cutS 0 (some 3) (some 1))<|.a 0 9<|.jump 1 [0,5,6])<|.i 1<|.a 3 0<|.s #[48,49,50,51,52,53,54,55,56,57]<|.po (.cutS 0 (some 5) (some 1))<|.a 0 8<|.jump 1 [0,7,5])<|.i 0<|.e 7 0<|.ite 0 (.s #[48]<|.c 0<|.r 0)<|.i 0<|.b .lss 9 0<|.ite 0 (.s #[45]<|.a 0 7<|.c 0<|.r 0)<|.c 6<|.r 6
def jq:UP:=.s #[]<|.s #[]<|.loop [2,0] iH
theorem sI:aM Tryz.prog 130 Tryz.f130 bO sO rT=some ([(false,1)],jq):=by kernel_rfl
def rn(n:Nat):List DV:=[.sc (.int .u8 (n:Int))]
def rz(l:List Nat):ByteArray:=strOfNums (l.map λn:Nat=>(n:Int))
theorem vm(l:List Nat):(rz l).data.toList=l.map UInt8.ofNat:=by
 unfold rz;rw[strOfNums_data,List.map_map];rfl
theorem zM(l m:List Nat):rz (l++m)=rz l++rz m:=by
 apply ByteArray.ext;apply Array.ext';rw[ByteArray.data_append,Array.toList_append,vm,vm,vm,List.map_append]
theorem j6(l:List Nat):(rz l).size=l.length:=by
 unfold rz;rw[strOfNums_size,List.length_map]
theorem Kz(l:List Nat):je (l.map rn)=some (l.map λn:Nat=>(n:Int)):=by
 induction l with
 |nil=>rfl
 |cons n l ih=>simp only[List.map_cons,rn,je];rw[ih]
theorem Sk{t:Nat}{l:List Nat}:Mw (some (.sl t 1 (l.map rn)))=some [.sc (.string (rz l))]:=Wo (Kz l)
theorem Yp{t:Nat}{l:List Nat}{kd:IntKind}{z:Int}(h:0<=z)(h1:z<l.length):cc 1 (some (.sl t 1 (l.map rn))) (some (.sc (.int kd z)))=some [.sc (.int .u8 (l.getD z.toNat default:Nat))]:=lR (λ_=>rfl) h h1
theorem YP{t:Nat}{l:List Nat}{kd:IntKind}{z:Int}{n:Nat}(h:0<=z)(h1:z<l.length):Ac 1 0 (some (.sl t 1 (l.map rn))) (some (.sc (.int kd z))) (some [.sc (.int .u8 (n:Int))])=some [.sl t 1 ((l.set z.toNat n).map rn)]:=by
 rw[l9 (e:=rn) (λ_=>rfl) h h1 rfl,List.map_set];rfl
theorem Sm(l:List Nat)(n:Nat):l.map rn++[[.sc (.int .u8 (n:Int))]]=(l++[n]).map rn:=by rw[List.map_append];rfl
theorem Rw{s:ByteArray}{i:Nat}(h:i<s.size):s.extract i (i+1)=rz [m8 s i]:=by
 apply ByteArray.ext;apply Array.ext';rw[vm,ByteArray.data_extract];have hd:i<s.data.size:=h;have hb:m8 s i=(s.data[i]).toNat:=by unfold m8;rw[getElem?_pos s i h];rfl
 rw[hb];apply List.ext_getElem
 ·simp;omega
 ·intro j h1 h2;simp at h1 h2;have:j=0:=by omega
  subst this;simp
def Cf(m:Nat):List Nat:=if h:m=0 then[]else Cf (m / 10)++[48+m % 10]
 termination_by m
 decreasing_by omega
theorem ph:Cf 0=[]:=by rw[Cf];simp
theorem zT{m:Nat}(h:m≠0):Cf m=Cf (m / 10)++[48+m % 10]:=by rw[Cf,dif_neg h]
theorem Q9(k:Nat):∀m,m<10^k->(Cf m).length<=k:=by
 induction k with
 |zero=>intro m h;have:m=0:=by simpa using h
        subst this;rw[ph];exact Nat.zero_le _
 |succ k ih=>
  intro m h;by_cases h0:m=0
  ·subst h0;rw[ph];exact Nat.zero_le _
  ·rw[zT h0,List.length_append,List.length_singleton];have:=ih (m / 10) (by rw[Nat.pow_succ]at h;omega);omega
theorem p8{m:Nat}(h:m<=9223372036854775808):(Cf m).length<=19:=Q9 19 m (Nat.lt_of_le_of_lt h (by decide))
def gc(n:Int):List Nat:=if n=0 then[48]else if n<0 then 45::Cf n.natAbs else Cf n.natAbs
def ia(n:Int):ByteArray:=rz (gc n)
theorem Gw{n:Int}(h:BU n):(gc n).length<=20:=by
 have h2:n.natAbs<=9223372036854775808:=by unfold BU at h;omega
 have:=p8 h2;unfold gc;split
 ·simp
 ·split
  ·simp;omega
  ·omega
theorem MM{x:Int}:(x.tdiv 10).natAbs=x.natAbs / 10:=by rw[Int.natAbs_tdiv];rfl
theorem MD{x:Int}:(x.tmod 10).natAbs=x.natAbs % 10:=by rw[Int.natAbs_tmod];rfl
def Uj:ByteArray:=⟨#[48,49,50,51,52,53,54,55,56,57]⟩
theorem Rf{d:Nat}(h:d<10):Uj.extract d (d+1)=rz [48+d]:=by
 have hs:d<Uj.size:=h;rw[Rw hs];have:∀k:Fin 10,m8 Uj k.val=48+k.val:=by decide
 rw[this ⟨d,h⟩]
set_option maxHeartbeats 1000000 in
theorem uJ(n:Int)(hn:BU n):aB Tryz.prog 130 [(false,[.sc (.int .i64 n)])] [(false,[.sc (.string (ia n))],true)]:=by
 have hn': -9223372036854775808<=n/\n<=9223372036854775807:=hn;have hlen:=p8 (m:=n.natAbs) (by omega);refine ah Tryz.func130 sI rfl ?_;simp only[jq];simp(disch:=first|omega|(simp only[ax];omega)|simp only[av,Nat.reduceAdd]) only[go_sem,true_and];refine lp (λs:Int×List Nat=>[.sc (.int .i64 s.1),.sc (.string (rz s.2))]) (λs=>s.1.natAbs<=9223372036854775808/\-9223372036854775808<=s.1/\s.1<=9223372036854775807/\Cf s.1.natAbs++s.2=Cf n.natAbs) (λs=>s.1.natAbs) (n,[]) rfl ⟨by simp only;omega,by simp only;omega,by simp only;omega,by simp⟩ ?_;rintro⟨x,acc⟩ ⟨g1,g2,g3,g4⟩;simp only at g1 g2 g3 g4 ⊢;simp only[iH];by_cases hx:x=0
 ·subst hx;rw[Int.natAbs_zero,ph,List.nil_append]at g4;have hsz:=j6 acc;rw[g4]at hsz ⊢
  have e1:(⟨#[45]⟩:ByteArray).size+(rz (Cf n.natAbs)).size<=maxLen:=by
   have e:(⟨#[45]⟩:ByteArray).size=1:=rfl;unfold maxLen;omega
  repeat' (first|(with_reducible first|refine ae ?_|refine ac ‹_› rfl ?_|refine ab ‹_› rfl ?_|refine ak (λhbr=>?_) λhbr=>?_)|simp(disch:=first|omega|(simp only[ax];omega)|simp only[av,Nat.reduceAdd]) only[go_sem,yl e1])
  ·exact Gh (by unfold ia gc;rw[if_pos ‹n=0›];rfl)
  ·refine Gh ?_;unfold ia gc;rw[if_neg ‹¬n=0›,if_pos ‹n<0›];exact zM [45] _
  ·refine Gh ?_;unfold ia gc;rw[if_neg ‹¬n=0›,if_neg ‹¬n<0›]
 ·have hd:=zT (m:=x.natAbs) (by omega);have a1:=@MM x;have a2:=@MD x;have a3:x.tmod 10<10/\-10<x.tmod 10:=by omega
  have hl2:acc.length<=19:=by
   have:=congrArg List.length g4;rw[List.length_append]at this;omega
  have hsz:=j6 acc;have hm10:x.natAbs % 10<10:=Nat.mod_lt _ (by decide);have hdg:=Rf hm10;have e0:(rz [48+x.natAbs % 10]).size=1:=by rw[j6];rfl
  have e1:(rz [48+x.natAbs % 10]).size+(rz acc).size<=maxLen:=by unfold maxLen;omega
  have happ:rz [48+x.natAbs % 10]++rz acc=rz ((48+x.natAbs % 10)::acc):=(zM [48+x.natAbs % 10] acc).symm;have hne:¬(10:Int)=0:=by decide
  have hfin:∀y:Int,y=x.tdiv 10->(∃a':Int×List Nat,[DV.sc (.int .i64 y),.sc (.string (rz ((48+x.natAbs % 10)::acc)))]=[.sc (.int .i64 a'.1),.sc (.string (rz a'.2))]/\(a'.1.natAbs<=9223372036854775808/\-9223372036854775808<=a'.1/\a'.1<=9223372036854775807/\Cf a'.1.natAbs++a'.2=Cf n.natAbs)/\a'.1.natAbs<x.natAbs):=by
   rintro y rfl;refine⟨(x.tdiv 10,(48+x.natAbs % 10)::acc),rfl,⟨by simp only;omega,by simp only;omega,by simp only;omega,?_⟩,by simp only;omega⟩;rw[<-g4,hd,a1];simp
  generalize hdd:x.natAbs % 10=d at *;by_cases hneg:x.tmod 10<0
  ·have t1:x.tmod 10= -(d:Int):=by omega
   have c1:(0:Int) - -(d:Int)=(d:Int):=by omega
   have vL:yk (some (.sc (.string ⟨#[48,49,50,51,52,53,54,55,56,57]⟩))) (some (some (d:Int))) (some (some ((d+1:Nat):Int)))=some [.sc (.string (rz [48+d]))]:=by
    rw[TR (by omega) (by omega) (by show((d+1:Nat):Int)<=((10:Nat):Int);omega)];exact congrArg (λz=>some [DV.sc (.string z)]) hdg
   repeat' (first|(with_reducible first|refine ae ?_|refine ac ‹_› rfl ?_|refine ab ‹_› rfl ?_|refine ak (λhbr=>?_) λhbr=>?_)|simp(disch:=first|omega|(simp only[ax];omega)|simp only[av,Nat.reduceAdd]) only[go_sem,t1,c1,vL,yl e1,happ,d8])
   all_goals first|omega|exact hfin _ rfl
  ·have t1:x.tmod 10=(d:Int):=by omega
   have vL:yk (some (.sc (.string ⟨#[48,49,50,51,52,53,54,55,56,57]⟩))) (some (some (d:Int))) (some (some ((d+1:Nat):Int)))=some [.sc (.string (rz [48+d]))]:=by
    rw[TR (by omega) (by omega) (by show((d+1:Nat):Int)<=((10:Nat):Int);omega)];exact congrArg (λz=>some [DV.sc (.string z)]) hdg
   repeat' (first|(with_reducible first|refine ae ?_|refine ac ‹_› rfl ?_|refine ab ‹_› rfl ?_|refine ak (λhbr=>?_) λhbr=>?_)|simp(disch:=first|omega|(simp only[ax];omega)|simp only[av,Nat.reduceAdd]) only[go_sem,t1,vL,yl e1,happ,d8])
   all_goals first|omega|exact hfin _ rfl
def Lc(D:List Nat)(i:Nat):List Nat:=(List.range D.length).map λk=>if k<i\/D.length-1-k<i then D.getD (D.length-1-k) default else D.getD k default
theorem m9(D:List Nat)(i:Nat):(Lc D i).length=D.length:=by simp[Lc]
theorem Ba(D:List Nat)(i k:Nat)(h:k<D.length):(Lc D i)[k]? =some (if k<i\/D.length-1-k<i then D.getD (D.length-1-k) default else D.getD k default):=by
 unfold Lc;rw[List.getElem?_map,List.getElem?_range h];rfl
theorem F1(D:List Nat)(i k:Nat)(h:k<D.length):(Lc D i).getD k default=if k<i\/D.length-1-k<i then D.getD (D.length-1-k) default else D.getD k default:=by
 rw[List.getD_eq_getElem?_getD,Ba D i k h];rfl
theorem NC(D:List Nat):Lc D 0=D:=by
 apply List.ext_getElem?;intro k;by_cases h:k<D.length
 ·rw[Ba D 0 k h,if_neg (by omega),getD_some h]
 ·rw[List.getElem?_eq_none (by rw[m9];omega),List.getElem?_eq_none (by omega)]
theorem M6{D:List Nat}{i:Nat}(h:i<D.length-1-i):((Lc D i).set i ((Lc D i).getD (D.length-1-i) default)).set (D.length-1-i) ((Lc D i).getD i default)=Lc D (i+1):=by
 apply List.ext_getElem?;intro k;by_cases hk:k<D.length
 ·rw[List.getElem?_set,List.getElem?_set,Ba D (i+1) k hk,Ba D i k hk,F1 D i i (by omega),F1 D i (D.length-1-i) (by omega)];by_cases e1:D.length-1-i=k
  ·subst e1;rw[if_pos rfl,if_pos (by rw[List.length_set,m9];exact hk),if_neg (by omega),if_pos (by omega)];congr 2;omega
  ·rw[if_neg e1];by_cases e2:i=k
   ·subst e2;rw[if_pos rfl,if_pos (by rw[m9];exact hk),if_neg (by omega),if_pos (by omega)]
   ·rw[if_neg e2];by_cases e3:k<i\/D.length-1-k<i
    ·rw[if_pos e3,if_pos (by omega)]
    ·rw[if_neg e3,if_neg (by omega)]
 ·rw[List.getElem?_eq_none (by simp[m9];omega),List.getElem?_eq_none (by rw[m9];omega)]
theorem Qo{D:List Nat}{i:Nat}(h:¬i<D.length-1-i):Lc D i=D.reverse:=by
 apply List.ext_getElem?;intro k;by_cases hk:k<D.length
 ·rw[Ba D i k hk,List.getElem?_reverse hk];split
  ·rw[getD_some (by omega)]
  ·rw[<-getD_some hk];congr 1;omega
 ·rw[List.getElem?_eq_none (by rw[m9];omega),List.getElem?_eq_none (by simp;omega)]
set_option maxHeartbeats 2000000 in
theorem vo(n:Int)(hn:BU n):aB Tryz.prog 141 [(false,[.sc (.int .i64 n)])] [(false,[.sc (.string (ia n))],true)]:=by
 have hn': -9223372036854775808<=n/\n<=9223372036854775807:=hn;have hlen:=p8 (m:=n.natAbs) (by omega);refine ah Tryz.func141 sq rfl ?_;simp only[jf];simp(disch:=first|omega|(simp only[ax];omega)|simp only[av,Nat.reduceAdd]) only[go_sem,true_and];refine eJ (λhn0=>?_) (λhn0=>?_)
 ·simp(disch:=first|omega|(simp only[ax];omega)|simp only[av,Nat.reduceAdd]) only[go_sem,true_and];exact Gh (by unfold ia gc;rw[if_pos hn0];rfl)
 simp(disch:=first|omega|(simp only[ax];omega)|simp only[av,Nat.reduceAdd]) only[go_sem,true_and];refine lp (λs:Int×List Nat=>[.sc (.int .i64 s.1),.sl 5 1 (s.2.map rn)]) (λs=>s.1.natAbs<=9223372036854775808/\-9223372036854775808<=s.1/\s.1<=9223372036854775807/\Cf s.1.natAbs++s.2.reverse=Cf n.natAbs) (λs=>s.1.natAbs) (n,[]) rfl ⟨by simp only;omega,by simp only;omega,by simp only;omega,by simp⟩ ?_;rintro⟨x,acc⟩ ⟨g1,g2,g3,g4⟩;simp only at g1 g2 g3 g4 ⊢;simp only[ik]
 have hl2:acc.length<=19:=by
  have:=congrArg List.length g4;rw[List.length_append,List.length_reverse]at this;omega
 by_cases hx:x=0
 ·subst hx;rw[Int.natAbs_zero,ph,List.nil_append]at g4;have m45:acc.map rn++[[.sc (.int .u8 45)]]=(acc++[45]).map rn:=by rw[List.map_append];rfl
  have key:∀(J:List DV->Prop) (c0 c:DV) (D:List Nat),D.length<=20->D.reverse=gc n->V Tryz.prog (pd [(false,[.sc (.string (ia n))],true)]) dX [J] [.sl 5 1 (D.map rn),c0,c]:=by
   intro J c0 c D hD hrev;simp only[dX];simp(disch:=first|omega|(simp only[ax];omega)|simp only[av,Nat.reduceAdd]) only[go_sem,true_and];refine lp (λi:Nat=>[.sc (.int .i64 ((D.length:Int)-1-i)),.sc (.int .i64 i),.sl 5 1 ((Lc D i).map rn)]) (λi=>2*i<=D.length) (λi=>D.length-i) 0 (by simp[gL,NC]) (by omega) ?_;intro i hi;have hsl:=m9 D i;simp only[iz];by_cases hlt:i<D.length-1-i
   ·have hj:(D.length:Int)-1-i=((D.length-1-i:Nat):Int):=by omega
    have hst:=M6 hlt;have hj2:((D.length-1-i:Nat):Int)-1=(D.length:Int)-1-((i+1:Nat):Int):=by omega
    rw[hj];generalize D.length-1-i=j at*
    repeat' (first|(with_reducible first|refine ae ?_|refine ac ‹_› rfl ?_|refine ab ‹_› rfl ?_|refine ak (λhbr=>?_) λhbr=>?_)|simp(disch:=first|omega|(simp only[ax];omega)|simp only[av,Nat.reduceAdd]) only[go_sem,Yp,YP,List.length_set,hsl,hst,hj2])
    ·exact⟨i+1,rfl,by omega,by omega⟩
    ·omega
   ·have he:=Qo hlt
    repeat' (first|(with_reducible first|refine ae ?_|refine ac ‹_› rfl ?_|refine ab ‹_› rfl ?_|refine ak (λhbr=>?_) λhbr=>?_)|simp(disch:=first|omega|(simp only[ax];omega)|simp only[av,Nat.reduceAdd]) only[go_sem,Sk,he,hrev])
    ·omega
    ·rfl
  simp(disch:=first|omega|(simp only[ax];omega)|simp only[av,Nat.reduceAdd]) only[go_sem,true_and];by_cases hneg:n<0
  ·repeat' (first|(with_reducible first|refine ae ?_|refine ac ‹_› rfl ?_|refine ab ‹_› rfl ?_|refine ak (λhbr=>?_) λhbr=>?_)|simp(disch:=first|omega|(simp only[ax];omega)|simp only[av,Nat.reduceAdd]) only[go_sem,hneg,m45])
   exact key _ _ _ (acc++[45]) (by simp;omega) (by rw[List.reverse_append,g4];unfold gc;rw[if_neg hn0,if_pos hneg];rfl)
  ·repeat' (first|(with_reducible first|refine ae ?_|refine ac ‹_› rfl ?_|refine ab ‹_› rfl ?_|refine ak (λhbr=>?_) λhbr=>?_)|simp(disch:=first|omega|(simp only[ax];omega)|simp only[av,Nat.reduceAdd]) only[go_sem,hneg,m45])
   exact key _ _ _ acc (by omega) (by rw[g4];unfold gc;rw[if_neg hn0,if_neg hneg])
 ·have hd:=zT (m:=x.natAbs) (by omega);have a1:=@MM x;have a2:=@MD x;have a3:x.tmod 10<10/\-10<x.tmod 10:=by omega
  have hm10:x.natAbs % 10<10:=Nat.mod_lt _ (by decide)
  have hfin:∀y:Int,y=x.tdiv 10->(∃a':Int×List Nat,[DV.sc (.int .i64 y),.sl 5 1 ((acc++[48+x.natAbs % 10]).map rn)]=[.sc (.int .i64 a'.1),.sl 5 1 (a'.2.map rn)]/\(a'.1.natAbs<=9223372036854775808/\-9223372036854775808<=a'.1/\a'.1<=9223372036854775807/\Cf a'.1.natAbs++a'.2.reverse=Cf n.natAbs)/\a'.1.natAbs<x.natAbs):=by
   rintro y rfl;refine⟨(x.tdiv 10,acc++[48+x.natAbs % 10]),rfl,⟨by simp only;omega,by simp only;omega,by simp only;omega,?_⟩,by simp only;omega⟩;rw[<-g4,hd,a1];simp
  generalize hdd:x.natAbs % 10=d at *;have c3:(48:Int)+(d:Int)=((48+d:Nat):Int):=rfl;have w8:IntKind.u8.wrap ((48+d:Nat):Int)=((48+d:Nat):Int):=Oh (by omega) (by omega);by_cases hneg:x.tmod 10<0
  ·have t1:x.tmod 10= -(d:Int):=by omega
   have c1:(0:Int) - -(d:Int)=(d:Int):=by omega
   repeat' (first|(with_reducible first|refine ae ?_|refine ac ‹_› rfl ?_|refine ab ‹_› rfl ?_|refine ak (λhbr=>?_) λhbr=>?_)|simp(disch:=first|omega|(simp only[ax];omega)|simp only[av,Nat.reduceAdd]) only[go_sem,t1,c1,c3,w8,Sm,dZ])
   all_goals first|omega|with_reducible exact hfin _ rfl
  ·have t1:x.tmod 10=(d:Int):=by omega
   repeat' (first|(with_reducible first|refine ae ?_|refine ac ‹_› rfl ?_|refine ab ‹_› rfl ?_|refine ak (λhbr=>?_) λhbr=>?_)|simp(disch:=first|omega|(simp only[ax];omega)|simp only[av,Nat.reduceAdd]) only[go_sem,t1,c3,w8,Sm,dZ])
   all_goals first|omega|with_reducible exact hfin _ rfl
def rF(k:Nat):ByteArray:=rz (109::Cf k)
theorem tc(k:Nat)(h0:0<k)(h1:k<=4611686018427387904):aB Tryz.prog 88 [(false,[.sc (.int .i64 k)])] [(false,[.sc (.string (rF k))],true)]:=by
 have hlen:=p8 (m:=k) (by omega);refine ah Tryz.func88 vE rfl ?_;simp only[kS];simp(disch:=first|omega|(simp only[ax];omega)|simp only[av,Nat.reduceAdd]) only[go_sem,true_and];refine eJ (λh=>absurd h (by omega)) (λh=>?_);simp(disch:=first|omega|(simp only[ax];omega)|simp only[av,Nat.reduceAdd]) only[go_sem,true_and];refine lp (λs:Nat×List Nat=>[.sc (.string (rz s.2)),.sc (.int .i64 (s.1:Nat))]) (λs=>s.1<=k/\Cf s.1++s.2=Cf k) (λs=>s.1) (k,[]) rfl ⟨Nat.le_refl _,by simp⟩ ?_;rintro⟨x,acc⟩ ⟨g1,g2⟩;simp only at g1 g2 ⊢;simp only[jT];have hal:acc.length<=19:=by have:=congrArg List.length g2;rw[List.length_append]at this;omega
 by_cases hx:x=0
 ·subst hx;rw[ph,List.nil_append]at g2
  have e1:(⟨#[109]⟩:ByteArray).size+(rz acc).size<=maxLen:=by
   have e:(⟨#[109]⟩:ByteArray).size=1:=rfl;rw[j6];unfold maxLen;omega
  repeat' (first|(with_reducible first|refine ae ?_|refine ac ‹_› rfl ?_|refine ab ‹_› rfl ?_|refine ak (λhbr=>?_) λhbr=>?_)|simp(disch:=first|omega|(simp only[ax];omega)|simp only[av,Nat.reduceAdd]) only[go_sem,yl e1])
  refine Gh ?_;unfold rF;rw[g2];exact zM [109] _
 ·have hd:=zT hx;have d1:(x:Int).tmod 10=((x % 10:Nat):Int):=rfl;have d2:(x:Int).tdiv 10=((x / 10:Nat):Int):=rfl;have d3:(48:Int)+((x % 10:Nat):Int)=((48+x % 10:Nat):Int):=rfl;have d4:IntKind.u8.wrap ((48+x % 10:Nat):Int)=((48+x % 10:Nat):Int):=Oh (by omega) (by omega);have d5:Mw (some (.sl 5 1 [[.sc (.int .u8 ((48+x % 10:Nat):Int))]]))=some [.sc (.string (rz [48+x % 10]))]:=Sk (l:=[48+x % 10]);have e1:(rz [48+x % 10]).size+(rz acc).size<=maxLen:=by rw[j6,j6];unfold maxLen;simp;omega
  have happ:rz [48+x % 10]++rz acc=rz ((48+x % 10)::acc):=(zM [48+x % 10] acc).symm
  repeat' (first|(with_reducible first|refine ae ?_|refine ac ‹_› rfl ?_|refine ab ‹_› rfl ?_|refine ak (λhbr=>?_) λhbr=>?_)|simp(disch:=first|omega|(simp only[ax];omega)|simp only[av,Nat.reduceAdd]) only[go_sem,d1,d2,d3,d4,d5,yl e1,happ])
  all_goals first|omega|exact⟨(x / 10,(48+x % 10)::acc),rfl,⟨by simp only;omega,by rw[<-g2,hd];simp⟩,by simp only;omega⟩
theorem UO{w:World}{B:Nat->Prop}{k:Int}:EJ w B (.int .i64 k) (false,[.sc (.int .i64 k)]):=.sc trivial .nil
theorem Ae(x:Int)(K:Nat)(w:World)(hx:x=K)(h0:0<K)(h1:K<=4611686018427387904):
 Calls Tryz.prog 88 #[.int .i64 x] w λe w'=>e=.returned (.string (rF K))/\Below w.heap.size w w':=by
 subst hx;exact Jz (tc K h0 h1) (dg.cons UO dg.nil)
theorem fm{w:World}{base:Nat}{vals:List Value}{ds:List DV}{g:List Nat}(h:aR w base vals ds g)(hf:pz ds):g=[]:=by
 induction h with
 |nil=>rfl
 |sc _ _ ih=>exact ih (λd hd=>hf d (List.mem_cons_of_mem _ hd))
 |sl=>obtain⟨v,hv⟩:=hf _ (List.mem_cons_self ..);cases hv
theorem oY{w w':World}{v:Value}(h:w.grownBy w' v.ownBlock):ci w w' ([v.ownBlock.toList]:List (List Nat)).flatten:=
 ⟨h.os,h.tape,h.output,h.size,λb hb hn=>h.block b hb (λe=>hn (by simp[<-e]))⟩
attribute[-go_sem] uv
def dI(l:List It):List Value:=l.flatMap k9
def lB(l:List It):List (O7 It):=l.map λx=>⟨x,[],k9 x⟩
theorem BY(l:List It):(lB l).flatMap O7.c=dI l:=by simp[lB,dI,List.flatMap_map]
theorem Ah(l:List It):(dI l).length=l.length*3:=by
 rw[<-BY,LO (size:=3) (by intro e he;simp[lB]at he;obtain⟨x,_,rfl⟩:=he;rfl)];simp[lB]
theorem GY(l:List It)(k:Nat)(x:It)(hk:k<l.length):(((dI l).set (k*3) (.int .i64 x.num)).set (k*3+1) (.int .i64 x.den)).set (k*3+2) (.string x.text)=dI (l.set k x):=by
 have h1:tS (dI l) (k*3) (k9 x)=dI (l.set k x):=by
  rw[jS _ _ _ (by rw[Ah];simp[k9];omega),<-BY,<-BY];have:=OD (size:=3) (⟨x,[],k9 x⟩:O7 It) (lB l) k (by intro e he;simp[lB]at he;obtain⟨x,_,rfl⟩:=he;rfl) rfl (by simpa[lB]using hk);rw[show lB (l.set k x)=(lB l).set k ⟨x,[],k9 x⟩from by simp[lB,List.map_set],this];rfl
 rw[<-h1];rfl
def rM(k:Nat):It:=⟨k,k+1,rF (k+2)⟩
def bI(k n:Nat):List It:=(List.range n).map λi=>rM (k+3*i)
theorem gj(k n:Nat):(bI k n).length=n:=by simp[bI]
theorem Gs{k n i:Nat}(h:i<n):(bI k n)[i]? =some (rM (k+3*i)):=by simp[bI,h]
theorem Eg(l:List It)(k0 k:Nat)(hk:k<l.length):(bI k0 k++l.drop k).set k (rM (k0+3*k))=bI k0 (k+1)++l.drop (k+1):=by
 have hl:=gj k0 k;rw[List.set_append_right _ _ (by omega),hl,Nat.sub_self,List.drop_eq_getElem_cons hk,List.set_cons_zero];have:bI k0 (k+1)=bI k0 k++[rM (k0+3*k)]:=by simp[bI,List.range_succ]
 rw[this,List.append_assoc];rfl
def Gi(k0 n:Nat)(w:World)(base:Nat)(A:Option Addr)(c:Nat)(l:List It)(v1 v5:Value)(wr:World):Prop:=
 ∃k:Nat,k<=n/\v5=.int .i64 k/\v1=.int .i64 ((k0+3*k:Nat):Int)/\wr.ownsRow base 78 3 (.slice A n c) n (dI (bI k0 k++l.drop k))/\w.grownBy wr (Value.slice A n c).ownBlock
theorem GZ{k0 n:Nat}{w wr w2:World}{base g c:Nat}{l:List It}{k:Nat}(hk:k<n)(hl:l.length=n)
 (hown:wr.ownsRow base 78 3 (.slice (some ⟨g,0,none⟩) n c) n (dI (bI k0 k++l.drop k))) (hg:w.grownBy wr (Value.slice (some ⟨g,0,none⟩) n c).ownBlock)
 (hb:Below ((wr.setCell ⟨g,k*3,none⟩ (.int .i64 ((k0+3*k:Nat):Int))).setCell ⟨g,k*3+1,none⟩ (.int .i64 ((k0+3*k+1:Nat):Int))).heap.size ((wr.setCell ⟨g,k*3,none⟩ (.int .i64 ((k0+3*k:Nat):Int))).setCell ⟨g,k*3+1,none⟩ (.int .i64 ((k0+3*k+1:Nat):Int))) w2):
 Gi k0 n w base (some ⟨g,0,none⟩) c l (.int .i64 ((k0+3*k+3:Nat):Int)) (.int .i64 ((k:Int)+1)) (w2.setCell ⟨g,k*3+2,none⟩ (.string (rF (k0+3*k+2)))):=by
 have h1:=hown.stored (k*3) (.int .i64 ((k0+3*k:Nat):Int));have h2:=h1.1.stored (k*3+1) (.int .i64 ((k0+3*k+1:Nat):Int));have h3:=C6 h2.1 hb (Nat.le_refl _);have h4:=h3.stored (k*3+2) (.string (rF (k0+3*k+2)));have hgb:(wr.setCell ⟨g,k*3,none⟩ (.int .i64 ((k0+3*k:Nat):Int))).setCell ⟨g,k*3+1,none⟩ (.int .i64 ((k0+3*k+1:Nat):Int))|>.grownBy w2 (some g):=⟨hb.os,hb.tape,hb.output,hb.size,λi hi _=>hb.block i hi⟩;refine⟨k+1,hk,rfl,by congr 2,?_,((hg.trans h1.2).trans h2.2).trans (hgb.trans h4.2)⟩;have h5:=h4.1;have e:=GY (bI k0 k++l.drop k) k (rM (k0+3*k)) (by simp[gj];omega);rw[Eg l k0 k (by omega)]at e;rw[<-e];exact h5
theorem CI(A:Option Addr)(n c base k0:Nat)(l:List It)(w:World)(ha:w.ownsRow base 78 3 (.slice A n c) n (dI l))(hl:l.length=n)(h0:0<k0)(h1:k0+3*n<=4611686018427387904):
 Calls Tryz.prog 45 #[.slice A n c,.int .i64 k0] w λe w'=>e=.returned (.int .i64 ((k0+3*n:Nat):Int))/\w'.ownsRow base 78 3 (.slice A n c) n (dI (bI k0 n))/\w.grownBy w' (Value.slice A n c).ownBlock:=by
 have HL:=Lib.hid hl;clear hl
 go_enter Tryz.func45,Tryz.ntmps45
 go_wp2
 go_loopw [1,5] (Gi k0 n w base A c l) (λ_ i _=>n-(intOf i).toNat)
 case atStart=>exact⟨0,Nat.zero_le _,rfl,rfl,by simpa[bI]using ha,World.grownBy.refl w _⟩
 case round=>
  obtain⟨k,hk,rfl,rfl,hown,hg⟩:=hrel;by_cases hlt:k<n
  ·obtain⟨g,cap,hv,-,-⟩:=hown.form (by omega);injection hv with e1 e2 e3;subst e1 e3;have R:=λw2=>GZ (w2:=w2) hlt HL.out hown hg
   have hfl:(dI (bI k0 k++l.drop k)).length=n*3:=by have:=HL.out;rw[Ah];simp[gj];omega
   obtain⟨z0,c0⟩:∃z,wr.cell? ⟨g,k*3,none⟩=some z:=⟨_,(hown.cellAt (k*3) (by omega)).trans (List.getElem?_eq_getElem (by omega))⟩;obtain⟨z1,c1⟩:∃z,wr.cell? ⟨g,k*3+1,none⟩=some z:=⟨_,(hown.cellAt (k*3+1) (by omega)).trans (List.getElem?_eq_getElem (by omega))⟩;obtain⟨z2,c2⟩:∃z,wr.cell? ⟨g,k*3+2,none⟩=some z:=⟨_,(hown.cellAt (k*3+2) (by omega)).trans (List.getElem?_eq_getElem (by omega))⟩;have f0:=hown.frozenAt (k*3);have f1:=hown.frozenAt (k*3+1);have f2:=hown.frozenAt (k*3+2);have hgl:=(fZ hown rfl).2;have HR:=Lib.hid R;clear hown hg ha hfl R;generalize hK:k0+3*k=K at HR ⊢;have hKb:K+3<=4611686018427387904:=by omega
   have HKK:=Lib.hid hK;clear hK
   go_wp2_with fail
   refine(Ae _ (K+2) _ (by omega) (by omega) (by omega)).mono ?_;rintro e w2 ⟨rfl,hb⟩;have R:=HR.out w2 hb;obtain⟨hc,hf⟩:=Jt hb;have hz:g<w2.heap.size:=by have:=hb.size;simp at this;omega
   clear hb HR
   go_wp2
   go_roundw
   case rel=>exact R
   case measure=>simp[intOf];omega
  ·go_wp2
   go_ret
   obtain rfl:k=n:=by omega
   rw[List.drop_of_length_le (by rw[HL.out];omega),List.append_nil]at hown;exact⟨tU rfl,hown,hg⟩
end Go.Proofs.YtliknccmjjncbaaGreat
namespace Go.Proofs.YtliknccmjjncbaaGreat
open Go.RowKit
set_option maxRecDepth 100000
attribute[-go_sem] uv
def bJ(l:List It):DV:=.sl 78 3 (l.map ao)
theorem Mf(x:It)(left:Int)(ht:x.text.size<=9223372036854775807)(h0:0<=left)(h1:left<=1048576):aB Tryz.prog 50 [(true,ao x),(false,[.sc (.int .i64 left)])] [(false,[.sc (.int .i64 (JN left (cI x)))],true)]:=by
 have hw:IntKind.i64.wrap (left-(x.text.size:Int))=left-x.text.size:=R4 _ (by omega);refine j8 Tryz.func50 rfl (by kernel_rfl) (by simp) Tryz.ntmps50 (congrArg Array.toList Tryz.results50) ?_;by_cases hc:left-(x.text.size:Int)<0
 ·have hs:JN left (cI x)= -1:=bS (by unfold cI;omega);simp only[go_sem,↓reduceIte,Nat.reduceAdd,Nat.reduceSub,Nat.reduceMul,Nat.reduceLT,Nat.reduceLeDiff,Nat.reduceEqDiff,Int.reduceLT,Int.reduceLE,Int.reduceEq,Nat.reduceBEq,reduceCtorEq,reduceCtorEq,ao,hw,decide_eq_true hc,hs];refine Or.inl ?_;repeat' (first|exact cC|exact trivial|with_reducible apply dh|with_reducible apply co (by decide)|with_reducible apply cK|with_reducible apply Exists.intro|with_reducible apply And.intro|(show(_:Option Ob)=_;simp only[go_sem,↓reduceIte,Nat.reduceAdd,Nat.reduceSub,Nat.reduceMul,Nat.reduceLT,Nat.reduceLeDiff,Nat.reduceEqDiff,Int.reduceLT,Int.reduceLE,Int.reduceEq,Nat.reduceBEq,reduceCtorEq,reduceCtorEq,true_and]))
 ·have hs:JN left (cI x)=left-x.text.size:=dl (by unfold cI;omega);simp only[go_sem,↓reduceIte,Nat.reduceAdd,Nat.reduceSub,Nat.reduceMul,Nat.reduceLT,Nat.reduceLeDiff,Nat.reduceEqDiff,Int.reduceLT,Int.reduceLE,Int.reduceEq,Nat.reduceBEq,reduceCtorEq,reduceCtorEq,ao,hw,decide_eq_false hc,hs];refine Or.inl ?_;repeat' (first|exact cC|exact trivial|with_reducible apply dh|with_reducible apply co (by decide)|with_reducible apply cK|with_reducible apply Exists.intro|with_reducible apply And.intro|(show(_:Option Ob)=_;simp only[go_sem,↓reduceIte,Nat.reduceAdd,Nat.reduceSub,Nat.reduceMul,Nat.reduceLT,Nat.reduceLeDiff,Nat.reduceEqDiff,Int.reduceLT,Int.reduceLE,Int.reduceEq,Nat.reduceBEq,reduceCtorEq,reduceCtorEq,true_and]))
theorem KI(t:Nat)(l:List It)(left:Int)(hn:l.length<=9223372036854775807)(ht:∀x∈l,x.text.size<=9223372036854775807)(h0:0<=left)(h1:left<=1048576):
 aB Tryz.prog 17 [(false,[.sl t 3 (l.map ao)]),(false,[.sc (.int .i64 left)])] [(false,[.sc (.int .i64 (JN left (bT l)))],true)]:=by
 have hw:IntKind.i64.wrap (left-(l.length:Int))=left-l.length:=R4 _ (by omega);refine j8 Tryz.func17 rfl (by kernel_rfl) (by simp) Tryz.ntmps17 (congrArg Array.toList Tryz.results17) ?_;by_cases hc:left-(l.length:Int)<0
 ·have hs:JN left (bT l)= -1:=bS (by unfold bT;omega);simp only[go_sem,↓reduceIte,Nat.reduceAdd,Nat.reduceSub,Nat.reduceMul,Nat.reduceLT,Nat.reduceLeDiff,Nat.reduceEqDiff,Int.reduceLT,Int.reduceLE,Int.reduceEq,Nat.reduceBEq,reduceCtorEq,reduceCtorEq,List.length_map,hw,decide_eq_true hc,hs];refine Or.inl ?_;repeat' (first|exact cC|exact trivial|with_reducible apply dh|with_reducible apply co (by decide)|with_reducible apply cK|with_reducible apply Exists.intro|with_reducible apply And.intro|(show(_:Option Ob)=_;simp only[go_sem,↓reduceIte,Nat.reduceAdd,Nat.reduceSub,Nat.reduceMul,Nat.reduceLT,Nat.reduceLeDiff,Nat.reduceEqDiff,Int.reduceLT,Int.reduceLE,Int.reduceEq,Nat.reduceBEq,reduceCtorEq,reduceCtorEq,true_and]))
 ·simp only[go_sem,↓reduceIte,Nat.reduceAdd,Nat.reduceSub,Nat.reduceMul,Nat.reduceLT,Nat.reduceLeDiff,Nat.reduceEqDiff,Int.reduceLT,Int.reduceLE,Int.reduceEq,Nat.reduceBEq,reduceCtorEq,reduceCtorEq,List.length_map,hw,decide_eq_false hc];refine tQ (λs m=>∃(k:Nat) (r:Int),k<=l.length/\m=l.length-k/\0<=r/\r=left-l.length-(aA cI (l.take k):Nat)/\s.n=0/\s.sl 0=.p false [.d (.sl t 3 (l.map ao))]/\s.sl 1=.p false [.d (.sc (.int .i64 r))]/\s.sl 5=.p false [.d (.sc (.int .i64 k))]) l.length ?_ ?_
  ·exact⟨0,_,Nat.zero_le _,rfl,by omega,by simp[aA],rfl,rfl,rfl,rfl⟩
  ·rintro s m ⟨k,r,hk,rfl,hr0,hr,hn0,g0,g1,g5⟩;by_cases hlt:k<l.length
   ·have hx:=List.getElem?_eq_getElem hlt;generalize l[k]=x at hx;have hd:decide ((k:Int)<(l.length:Int))=true:=by simpa using hlt
    have hw2:IntKind.i64.wrap ((k:Int)+1)=(k+1:Nat):=AN (k+1) (by omega);have hsu:=Io cI l hx;simp only[go_sem,↓reduceIte,Nat.reduceAdd,Nat.reduceSub,Nat.reduceMul,Nat.reduceLT,Nat.reduceLeDiff,Nat.reduceEqDiff,Int.reduceLT,Int.reduceLE,Int.reduceEq,Nat.reduceBEq,reduceCtorEq,reduceCtorEq,g0,g1,g5,hn0,List.length_map,hd,List.getElem?_map,hx,Option.map_some,ao];refine zZ rfl (Mf x r (ht x (List.mem_of_getElem? hx)) hr0 (by omega)) rfl rfl (by simp only[go_sem,↓reduceIte,Nat.reduceAdd,Nat.reduceSub,Nat.reduceMul,Nat.reduceLT,Nat.reduceLeDiff,Nat.reduceEqDiff,Int.reduceLT,Int.reduceLE,Int.reduceEq,Nat.reduceBEq,reduceCtorEq,reduceCtorEq,ao]) ?_;by_cases hc2:r<cI x
    ·have hs:=bS hc2
     have hs2:JN left (bT l)= -1:=bS (by
      have h3:aA cI (l.take (k+1))<=aA cI l:=by
       have:aA cI l=aA cI (l.take (k+1))+aA cI (l.drop (k+1)):=by
        unfold aA;rw[<-List.sum_append,<-List.map_append,List.take_append_drop]
       omega
      unfold bT;omega)
     simp only[go_sem,↓reduceIte,Nat.reduceAdd,Nat.reduceSub,Nat.reduceMul,Nat.reduceLT,Nat.reduceLeDiff,Nat.reduceEqDiff,Int.reduceLT,Int.reduceLE,Int.reduceEq,Nat.reduceBEq,reduceCtorEq,reduceCtorEq,hs,hs2];refine Or.inl ?_;repeat' (first|exact cC|exact trivial|with_reducible apply dh|with_reducible apply co (by decide)|with_reducible apply cK|with_reducible apply Exists.intro|with_reducible apply And.intro|(show(_:Option Ob)=_;simp only[go_sem,↓reduceIte,Nat.reduceAdd,Nat.reduceSub,Nat.reduceMul,Nat.reduceLT,Nat.reduceLeDiff,Nat.reduceEqDiff,Int.reduceLT,Int.reduceLE,Int.reduceEq,Nat.reduceBEq,reduceCtorEq,reduceCtorEq,true_and]))
    ·have hs:=dl (left:=r) (wt:=cI x) (by omega);have hd2:decide (r-(cI x:Int)<0)=false:=decide_eq_false (by omega);simp only[go_sem,↓reduceIte,Nat.reduceAdd,Nat.reduceSub,Nat.reduceMul,Nat.reduceLT,Nat.reduceLeDiff,Nat.reduceEqDiff,Int.reduceLT,Int.reduceLE,Int.reduceEq,Nat.reduceBEq,reduceCtorEq,reduceCtorEq,hs,hd2,g5,hw2,hn0];exact⟨0,l.length-(k+1),by omega,by omega,k+1,r-cI x,by omega,rfl,by omega,by omega,rfl,g0,rfl,rfl⟩
   ·have hd:decide ((k:Int)<(l.length:Int))=false:=by simpa using hlt
    have hs:JN left (bT l)=r:=by
     rw[Km _ _ (by omega)]at hr;rw[dl (by unfold bT;omega)];unfold bT;omega
    simp only[go_sem,↓reduceIte,Nat.reduceAdd,Nat.reduceSub,Nat.reduceMul,Nat.reduceLT,Nat.reduceLeDiff,Nat.reduceEqDiff,Int.reduceLT,Int.reduceLE,Int.reduceEq,Nat.reduceBEq,reduceCtorEq,reduceCtorEq,g0,g1,g5,hn0,List.length_map,hd,hs];refine Or.inl ?_;repeat' (first|exact cC|exact trivial|with_reducible apply dh|with_reducible apply co (by decide)|with_reducible apply cK|with_reducible apply Exists.intro|with_reducible apply And.intro|(show(_:Option Ob)=_;simp only[go_sem,↓reduceIte,Nat.reduceAdd,Nat.reduceSub,Nat.reduceMul,Nat.reduceLT,Nat.reduceLeDiff,Nat.reduceEqDiff,Int.reduceLT,Int.reduceLE,Int.reduceEq,Nat.reduceBEq,reduceCtorEq,reduceCtorEq,true_and]))
theorem Mu(x:It):aB Tryz.prog 66 [(true,ao x)] [(true,ao x,true)]:=by
 refine j8 Tryz.func66 rfl (by kernel_rfl) (by simp) Tryz.ntmps66 (congrArg Array.toList Tryz.results66) ?_;simp only[go_sem,↓reduceIte,Nat.reduceAdd,Nat.reduceSub,Nat.reduceMul,Nat.reduceLT,Nat.reduceLeDiff,Nat.reduceEqDiff,Int.reduceLT,Int.reduceLE,Int.reduceEq,Nat.reduceBEq,reduceCtorEq,reduceCtorEq,ao];refine Or.inl ?_;repeat' (first|exact cC|exact trivial|with_reducible apply dh|with_reducible apply co (by decide)|with_reducible apply cK|with_reducible apply Exists.intro|with_reducible apply And.intro|(show(_:Option Ob)=_;simp only[go_sem,↓reduceIte,Nat.reduceAdd,Nat.reduceSub,Nat.reduceMul,Nat.reduceLT,Nat.reduceLeDiff,Nat.reduceEqDiff,Int.reduceLT,Int.reduceLE,Int.reduceEq,Nat.reduceBEq,reduceCtorEq,reduceCtorEq,true_and]))
def Ak:List DV:=[.sc (.int .i64 0),.sc (.int .i64 0),.sc (.string ByteArray.empty)]
theorem KT(t:Nat)(l:List It)(hn:l.length<=1048576):aB Tryz.prog 29 [(false,[.sl t 3 (l.map ao)])] [(false,[bJ l],true)]:=by
 refine j8 Tryz.func29 rfl (by kernel_rfl) (by simp) Tryz.ntmps29 (congrArg Array.toList Tryz.results29) ?_;simp only[go_sem,↓reduceIte,Nat.reduceAdd,Nat.reduceSub,Nat.reduceMul,Nat.reduceLT,Nat.reduceLeDiff,Nat.reduceEqDiff,Int.reduceLT,Int.reduceLE,Int.reduceEq,Nat.reduceBEq,reduceCtorEq,reduceCtorEq,List.length_map];refine Id (n:=l.length) (zs:=[.int .i64 0,.int .i64 0,.string ByteArray.empty]) (ds:=Ak) rfl rfl rfl tel_32 (by decide) tzero_78 rfl rfl tby_78 (by omega) (by omega) rfl ?_;simp only[go_sem,↓reduceIte,Nat.reduceAdd,Nat.reduceSub,Nat.reduceMul,Nat.reduceLT,Nat.reduceLeDiff,Nat.reduceEqDiff,Int.reduceLT,Int.reduceLE,Int.reduceEq,Nat.reduceBEq,reduceCtorEq,reduceCtorEq,true_and];refine tQ (λs m=>∃k:Nat,k<=l.length/\m=l.length-k/\s.n=1/\s.sl 0=.p false [.d (.sl t 3 (l.map ao))]/\s.sl 4=.p false [.d (.sc (.int .i64 k))]/\s.sl 3=.p false [.own 0 0]/\s.ob 0=.row 0 78 3 (cE (l.map ao) k Ak) true) l.length ?_ ?_
 ·exact⟨0,Nat.zero_le _,rfl,rfl,rfl,rfl,rfl,by rw[Ik,List.length_map];rfl⟩
 ·rintro s m ⟨k,hk,rfl,hn0,g0,g4,g3,o0⟩;by_cases hlt:k<l.length
  ·have hx:=List.getElem?_eq_getElem hlt;generalize l[k]=x at hx;have hd:decide ((k:Int)<(l.length:Int))=true:=by simpa using hlt
   have hw2:IntKind.i64.wrap ((k:Int)+1)=(k+1:Nat):=AN (k+1) (by omega);have hst:=Ds (z:=Ak) (show(l.map ao)[k]? =some (ao x)from by rw[List.getElem?_map,hx];rfl);have hlen:(cE (l.map ao) k Ak).length=l.length:=by rw[CU (by simpa using hk),List.length_map]
   have hget:(cE (l.map ao) k Ak)[k]? =some Ak:=CX (by simpa using hlt);simp only[go_sem,↓reduceIte,Nat.reduceAdd,Nat.reduceSub,Nat.reduceMul,Nat.reduceLT,Nat.reduceLeDiff,Nat.reduceEqDiff,Int.reduceLT,Int.reduceLE,Int.reduceEq,Nat.reduceBEq,reduceCtorEq,reduceCtorEq,g0,g4,g3,hn0,List.length_map,hd,List.getElem?_map,hx,Option.map_some,ao];refine zZ rfl (Mu x) rfl rfl (by simp only[go_sem,↓reduceIte,Nat.reduceAdd,Nat.reduceSub,Nat.reduceMul,Nat.reduceLT,Nat.reduceLeDiff,Nat.reduceEqDiff,Int.reduceLT,Int.reduceLE,Int.reduceEq,Nat.reduceBEq,reduceCtorEq,reduceCtorEq,ao]) ?_;simp only[go_sem,↓reduceIte,Nat.reduceAdd,Nat.reduceSub,Nat.reduceMul,Nat.reduceLT,Nat.reduceLeDiff,Nat.reduceEqDiff,Int.reduceLT,Int.reduceLE,Int.reduceEq,Nat.reduceBEq,reduceCtorEq,reduceCtorEq,ao,o0,g4,hlen,hlt];refine KU (i:=0) (st:=0) (k:=3) (j:=k) (off:=0) (es:=cE (l.map ao) k Ak) (e:=Ak) (ds:=ao x) (t':=78) (xs:=(ao x).map .d) rfl rfl rfl (by simp only[go_sem,↓reduceIte,Nat.reduceAdd,Nat.reduceSub,Nat.reduceMul,Nat.reduceLT,Nat.reduceLeDiff,Nat.reduceEqDiff,Int.reduceLT,Int.reduceLE,Int.reduceEq,Nat.reduceBEq,reduceCtorEq,reduceCtorEq,o0]) hget (by simp only[go_sem,↓reduceIte,Nat.reduceAdd,Nat.reduceSub,Nat.reduceMul,Nat.reduceLT,Nat.reduceLeDiff,Nat.reduceEqDiff,Int.reduceLT,Int.reduceLE,Int.reduceEq,Nat.reduceBEq,reduceCtorEq,reduceCtorEq,ao]) tsz_78 (Nat.le_refl _) (eT.ofFlat rfl (Bw x)) (by simp only[go_sem,↓reduceIte,Nat.reduceAdd,Nat.reduceSub,Nat.reduceMul,Nat.reduceLT,Nat.reduceLeDiff,Nat.reduceEqDiff,Int.reduceLT,Int.reduceLE,Int.reduceEq,Nat.reduceBEq,reduceCtorEq,reduceCtorEq,o0]) ?_;rw[show plug 0 (ao x) Ak=ao x from rfl,hst];simp only[go_sem,↓reduceIte,Nat.reduceAdd,Nat.reduceSub,Nat.reduceMul,Nat.reduceLT,Nat.reduceLeDiff,Nat.reduceEqDiff,Int.reduceLT,Int.reduceLE,Int.reduceEq,Nat.reduceBEq,reduceCtorEq,reduceCtorEq,g4,hw2];exact⟨1,l.length-(k+1),by omega,by omega,k+1,by omega,rfl,rfl,g0,rfl,g3,rfl⟩
  ·have hd:decide ((k:Int)<(l.length:Int))=false:=by simpa using hlt
   obtain rfl:k=l.length:=by omega
   rw[show cE (l.map ao) l.length Ak=l.map ao from by have:=DH (l.map ao) Ak;rwa [List.length_map]at this]at o0;simp only[go_sem,↓reduceIte,Nat.reduceAdd,Nat.reduceSub,Nat.reduceMul,Nat.reduceLT,Nat.reduceLeDiff,Nat.reduceEqDiff,Int.reduceLT,Int.reduceLE,Int.reduceEq,Nat.reduceBEq,reduceCtorEq,reduceCtorEq,g0,g4,g3,hn0,List.length_map,hd,bJ];refine Or.inl ?_;repeat' (first|exact cC|exact trivial|with_reducible apply dh|with_reducible apply co (by decide)|with_reducible apply cK|with_reducible apply Exists.intro|with_reducible apply And.intro|(show(_:Option Ob)=_;simp only[go_sem,↓reduceIte,Nat.reduceAdd,Nat.reduceSub,Nat.reduceMul,Nat.reduceLT,Nat.reduceLeDiff,Nat.reduceEqDiff,Int.reduceLT,Int.reduceLE,Int.reduceEq,Nat.reduceBEq,reduceCtorEq,reduceCtorEq,o0]))
theorem LB(x:It):aB Tryz.prog 87 [(true,ao x),(true,ao x)] [(false,[.sc (.bool true)],true)]:=by
 refine j8 Tryz.func87 rfl (by kernel_rfl) (by simp) Tryz.ntmps87 (congrArg Array.toList Tryz.results87) ?_;simp only[go_sem,↓reduceIte,Nat.reduceAdd,Nat.reduceSub,Nat.reduceMul,Nat.reduceLT,Nat.reduceLeDiff,Nat.reduceEqDiff,Int.reduceLT,Int.reduceLE,Int.reduceEq,Nat.reduceBEq,reduceCtorEq,reduceCtorEq,ao];refine Or.inl ?_;repeat' (first|exact cC|exact trivial|with_reducible apply dh|with_reducible apply co (by decide)|with_reducible apply cK|with_reducible apply Exists.intro|with_reducible apply And.intro|(show(_:Option Ob)=_;simp only[go_sem,↓reduceIte,Nat.reduceAdd,Nat.reduceSub,Nat.reduceMul,Nat.reduceLT,Nat.reduceLeDiff,Nat.reduceEqDiff,Int.reduceLT,Int.reduceLE,Int.reduceEq,Nat.reduceBEq,reduceCtorEq,reduceCtorEq,true_and]))
theorem KJ(l:List It)(hn:l.length<=4611686018427387903):aB Tryz.prog 39 [(false,[bJ l]),(false,[bJ l])] [(false,[.sc (.bool true)],true)]:=by
 refine j8 Tryz.func39 rfl (by kernel_rfl) (by simp) Tryz.ntmps39 (congrArg Array.toList Tryz.results39) ?_;simp only[go_sem,↓reduceIte,Nat.reduceAdd,Nat.reduceSub,Nat.reduceMul,Nat.reduceLT,Nat.reduceLeDiff,Nat.reduceEqDiff,Int.reduceLT,Int.reduceLE,Int.reduceEq,Nat.reduceBEq,reduceCtorEq,reduceCtorEq,bJ,List.length_map];refine tQ (λs m=>∃k:Nat,k<=l.length/\m=l.length-k/\s.n=0/\s.sl 0=.p false [.d (bJ l)]/\s.sl 1=.p false [.d (bJ l)]/\s.sl 5=.p false [.d (.sc (.int .i64 k))]) l.length ?_ ?_
 ·exact⟨0,Nat.zero_le _,rfl,rfl,rfl,rfl,rfl⟩
 ·rintro s m ⟨k,hk,rfl,hn0,g0,g1,g5⟩;by_cases hlt:k<l.length
  ·have hx:=List.getElem?_eq_getElem hlt;generalize l[k]=x at hx;have hd:decide ((k:Int)<(l.length:Int))=true:=by simpa using hlt
   have hw2:IntKind.i64.wrap ((k:Int)+1)=(k+1:Nat):=AN (k+1) (by omega);simp only[go_sem,↓reduceIte,Nat.reduceAdd,Nat.reduceSub,Nat.reduceMul,Nat.reduceLT,Nat.reduceLeDiff,Nat.reduceEqDiff,Int.reduceLT,Int.reduceLE,Int.reduceEq,Nat.reduceBEq,reduceCtorEq,reduceCtorEq,g0,g1,g5,hn0,bJ,List.length_map,hd];refine Dv (n:=10) true (by kernel_rfl) (by kernel_rfl) ?_;simp only[go_sem,↓reduceIte,Nat.reduceAdd,Nat.reduceSub,Nat.reduceMul,Nat.reduceLT,Nat.reduceLeDiff,Nat.reduceEqDiff,Int.reduceLT,Int.reduceLE,Int.reduceEq,Nat.reduceBEq,reduceCtorEq,reduceCtorEq,g0,g1,g5,hn0,bJ,List.getElem?_map,hx,Option.map_some,ao];refine RX rfl (LB x) rfl (by simp only[go_sem,↓reduceIte,Nat.reduceAdd,Nat.reduceSub,Nat.reduceMul,Nat.reduceLT,Nat.reduceLeDiff,Nat.reduceEqDiff,Int.reduceLT,Int.reduceLE,Int.reduceEq,Nat.reduceBEq,reduceCtorEq,reduceCtorEq,ao]) (λ_=>rfl) ?_;simp only[go_sem,↓reduceIte,Nat.reduceAdd,Nat.reduceSub,Nat.reduceMul,Nat.reduceLT,Nat.reduceLeDiff,Nat.reduceEqDiff,Int.reduceLT,Int.reduceLE,Int.reduceEq,Nat.reduceBEq,reduceCtorEq,reduceCtorEq,g5,hw2,hn0];exact⟨0,l.length-(k+1),by omega,by omega,k+1,by omega,rfl,rfl,g0,g1,rfl⟩
  ·have hd:decide ((k:Int)<(l.length:Int))=false:=by simpa using hlt
   simp only[go_sem,↓reduceIte,Nat.reduceAdd,Nat.reduceSub,Nat.reduceMul,Nat.reduceLT,Nat.reduceLeDiff,Nat.reduceEqDiff,Int.reduceLT,Int.reduceLE,Int.reduceEq,Nat.reduceBEq,reduceCtorEq,reduceCtorEq,g0,g1,g5,hn0,bJ,List.length_map,hd];refine Or.inl ?_;repeat' (first|exact cC|exact trivial|with_reducible apply dh|with_reducible apply co (by decide)|with_reducible apply cK|with_reducible apply Exists.intro|with_reducible apply And.intro|(show(_:Option Ob)=_;simp only[go_sem,↓reduceIte,Nat.reduceAdd,Nat.reduceSub,Nat.reduceMul,Nat.reduceLT,Nat.reduceLeDiff,Nat.reduceEqDiff,Int.reduceLT,Int.reduceLE,Int.reduceEq,Nat.reduceBEq,reduceCtorEq,reduceCtorEq,true_and]))
theorem ym(k0 n:Nat)(h0:0<k0)(h1:k0+3*n<=4611686018427387904):aB Tryz.prog 47 [(false,[bJ (bI k0 n)]),(false,[.sc (.int .i64 k0)])] [(false,[.sc (.int .i64 ((k0+3*n:Nat):Int))],true)]:=by
 have hl:=gj k0 n;refine j8 Tryz.func47 rfl (by kernel_rfl) (by simp) Tryz.ntmps47 (congrArg Array.toList Tryz.results47) ?_;simp only[go_sem,↓reduceIte,Nat.reduceAdd,Nat.reduceSub,Nat.reduceMul,Nat.reduceLT,Nat.reduceLeDiff,Nat.reduceEqDiff,Int.reduceLT,Int.reduceLE,Int.reduceEq,Nat.reduceBEq,reduceCtorEq,reduceCtorEq,bJ,List.length_map];refine tQ (λs m=>∃k:Nat,k<=n/\m=n-k/\s.n=0/\s.sl 0=.p false [.d (bJ (bI k0 n))]/\s.sl 1=.p false [.d (.sc (.int .i64 ((k0+3*k:Nat):Int)))]/\s.sl 5=.p false [.d (.sc (.int .i64 k))]) n ?_ ?_
 ·exact⟨0,Nat.zero_le _,rfl,rfl,rfl,rfl,rfl⟩
 ·rintro s m ⟨k,hk,rfl,hn0,g0,g1,g5⟩;by_cases hlt:k<n
  ·have hx:=Gs (k:=k0) hlt;have hd:decide ((k:Int)<(n:Int))=true:=by simpa using hlt
   have hw2:IntKind.i64.wrap ((k:Int)+1)=(k+1:Nat):=AN (k+1) (by omega);have hK:k0+3*(k+1)=k0+3*k+3:=by omega
   have hK2:k0+3*k+3<=4611686018427387904:=by omega
   have hK1:0<k0+3*k+2:=by omega
   generalize k0+3*k=K at *;have a1:((K:Int)+1)=((K+1:Nat):Int):=rfl;have a2:(((K+1:Nat):Int)+1)=((K+2:Nat):Int):=rfl;have a3:(((K+2:Nat):Int)+1)=((K+3:Nat):Int):=rfl;have e1:=AN (K+1) (by omega);have e2:=AN (K+2) (by omega);have e3:=AN (K+3) (by omega);simp only[go_sem,↓reduceIte,Nat.reduceAdd,Nat.reduceSub,Nat.reduceMul,Nat.reduceLT,Nat.reduceLeDiff,Nat.reduceEqDiff,Int.reduceLT,Int.reduceLE,Int.reduceEq,Nat.reduceBEq,reduceCtorEq,reduceCtorEq,g0,g1,g5,hn0,bJ,List.length_map,hl,hd,List.getElem?_map,hx,Option.map_some,ao,rM,a1,a2,e1,e2];refine Dv (n:=8) true (by kernel_rfl) (by kernel_rfl) ?_;simp only[go_sem,↓reduceIte,Nat.reduceAdd,Nat.reduceSub,Nat.reduceMul,Nat.reduceLT,Nat.reduceLeDiff,Nat.reduceEqDiff,Int.reduceLT,Int.reduceLE,Int.reduceEq,Nat.reduceBEq,reduceCtorEq,reduceCtorEq,g0,g5,bJ,List.getElem?_map,hx,Option.map_some,ao,rM];refine RX rfl (tc (K+2) (by omega) (by omega)) rfl (by simp only[go_sem,↓reduceIte,Nat.reduceAdd,Nat.reduceSub,Nat.reduceMul,Nat.reduceLT,Nat.reduceLeDiff,Nat.reduceEqDiff,Int.reduceLT,Int.reduceLE,Int.reduceEq,Nat.reduceBEq,reduceCtorEq,reduceCtorEq,true_and]) (λ_=>rfl) ?_;simp only[go_sem,↓reduceIte,Nat.reduceAdd,Nat.reduceSub,Nat.reduceMul,Nat.reduceLT,Nat.reduceLeDiff,Nat.reduceEqDiff,Int.reduceLT,Int.reduceLE,Int.reduceEq,Nat.reduceBEq,reduceCtorEq,reduceCtorEq,g5,hw2,a3,e3,hn0];exact⟨0,n-(k+1),by omega,by omega,k+1,by omega,rfl,rfl,g0,by rw[hK],rfl⟩
  ·have hd:decide ((k:Int)<(n:Int))=false:=by simpa using hlt
   obtain rfl:k=n:=by omega
   simp only[go_sem,↓reduceIte,Nat.reduceAdd,Nat.reduceSub,Nat.reduceMul,Nat.reduceLT,Nat.reduceLeDiff,Nat.reduceEqDiff,Int.reduceLT,Int.reduceLE,Int.reduceEq,Nat.reduceBEq,reduceCtorEq,reduceCtorEq,g0,g1,g5,hn0,bJ,List.length_map,hl,hd];refine Or.inl ?_;repeat' (first|exact cC|exact trivial|with_reducible apply dh|with_reducible apply co (by decide)|with_reducible apply cK|with_reducible apply Exists.intro|with_reducible apply And.intro|(show(_:Option Ob)=_;simp only[go_sem,↓reduceIte,Nat.reduceAdd,Nat.reduceSub,Nat.reduceMul,Nat.reduceLT,Nat.reduceLeDiff,Nat.reduceEqDiff,Int.reduceLT,Int.reduceLE,Int.reduceEq,Nat.reduceBEq,reduceCtorEq,reduceCtorEq,true_and]))
end Go.Proofs.YtliknccmjjncbaaGreat
namespace Go.Proofs.YtliknccmjjncbaaGreat
open Go.RowKit Go.ChangeShapes Go.WideShapes Go.Deep
set_option maxRecDepth 100000
instance:Inhabited aX:=⟨fV 0 []⟩
abbrev fh:aX->List DV:=fD 70 29
def U6(x:It):Prop:=BU x.num/\BU x.den/\x.text.size<=9223372036854775807
inductive AG:aX->Prop where
 |mk (k:Int) (its:List It) (ps:List aX) (ns cl lv:List ByteArray) (c e:Int) (h1:its.length<=9223372036854775807) (h2:∀x∈its,U6 x) (h3:ps.length<=9223372036854775807) (h4:∀p∈ps,AG p)
  (h5:Kr ns) (h6:Kr cl) (h7:Kr lv):AG (.mk k its ps ns cl lv c e)
theorem lL(ti tv:Nat)(v:aX):(fD ti tv v).length=8:=by cases v;rw[al];rfl
theorem UB:Lb ao U6 Tryz.prog 70:=by
 intro H enc w base spare held fuel cs x h;obtain⟨hl,n,hf⟩:=Dq Tryz.underlying70 h;obtain⟨y0,t0⟩:=hf 0 _ rfl;obtain⟨a0,r0,i0⟩:=qk Tryz.underlying3 H enc w base spare held n _ _ t0;obtain⟨y1,t1⟩:=hf 1 _ rfl;obtain⟨a1,r1,i1⟩:=qk Tryz.underlying3 H enc w base spare held n _ _ t1;obtain⟨y2,t2⟩:=hf 2 _ rfl;obtain⟨a2,r2,i2⟩:=Ew Tryz.underlying9 H enc w base spare held n _ _ t2;exact⟨⟨a0,a1,a2⟩,cr (o:=0) (k:=1) (cT r0 rfl (by kernel_rfl)) (cr (o:=1) (k:=1) (cT r1 rfl (by kernel_rfl)) (cr (o:=2) (k:=1) (cT r2 rfl (by kernel_rfl)) (BX hl (by kernel_rfl)))),i0,i1,i2⟩
theorem Pj:Lb (λl:List It=>[.sl 70 3 (l.map ao)]) (λl=>l.length<=9223372036854775807/\∀x∈l,U6 x) Tryz.prog 26:=xl (e:=ao) (k:=3) 70 Tryz.underlying26 (by kernel_rfl) (by decide) (λ_=>rfl) UB
theorem Gb:∀F,Vl F fh AG Tryz.prog 29
 |0=>λH enc w base spare held fuel cs x hF=>absurd hF (Nat.not_lt_zero _)
 |F+1=>by
  have ih:=Gb F;intro H enc w base spare held fuel cs x hF h;obtain⟨hl,n,hn,hf⟩:=GM Tryz.underlying29 h;obtain⟨y0,t0⟩:=hf 0 _ rfl;obtain⟨a0,r0,i0⟩:=qk Tryz.underlying3 H enc w base spare held n _ _ t0;obtain⟨y1,t1⟩:=hf 1 _ rfl;obtain⟨a1,r1,i1⟩:=Pj H enc w base spare held n _ _ t1;obtain⟨y2,t2⟩:=hf 2 _ rfl;obtain⟨a2,r2,i2⟩:=HT (e:=fh) (k:=8) 29 Tryz.underlying27 (by kernel_rfl) (by decide) (lL _ _) ih H enc w base spare held n _ _ (by omega) t2;obtain⟨y3,t3⟩:=hf 3 _ rfl;obtain⟨a3,r3,i3⟩:=ES H enc w base spare held n _ _ t3;obtain⟨y4,t4⟩:=hf 4 _ rfl;obtain⟨a4,r4,i4⟩:=ES H enc w base spare held n _ _ t4;obtain⟨y5,t5⟩:=hf 5 _ rfl;obtain⟨a5,r5,i5⟩:=ES H enc w base spare held n _ _ t5;obtain⟨y6,t6⟩:=hf 6 _ rfl;obtain⟨a6,r6,i6⟩:=qk Tryz.underlying3 H enc w base spare held n _ _ t6;obtain⟨y7,t7⟩:=hf 7 _ rfl;obtain⟨a7,r7,i7⟩:=qk Tryz.underlying3 H enc w base spare held n _ _ t7;refine⟨.mk a0 a1 a2 a3 a4 a5 a6 a7,?_,.mk a0 a1 a2 a3 a4 a5 a6 a7 i1.1 i1.2 i2.1 i2.2 i3 i4 i5⟩;have:=cr (o:=0) (k:=1) (cT r0 rfl (by kernel_rfl)) (cr (o:=1) (k:=1) (cT r1 rfl (by kernel_rfl)) (cr (o:=2) (k:=1) (cT r2 rfl (by kernel_rfl)) (cr (o:=3) (k:=1) (cT r3 rfl (by kernel_rfl)) (cr (o:=4) (k:=1) (cT r4 rfl (by kernel_rfl)) (cr (o:=5) (k:=1) (cT r5 rfl (by kernel_rfl)) (cr (o:=6) (k:=1) (cT r6 rfl (by kernel_rfl)) (cr (o:=7) (k:=1) (cT r7 rfl (by kernel_rfl)) (BX hl (by kernel_rfl)))))))));show aL _ _ _ (fD _ _ _);rw[al];exact this
theorem Rh:Lb fh AG Tryz.prog 29:=λH enc w base spare held fuel cs x h=>Gb (fuel+1) H enc w base spare held fuel cs x (Nat.lt_succ_self _) h
def ck:aX->Nat
 |.mk k its ps ns cl lv c e=>bT its+(ps.length+(ps.map λp=>ck p).sum)+dt ns+dt cl+dt lv
theorem ly(k:Int)(its:List It)(ps:List aX)(ns cl lv:List ByteArray)(c e:Int):ck (.mk k its ps ns cl lv c e)=bT its+(ps.length+aA ck ps)+dt ns+dt cl+dt lv:=by rw[ck];rfl
theorem jl{α:Type}[Inhabited α](f:α->Nat){l:List α}{i:Nat}(h:i<l.length):aA f (l.take (i+1))=aA f (l.take i)+f (l.getD i default):=by
 rw[bh h];unfold aA;simp
theorem jv{α:Type}(f:α->Nat)(l:List α)(i:Nat):aA f (l.take i)<=aA f l:=by
 have:aA f l=aA f (l.take i)+aA f (l.drop i):=by unfold aA;rw[<-List.sum_append,<-List.map_append,List.take_append_drop]
 omega
theorem qa{α:Type}(f:α->Nat){l:List α}{x:α}(h:x∈l):f x<=aA f l:=by
 unfold aA
 induction l with
 |nil=>cases h
 |cons y l ih=>
  rw[List.map_cons,List.sum_cons];rcases List.mem_cons.1 h with rfl|h
  ·omega
  ·have:=ih h;omega
theorem eL{ti tv t:Nat}{l:List aX}{kd:IntKind}{z:Int}(h:0<=z)(h1:z<l.length):cc 8 (some (.sl t 8 (l.map (fD ti tv)))) (some (.sc (.int kd z)))=some (fD ti tv (l.getD z.toNat default)):=lR (lL ti tv) h h1
def Y7(v:aX):Prop:=∀left:Int,AG v->0<=left->left<=1048576->aB Tryz.prog 5 [(true,fh v),(false,[.sc (.int .i64 left)])] [(false,[.sc (.int .i64 (JN left (ck v)))],true)]
theorem ND(l:List aX)(hall:∀p∈l,Y7 p)(left:Int)(k1:l.length<=9223372036854775807)(k2:∀p∈l,AG p)(h0:0<=left)(h1:left<=1048576):
 aB Tryz.prog 18 [(false,[.sl 29 8 (l.map fh)]),(false,[.sc (.int .i64 left)])] [(false,[.sc (.int .i64 (JN left (l.length+aA ck l)))],true)]:=by
 refine ah Tryz.func18 tH rfl ?_;simp only[jk];simp(disch:=first|omega|(simp only[ax];omega)|simp only[av,Nat.reduceAdd]) only[go_sem,true_and];refine eJ (λhbr=>?_) (λhbr=>?_)
 ·simp(disch:=first|omega|(simp only[ax];omega)|simp only[av,Nat.reduceAdd]) only[go_sem,true_and];exact dz (bS (by omega))
 simp(disch:=first|omega|(simp only[ax];omega)|simp only[av,Nat.reduceAdd]) only[go_sem,true_and];refine lp (λi:Nat=>[.sc (.int .i64 i),.sc (.int .i64 (left-(l.length:Int)-(aA ck (l.take i):Nat)))]) (λi=>i<=l.length/\(aA ck (l.take i):Nat)<=left-(l.length:Int)) (λi=>l.length-i) 0 (by simp[gL,aA]) ⟨by omega,by simp[aA];omega⟩ ?_;rintro i ⟨hi,hs⟩;simp only[iG];by_cases hlt:i<l.length
 ·have h3:=jl ck hlt;have h5:=jv ck l (i+1);have hm:=aK hlt;have hix:cc 8 (some (.sl 29 8 (l.map fh))) (some (.sc (.int .i64 (i:Int))))=some (fh (l.getD i default)):=by rw[eL (by omega) (by omega),Int.toNat_natCast]
  generalize l.getD i default=x at h3 hm hix;have hc:=hall x hm (left-(l.length:Int)-(aA ck (l.take i):Nat)) (k2 x hm) (by omega) (by omega);generalize ck x=wx at *;obtain⟨x0,x1,x2,x3,x4,x5,x6,x7⟩:=x;simp only[fh,al,aq]at hc hix;by_cases hw:(wx:Int)<=left-(l.length:Int)-(aA ck (l.take i):Nat)
  ·have hs1:=dl hw;rw[hs1]at hc
   repeat' (first|(with_reducible first|refine ae ?_|refine ac ‹_› rfl ?_|refine ab ‹_› rfl ?_|refine ak (λhbr=>?_) λhbr=>?_)|simp(disch:=first|omega|(simp only[ax];omega)|simp only[av,Nat.reduceAdd]) only[go_sem,hix])
   all_goals first|omega|exact dz (bS (by omega))|exact⟨i+1,by congr 4;omega,⟨by omega,by omega⟩,by omega⟩
  ·have hs1:=bS (left:=left-(l.length:Int)-(aA ck (l.take i):Nat)) (wt:=wx) (by omega);rw[hs1]at hc
   repeat' (first|(with_reducible first|refine ae ?_|refine ac ‹_› rfl ?_|refine ab ‹_› rfl ?_|refine ak (λhbr=>?_) λhbr=>?_)|simp(disch:=first|omega|(simp only[ax];omega)|simp only[av,Nat.reduceAdd]) only[go_sem,hix])
   all_goals first|omega|exact dz (bS (by omega))
 ·obtain rfl:i=l.length:=by omega
  rw[List.take_length]at hs ⊢
  repeat' (first|(with_reducible first|refine ae ?_|refine ac ‹_› rfl ?_|refine ab ‹_› rfl ?_|refine ak (λhbr=>?_) λhbr=>?_)|simp(disch:=first|omega|(simp only[ax];omega)|simp only[av,Nat.reduceAdd]) only[go_sem,true_and])
  all_goals first|omega|exact dz (by rw[dl (by omega)];omega)
theorem WI:∀v:aX,Y7 v:=aX.ind λk its ps ns cl lv c e ih left ok h0 h1=>by
 cases ok with
 |mk _ _ _ _ _ _ _ _ o1 o2 o3 o4 o5 o6 o7=>
 have hit:=KI 70 its left o1 (λx hx=>(o2 x hx).2.2) h0 h1;rw[ly];simp only[fh,al,aq];refine ah Tryz.func5 vS rfl ?_;simp only[kT];simp(disch:=first|omega|(simp only[ax];omega)|simp only[av,Nat.reduceAdd]) only[go_sem,true_and];refine ac hit rfl ?_;by_cases hw1:((bT its:Nat):Int)<=left;rotate_left
 ·have hs:=bS (left:=left) (wt:=bT its) (by omega);simp(disch:=first|omega|(simp only[ax];omega)|simp only[av,Nat.reduceAdd]) only[go_sem,hs];exact dz (bS (by omega))
 have e1:=dl hw1;have d1:decide (left-((bT its:Nat):Int)<0)=false:=decide_eq_false (by omega);simp(disch:=first|omega|(simp only[ax];omega)|simp only[av,Nat.reduceAdd]) only[go_sem,e1,d1];generalize hL1:left-((bT its:Nat):Int)=L1 at *;refine ac (ND ps ih L1 o3 o4 (by omega) (by omega)) rfl ?_;by_cases hw2:((ps.length+aA ck ps:Nat):Int)<=L1;rotate_left
 ·have hs:=bS (left:=L1) (wt:=ps.length+aA ck ps) (by omega);simp(disch:=first|omega|(simp only[ax];omega)|simp only[av,Nat.reduceAdd]) only[go_sem,hs];exact dz (bS (by omega))
 have e2:=dl hw2;have d2:decide (L1-((ps.length+aA ck ps:Nat):Int)<0)=false:=decide_eq_false (by omega);simp(disch:=first|omega|(simp only[ax];omega)|simp only[av,Nat.reduceAdd]) only[go_sem,e2,d2];generalize hL2:L1-((ps.length+aA ck ps:Nat):Int)=L2 at *;refine ac (EA ns L2 o5 (by omega) (by omega)) rfl ?_;by_cases hw3:((dt ns:Nat):Int)<=L2;rotate_left
 ·have hs:=bS (left:=L2) (wt:=dt ns) (by omega);simp(disch:=first|omega|(simp only[ax];omega)|simp only[av,Nat.reduceAdd]) only[go_sem,hs];exact dz (bS (by omega))
 have e3:=dl hw3;have d3:decide (L2-((dt ns:Nat):Int)<0)=false:=decide_eq_false (by omega);simp(disch:=first|omega|(simp only[ax];omega)|simp only[av,Nat.reduceAdd]) only[go_sem,e3,d3];generalize hL3:L2-((dt ns:Nat):Int)=L3 at *;refine ac (EA cl L3 o6 (by omega) (by omega)) rfl ?_;by_cases hw4:((dt cl:Nat):Int)<=L3;rotate_left
 ·have hs:=bS (left:=L3) (wt:=dt cl) (by omega);simp(disch:=first|omega|(simp only[ax];omega)|simp only[av,Nat.reduceAdd]) only[go_sem,hs];exact dz (bS (by omega))
 have e4:=dl hw4;have d4:decide (L3-((dt cl:Nat):Int)<0)=false:=decide_eq_false (by omega);simp(disch:=first|omega|(simp only[ax];omega)|simp only[av,Nat.reduceAdd]) only[go_sem,e4,d4];generalize hL4:L3-((dt cl:Nat):Int)=L4 at *;refine ac (EA lv L4 o7 (by omega) (by omega)) rfl ?_;by_cases hw5:((dt lv:Nat):Int)<=L4;rotate_left
 ·have hs:=bS (left:=L4) (wt:=dt lv) (by omega);simp(disch:=first|omega|(simp only[ax];omega)|simp only[av,Nat.reduceAdd]) only[go_sem,hs];exact dz (bS (by omega))
 have e5:=dl hw5;have d5:decide (L4-((dt lv:Nat):Int)<0)=false:=decide_eq_false (by omega);simp(disch:=first|omega|(simp only[ax];omega)|simp only[av,Nat.reduceAdd]) only[go_sem,e5,d5];exact dz (by rw[dl (by omega)];omega)
theorem KK{el k:Nat}{zz:List DV}{z:Int}(h0:0<=z)(h1:z<=1000000000):BP el k 144 zz (some (.sc (.int .i64 z)))=some [.sl el k (List.replicate z.toNat zz)]:=by
 have h3:144*z.toNat<=281474976710656:=by omega
 have h4:z.toNat<=9223372036854775807:=by omega
 simp[BP,h0,h3,h4]
def z8:List DV:=[.sc (.int .i64 0),.sl 0 1 [],.sl 0 1 [],.sl 0 1 [],.sl 0 1 [],.sl 0 1 [],.sc (.int .i64 0),.sc (.int .i64 0)]
def Zd(v:aX):Prop:=ck v<=1048576->aB Tryz.prog 8 [(true,fh v)] [(true,ap v,true)]
theorem MT(l:List aX)(hall:∀p∈l,Zd p)(h:l.length+aA ck l<=1048576):aB Tryz.prog 30 [(false,[.sl 29 8 (l.map fh)])] [(false,[.sl 35 8 (l.map ap)],true)]:=by
 have hz:∀x∈l,ck x<=1048576:=λx hx=>by have:=qa ck hx;omega
 refine ah Tryz.func30 tr rfl ?_;simp only[jM]
 have hm1:BP 35 8 144 z8 (some (.sc (.int .i64 (l.length:Int))))=some [.sl 35 8 (cE (l.map ap) 0 z8)]:=by
  rw[KK (by omega) (by omega),<-R7,Int.toNat_natCast]
 unfold z8 at hm1;simp(disch:=first|omega|(simp only[ax];omega)|simp only[av,Nat.reduceAdd]) only[go_sem,hm1];refine G2 l.length (λi=>[.sc (.int .i64 i),.sl 35 8 (cE (l.map ap) i z8)]) rfl λi hi=>?_
 simp only[iT];by_cases hlt:i<l.length
 ·have e1:=G3 (e:=ap) (t:=35) (k:=8) (kd:=.i64) (z:=z8) hlt;have hc:=hall _ (aK hlt) (hz _ (aK hlt));have hix:cc 8 (some (.sl 29 8 (l.map fh))) (some (.sc (.int .i64 (i:Int))))=some (fh (l.getD i default)):=by rw[eL (by omega) (by omega),Int.toNat_natCast]
  have e2:∀ds,ds=ap (l.getD i default)->Ac 8 0 (some (.sl 35 8 (cE (l.map ap) i z8))) (some (.sc (.int .i64 (i:Int)))) (some ds)=some [.sl 35 8 (cE (l.map ap) (i+1) z8)]:=λds hd=>GQ (e:=ap) hd rfl (lL _ _) hlt
  generalize l.getD i default=x at hc hix e2;obtain⟨x0,x1,x2,x3,x4,x5,x6,x7⟩:=x;have e3:=e2 _ (al _ _ _ _ _ _ _ _ _ _).symm;simp only[fh,ap,al,aq]at hc hix e3 e1
  repeat' (first|(with_reducible first|refine ae ?_|refine ac ‹_› rfl ?_|refine ab ‹_› rfl ?_|refine ak (λhbr=>?_) λhbr=>?_)|simp(disch:=first|omega|(simp only[ax];omega)|simp only[av,Nat.reduceAdd]) only[go_sem,e1,e3,hix])
  all_goals first|omega|exact⟨rfl,by omega⟩
 ·obtain rfl:i=l.length:=by omega
  repeat' (first|(with_reducible first|refine ae ?_|refine ac ‹_› rfl ?_|refine ab ‹_› rfl ?_|refine ak (λhbr=>?_) λhbr=>?_)|simp(disch:=first|omega|(simp only[ax];omega)|simp only[av,Nat.reduceAdd]) only[go_sem,sf])
  all_goals first|omega|rfl
theorem Xv:∀v:aX,Zd v:=aX.ind λk its ps ns cl lv c e ih h=>by
 rw[ly]at h;have h1:=KT 70 its (by unfold bT at h;omega);have h2:=MT ps ih (by omega);have h3:=D7 ns (b9 (n:=1048576) (by omega));have h4:=D7 cl (b9 (n:=1048576) (by omega));have h5:=D7 lv (b9 (n:=1048576) (by omega));simp only[fh,ap,al,aq,bJ]at h1 h2 h3 h4 h5 ⊢;refine ah Tryz.func8 tX rfl ?_;simp only[kP]
 repeat' (first|(with_reducible first|refine ae ?_|refine ac ‹_› rfl ?_|refine ab ‹_› rfl ?_|refine ak (λhbr=>?_) λhbr=>?_)|simp(disch:=first|omega|(simp only[ax];omega)|simp only[av,Nat.reduceAdd]) only[go_sem,true_and])
 all_goals rfl
def Y9(v:aX):Prop:=ck v<=1000000000->aB Tryz.prog 10 [(true,ap v),(true,ap v)] [(false,[.sc (.bool true)],true)]
theorem MX(l:List aX)(hall:∀p∈l,Y9 p)(h:l.length+aA ck l<=1000000000):aB Tryz.prog 40 [(false,[.sl 35 8 (l.map ap)]),(false,[.sl 35 8 (l.map ap)])] [(false,[.sc (.bool true)],true)]:=by
 have hz:∀x∈l,ck x<=1000000000:=λx hx=>by have:=qa ck hx;omega
 refine ah Tryz.func40 rU rfl ?_;simp only[jA];simp(disch:=first|omega|(simp only[ax];omega)|simp only[av,Nat.reduceAdd]) only[go_sem,eq_self];refine G2 l.length (λi=>[.sc (.int .i64 i)]) rfl λi hi=>?_
 simp only[iJ];by_cases hlt:i<l.length
 ·have hc:=hall _ (aK hlt) (hz _ (aK hlt));have hix:cc 8 (some (.sl 35 8 (l.map ap))) (some (.sc (.int .i64 (i:Int))))=some (ap (l.getD i default)):=by rw[eL (by omega) (by omega),Int.toNat_natCast]
  generalize l.getD i default=x at hc hix;obtain⟨x0,x1,x2,x3,x4,x5,x6,x7⟩:=x;simp only[ap,al,aq]at hc hix
  repeat' (first|(with_reducible first|refine ae ?_|refine ac ‹_› rfl ?_|refine ab ‹_› rfl ?_|refine ak (λhbr=>?_) λhbr=>?_)|simp(disch:=first|omega|(simp only[ax];omega)|simp only[av,Nat.reduceAdd]) only[go_sem,hix])
  all_goals first|omega|exact⟨rfl,by omega⟩
 ·obtain rfl:i=l.length:=by omega
  repeat' (first|(with_reducible first|refine ae ?_|refine ac ‹_› rfl ?_|refine ab ‹_› rfl ?_|refine ak (λhbr=>?_) λhbr=>?_)|simp(disch:=first|omega|(simp only[ax];omega)|simp only[av,Nat.reduceAdd]) only[go_sem,true_and])
  all_goals first|omega|rfl
theorem R5:∀v:aX,Y9 v:=aX.ind λk its ps ns cl lv c e ih h=>by
 rw[ly]at h;have h1:=KJ its (by unfold bT at h;omega);have h2:=MX ps ih (by omega);have h3:=EU ns (b9 (n:=100000000000) (by omega));have h4:=EU cl (b9 (n:=100000000000) (by omega));have h5:=EU lv (b9 (n:=100000000000) (by omega));simp only[ap,al,aq,bJ]at h1 h2 h3 h4 h5 ⊢;refine ah Tryz.func10 vt rfl ?_;simp only[lg]
 repeat' (first|(with_reducible first|refine ae ?_|refine ac ‹_› rfl ?_|refine ab ‹_› rfl ?_|refine ak (λhbr=>?_) λhbr=>?_)|simp(disch:=first|omega|(simp only[ax];omega)|simp only[av,Nat.reduceAdd]) only[go_sem,eq_self])
 all_goals rfl
open Go.RowKit
theorem bb{a b:Bool}(h:a=b):[DV.sc (.bool a)]=[.sc (.bool b)]:=by rw[h]
def lC(k:Int)(a b:Nat):Int:=if k=5 then 1 else(a:Int)+(b:Int)
theorem EH{k:Int}{a b:Nat}(h1:a<=1000000000)(h2:b<=1000000000):0<=lC k a b/\lC k a b<=2000000000:=by unfold lC;split<;>omega
def dC(l:List ByteArray)(j:Nat):Bool:=!decide (l.getD j default=⟨#[]⟩)&&(decide (((l.getD j default).size:Int)<=60)&& !decide (bU l (l.getD j default)<(j:Int)))
def dc(l:List ByteArray)(m:Int):Bool:=decide ((l.length:Int)<=m)&&bg (dC l) l.length
def q9(l:List ByteArray)(j:Nat):Bool:=decide (((l.getD j default).size:Int)<=60)
def Cc(l:List ByteArray)(j:Nat):Bool:=decide (l.getD j default=⟨#[]⟩)
def QC(l:List ByteArray):Bool:=(decide (l.length=0)|| !bg (Cc l) l.length)&&bg (q9 l) l.length
def DZ(k:Int)(x:It):Bool:=decide (x=bC)||(if k=1 then decide (x.den=1)&&(decide (0<=x.num/\x.num<=1)&&decide (x.text=⟨#[]⟩))else if k=2 then cq x else decide (k=3)&&(decide (x.num=0)&&(decide (x.den=1)&&decide ((x.text.size:Int)<=60))))
theorem L5(x y:It):EZ [.i,.i,.s] (ao x) (ao y)=some (decide (x=y)):=by
 obtain⟨a,b,c⟩:=x;obtain⟨a',b',c'⟩:=y;simp only[ao,EZ,Ue,if_true,It.mk.injEq,Bool.and_true];congr 1;rw[<-Bool.decide_and,<-Bool.decide_and]
theorem dv(x:It):KA false [.i,.i,.s] (some [.sc (.int .i64 x.num),.sc (.int .i64 x.den),.sc (.string x.text)]) (some [.sc (.int .i64 0),.sc (.int .i64 0),.sc (.string ⟨#[]⟩)])=some [.sc (.bool (decide (x=bC)))]:=Xr (L5 x bC)
theorem fX(x:It):aB Tryz.prog 74 [(true,ao x)] [(false,[.sc (.bool (decide (x=bC)))],true)]:=by
 refine ah Tryz.func74 tk rfl ?_;simp only[jR];unfold ao
 repeat' (first|(with_reducible first|refine ae ?_|refine ac ‹_› rfl ?_|refine ab ‹_› rfl ?_|refine ak (λhbr=>?_) λhbr=>?_)|simp(disch:=first|omega|(simp only[ax];omega)|simp only[av,Nat.reduceAdd]) only[go_sem,dv])
 exact aO rfl
theorem QD(k:Int)(x:It):aB Tryz.prog 132 [(false,[.sc (.int .i64 k)]),(true,ao x)] [(false,[.sc (.bool (DZ k x))],true)]:=by
 have h1:=fX x;have h2:=Ag x;refine ah Tryz.func132 sX rfl ?_;simp only[jo];unfold ao at*
 repeat' (first|(with_reducible first|refine ae ?_|refine ac ‹_› rfl ?_|refine ab ‹_› rfl ?_|refine ak (λhbr=>?_) λhbr=>?_)|simp(disch:=first|omega|(simp only[ax];omega)|simp only[av,Nat.reduceAdd]) only[go_sem,true_and])
 all_goals refine aO ?_
 all_goals unfold DZ
 all_goals first
  |(simp[*];done)
  |(simp_all;done)
  |(rw[Bool.eq_iff_iff];simp[*];omega)
theorem PE(k:Int)(x:It):aB Tryz.prog 119 [(false,[.sc (.int .i64 k)]),(true,ao x)] [(false,[.sc (.bool (DZ k x))],true)]:=by
 have h1:=VN x.num 0 1;have h2:=BL x;refine ah Tryz.func119 yP rfl ?_;simp only[nA];unfold ao at*
 repeat' (first|(with_reducible first|refine ae ?_|refine ac ‹_› rfl ?_|refine ab ‹_› rfl ?_|refine ak (λhbr=>?_) λhbr=>?_)|simp(disch:=first|omega|(simp only[ax];omega)|simp only[av,Nat.reduceAdd]) only[go_sem,dv])
 all_goals refine aO ?_
 all_goals unfold DZ
 all_goals first
  |(simp[*];done)
  |(simp_all;done)
  |(rw[Bool.eq_iff_iff];simp[*];omega)
set_option maxHeartbeats 1000000 in
theorem LM(t:Nat)(l:List ByteArray)(m:Int)(hl:l.length<=1000000000):aB Tryz.prog 131 [(false,[.sl t 1 (l.map bG)]),(false,[.sc (.int .i64 m)])] [(false,[.sc (.bool (dc l m))],true)]:=by
 have hH:=λi=>wP t (l.take i) (l.getD i default) (by rw[List.length_take];omega)
 refine ah Tryz.func131 pI rfl ?_;simp only[gQ];unfold dc;simp(disch:=first|omega|(simp only[ax];omega)|simp only[av,Nat.reduceAdd]) only[go_sem,true_and];refine eJ (λhbr=>?_) (λhbr=>?_)
 ·simp(disch:=first|omega|(simp only[ax];omega)|simp only[av,Nat.reduceAdd]) only[go_sem,true_and];exact aO (by rw[decide_eq_false (by omega)];rfl)
 rw[decide_eq_true (by omega),Bool.true_and];simp(disch:=first|omega|(simp only[ax];omega)|simp only[av,Nat.reduceAdd]) only[go_sem,true_and];refine lp (λi:Nat=>[.sc (.int .i64 i)]) (λi=>i<=l.length/\bg (dC l) i=true) (λi=>l.length-i) 0 rfl ⟨by omega,rfl⟩ ?_;rintro i ⟨hi,hb⟩;simp only[fC];by_cases hlt:i<l.length
 ·have hHi:=hH i;rw[xO hlt]at hHi
  repeat' (first|(with_reducible first|refine ae ?_|refine ac ‹_› rfl ?_|refine ab ‹_› rfl ?_|refine ak (λhbr=>?_) λhbr=>?_)|simp(disch:=first|omega|(simp only[ax];omega)|simp only[av,Nat.reduceAdd]) only[go_sem,true_and])
  all_goals first
   |omega
   |exact aO (by rw[bB hlt (by(first|(simp[-List.getD_eq_getElem?_getD,dC, *];done)|(simp_all[-List.getD_eq_getElem?_getD,dC];done)|(simp[-List.getD_eq_getElem?_getD,dC, *];omega)|(simp_all[-List.getD_eq_getElem?_getD,dC];omega)|omega))])
   |exact⟨i+1,rfl,⟨by omega,bf hb (by(first|(simp[-List.getD_eq_getElem?_getD,dC, *];done)|(simp_all[-List.getD_eq_getElem?_getD,dC];done)|(simp[-List.getD_eq_getElem?_getD,dC, *];omega)|(simp_all[-List.getD_eq_getElem?_getD,dC];omega)|omega))⟩,by omega⟩
   |skip
 ·obtain rfl:i=l.length:=by omega
  repeat' (first|(with_reducible first|refine ae ?_|refine ac ‹_› rfl ?_|refine ab ‹_› rfl ?_|refine ak (λhbr=>?_) λhbr=>?_)|simp(disch:=first|omega|(simp only[ax];omega)|simp only[av,Nat.reduceAdd]) only[go_sem,true_and])
  all_goals first|omega|exact aO hb|skip
set_option maxHeartbeats 1000000 in
theorem DP(t:Nat)(l:List ByteArray)(m:Int)(hl:l.length<=1000000000):aB Tryz.prog 90 [(false,[.sl t 1 (l.map bG)]),(false,[.sc (.int .i64 m)])] [(false,[.sc (.bool (dc l m))],true)]:=by
 have hH:=λs=>uQ t l s (by omega)
 refine ah Tryz.func90 ul rfl ?_;simp only[kQ];unfold dc;simp(disch:=first|omega|(simp only[ax];omega)|simp only[av,Nat.reduceAdd]) only[go_sem,true_and];refine lp (λi:Nat=>[.sc (.int .i64 i)]) (λi=>i<=l.length/\bg (dC l) i=true) (λi=>l.length-i) 0 rfl ⟨by omega,rfl⟩ ?_;rintro i ⟨hi,hb⟩;simp only[jP];by_cases hlt:i<l.length
 ·have hHi:=hH (l.getD i default)
  repeat' (first|(with_reducible first|refine ae ?_|refine ac ‹_› rfl ?_|refine ab ‹_› rfl ?_|refine ak (λhbr=>?_) λhbr=>?_)|simp(disch:=first|omega|(simp only[ax];omega)|simp only[av,Nat.reduceAdd]) only[go_sem,true_and])
  all_goals first
   |omega
   |exact aO (by rw[bB hlt (by(first|(simp[-List.getD_eq_getElem?_getD,dC, *];done)|(simp_all[-List.getD_eq_getElem?_getD,dC];done)|(simp[-List.getD_eq_getElem?_getD,dC, *];omega)|(simp_all[-List.getD_eq_getElem?_getD,dC];omega)|omega)),Bool.and_false])
   |exact aO (by rw[decide_eq_false (show¬(l.length:Int)<=m by omega),Bool.false_and])
   |exact⟨i+1,rfl,⟨by omega,bf hb (by(first|(simp[-List.getD_eq_getElem?_getD,dC, *];done)|(simp_all[-List.getD_eq_getElem?_getD,dC];done)|(simp[-List.getD_eq_getElem?_getD,dC, *];omega)|(simp_all[-List.getD_eq_getElem?_getD,dC];omega)|omega))⟩,by omega⟩
   |skip
 ·obtain rfl:i=l.length:=by omega
  repeat' (first|(with_reducible first|refine ae ?_|refine ac ‹_› rfl ?_|refine ab ‹_› rfl ?_|refine ak (λhbr=>?_) λhbr=>?_)|simp(disch:=first|omega|(simp only[ax];omega)|simp only[av,Nat.reduceAdd]) only[go_sem,true_and])
  all_goals first|omega|exact aO (by rw[hb,Bool.and_true])|skip
theorem Ox(t:Nat)(l:List ByteArray)(hl:l.length<=1000000000):aB Tryz.prog 110 [(false,[.sl t 1 (l.map bG)])] [(false,[.sc (.bool (bg (Cc l) l.length))],true)]:=by
 refine ah Tryz.func110 vP rfl ?_;simp only[kD];simp(disch:=first|omega|(simp only[ax];omega)|simp only[av,Nat.reduceAdd]) only[go_sem,true_and];refine lp (λi:Nat=>[.sc (.int .i64 i)]) (λi=>i<=l.length/\bg (Cc l) i=true) (λi=>l.length-i) 0 rfl ⟨by omega,rfl⟩ ?_;rintro i ⟨hi,hb⟩;simp only[jV];by_cases hlt:i<l.length
 ·repeat' (first|(with_reducible first|refine ae ?_|refine ac ‹_› rfl ?_|refine ab ‹_› rfl ?_|refine ak (λhbr=>?_) λhbr=>?_)|simp(disch:=first|omega|(simp only[ax];omega)|simp only[av,Nat.reduceAdd]) only[go_sem,true_and])
  all_goals first
   |omega
   |exact aO (by rw[bB hlt (by(first|(simp[-List.getD_eq_getElem?_getD,Cc, *];done)|(simp_all[-List.getD_eq_getElem?_getD,Cc];done)|(simp[-List.getD_eq_getElem?_getD,Cc, *];omega)|(simp_all[-List.getD_eq_getElem?_getD,Cc];omega)|omega))])
   |exact⟨i+1,rfl,⟨by omega,bf hb (by(first|(simp[-List.getD_eq_getElem?_getD,Cc, *];done)|(simp_all[-List.getD_eq_getElem?_getD,Cc];done)|(simp[-List.getD_eq_getElem?_getD,Cc, *];omega)|(simp_all[-List.getD_eq_getElem?_getD,Cc];omega)|omega))⟩,by omega⟩
   |skip
 ·obtain rfl:i=l.length:=by omega
  repeat' (first|(with_reducible first|refine ae ?_|refine ac ‹_› rfl ?_|refine ab ‹_› rfl ?_|refine ak (λhbr=>?_) λhbr=>?_)|simp(disch:=first|omega|(simp only[ax];omega)|simp only[av,Nat.reduceAdd]) only[go_sem,true_and])
  all_goals first|omega|exact aO hb|skip
set_option maxHeartbeats 1000000 in
theorem TB(t:Nat)(l:List ByteArray)(hl:l.length<=1000000000):aB Tryz.prog 118 [(false,[.sl t 1 (l.map bG)])] [(false,[.sc (.bool (QC l))],true)]:=by
 refine ah Tryz.func118 wS rfl ?_;simp only[mp];unfold QC;simp(disch:=first|omega|(simp only[ax];omega)|simp only[av,Nat.reduceAdd]) only[go_sem,true_and];refine lp (λi:Nat=>[.sc (.int .i64 i),.sc (.bool (decide (l.length=0)|| !bg (Cc l) i))]) (λi=>i<=l.length/\bg (q9 l) i=true) (λi=>l.length-i) 0 (by simp[gL,C0]) ⟨by omega,rfl⟩ ?_;rintro i ⟨hi,hb⟩;simp only[kL];by_cases hlt:i<l.length
 ·have h0:¬l.length=0:=by omega
  rw[decide_eq_false h0,Bool.false_or,Bool.false_or];cases he:bg (Cc l) i
  ·repeat' (first|(with_reducible first|refine ae ?_|refine ac ‹_› rfl ?_|refine ab ‹_› rfl ?_|refine ak (λhbr=>?_) λhbr=>?_)|simp(disch:=first|omega|(simp only[ax];omega)|simp only[av,Nat.reduceAdd]) only[go_sem,fq])
   all_goals first
    |omega
    |exact aO (by rw[bB (p:=q9 l) hlt (by(first|(simp[-List.getD_eq_getElem?_getD,q9, *];done)|(simp_all[-List.getD_eq_getElem?_getD,q9];done)|(simp[-List.getD_eq_getElem?_getD,q9, *];omega)|(simp_all[-List.getD_eq_getElem?_getD,q9];omega)|omega)),Bool.and_false])
    |exact⟨i+1,by rw[dR,he];rfl,⟨by omega,bf hb (by(first|(simp[-List.getD_eq_getElem?_getD,q9, *];done)|(simp_all[-List.getD_eq_getElem?_getD,q9];done)|(simp[-List.getD_eq_getElem?_getD,q9, *];omega)|(simp_all[-List.getD_eq_getElem?_getD,q9];omega)|omega))⟩,by omega⟩
    |skip
  ·repeat' (first|(with_reducible first|refine ae ?_|refine ac ‹_› rfl ?_|refine ab ‹_› rfl ?_|refine ak (λhbr=>?_) λhbr=>?_)|simp(disch:=first|omega|(simp only[ax];omega)|simp only[av,Nat.reduceAdd]) only[go_sem,fq])
   all_goals first
    |omega
    |exact aO (by rw[bB (p:=q9 l) hlt (by(first|(simp[-List.getD_eq_getElem?_getD,q9, *];done)|(simp_all[-List.getD_eq_getElem?_getD,q9];done)|(simp[-List.getD_eq_getElem?_getD,q9, *];omega)|(simp_all[-List.getD_eq_getElem?_getD,q9];omega)|omega)),Bool.and_false])
    |exact⟨i+1,by rw[dR,he];simp[Cc],⟨by omega,bf hb (by(first|(simp[-List.getD_eq_getElem?_getD,q9, *];done)|(simp_all[-List.getD_eq_getElem?_getD,q9];done)|(simp[-List.getD_eq_getElem?_getD,q9, *];omega)|(simp_all[-List.getD_eq_getElem?_getD,q9];omega)|omega))⟩,by omega⟩
    |skip
 ·obtain rfl:i=l.length:=by omega
  repeat' (first|(with_reducible first|refine ae ?_|refine ac ‹_› rfl ?_|refine ab ‹_› rfl ?_|refine ak (λhbr=>?_) λhbr=>?_)|simp(disch:=first|omega|(simp only[ax];omega)|simp only[av,Nat.reduceAdd]) only[go_sem,true_and])
  all_goals first|omega|exact aO (by rw[hb,Bool.and_true])|skip
def dk(k:Int)(m:Nat)(x:It):Bool:=DZ k x&&(decide (m=0)||(decide (x.den=0)||(decide (x.den=1)&&decide (1<=x.num/\x.num<=(m:Int)))))
theorem mW{k:Int}{x:It}(h:DZ k x=true):x=bC↔x.den=0:=by
 constructor
 ·rintro rfl;rfl
 ·intro hd;unfold DZ at h;rcases Bool.or_eq_true _ _▸h with h|h
  ·exact of_decide_eq_true h
  ·exfalso;split at h
   ·simp[hd]at h
   ·split at h
    ·simp[cq,hd]at h
    ·simp[hd]at h
def gA(k n:Int)(ns cl lv:List ByteArray):Bool:=decide (0<=k/\k<=5)&&(decide (n<=40)&&((decide (ns.length=0)||decide ((ns.length:Int)=n))&&(QC ns&&(dc cl 3&&dc lv 20))))
def gB(k c e:Int)(np nl:Nat):Bool:=(decide (k=5)||(decide (c=0)&&decide (e=0)))&&((decide (k=2)||decide (nl=0))&&(decide (k=4)||decide (np=0)))
def gC(k n c e:Int)(its:List It)(nn nc nl:Nat):Bool:=
 if k=5 then decide (its.length=0)&&(decide (nn=0)&&(decide (-999<=c/\c<=99999)&&decide (0<=e/\e<=99999)))
 else if k=0 then decide (n=0)&&decide (nc=0)
 else if k=4 then decide (its.length=0)else bg (λj=>dk k nl (its.getD j default)) its.length
def wD(k:Int)(its:List It)(np:Nat)(ns cl lv:List ByteArray)(c e:Int):Bool:=
 gA k (lC k its.length np) ns cl lv&&(gB k c e np lv.length&&gC k (lC k its.length np) c e its ns.length cl.length lv.length)
def d9:Nat->aX->Bool
 |0,.mk k its ps ns cl lv c e=>wD k its ps.length ns cl lv c e&&bg (λ_=>false) ps.length
 |n+1,.mk k its ps ns cl lv c e=>wD k its ps.length ns cl lv c e&&bg (λj=>d9 n (ps.getD j default)) ps.length
def uo(n:Nat)(ps:List aX)(j:Nat):Bool:=match n with|0=>false|n+1=>d9 n (ps.getD j default)
theorem eD(n:Nat)(k:Int)(its:List It)(ps:List aX)(ns cl lv:List ByteArray)(c e:Int):d9 n (.mk k its ps ns cl lv c e)=(wD k its ps.length ns cl lv c e&&bg (uo n ps) ps.length):=by
 cases n<;>rw[d9]<;>rfl
structure X5(its:List It)(ps:List aX)(ns cl lv:List ByteArray):Prop where
 b1:its.length<=1000000000
 b2:ps.length<=1000000000
 b3:ns.length<=1000000000
 b4:cl.length<=1000000000
 b5:lv.length<=1000000000
 kid:∀p∈ps,ck p<=1000000000
theorem BO{k c e:Int}{its:List It}{ps:List aX}{ns cl lv:List ByteArray}(h:ck (.mk k its ps ns cl lv c e)<=1000000000):X5 its ps ns cl lv:=by
 rw[ly]at h;exact⟨by unfold bT at h;omega,by omega,b9 (n:=1000000000) (by omega),b9 (n:=1000000000) (by omega),b9 (n:=1000000000) (by omega),λp hp=>by have:=qa ck hp;omega⟩
def vZ:Nat->aX->Nat
 |0,.mk k its ps ns cl lv c e=>(lC k its.length ps.length).toNat+aA (λ_=>0) ps
 |n+1,.mk k its ps ns cl lv c e=>(lC k its.length ps.length).toNat+aA (λp=>vZ n p) ps
def og(n:Nat)(p:aX):Nat:=match n with|0=>0|n+1=>vZ n p
theorem nu(n:Nat)(k:Int)(its:List It)(ps:List aX)(ns cl lv:List ByteArray)(c e:Int):vZ n (.mk k its ps ns cl lv c e)=(lC k its.length ps.length).toNat+aA (og n) ps:=by
 cases n<;>rw[vZ]<;>rfl
theorem D4(k:Int)(a b:Nat):0<=lC k a b:=by unfold lC;split<;>omega
theorem HU(n:Nat)(k:Int)(its:List It)(ps:List aX)(ns cl lv:List ByteArray)(c e:Int):((vZ n (.mk k its ps ns cl lv c e):Nat):Int)=lC k its.length ps.length+(aA (og n) ps:Nat):=by
 have:=D4 k its.length ps.length;rw[nu];omega
def TJ:Nat->Nat
 |0=>40
 |n+1=>40+40*TJ n
theorem kc{α:Type}(f:α->Nat)(m:Nat):∀l:List α,(∀x∈l,f x<=m)->aA f l<=l.length*m
 |[],_=>by simp[aA]
 |x::l,h=>by
  have h1:=h x (List.mem_cons_self ..);have h2:=kc f m l λy hy=>h y (List.mem_cons_of_mem _ hy)
  have:aA f (x::l)=f x+aA f l:=by simp[aA]
  rw[this,List.length_cons,Nat.succ_mul];omega
theorem GK{k:Int}{its:List It}{np:Nat}{ns cl lv:List ByteArray}{c e:Int}(h:wD k its np ns cl lv c e=true):lC k its.length np<=40/\np<=40:=by
 unfold wD gA gB at h;simp only[Bool.and_eq_true,Bool.or_eq_true,decide_eq_true_eq]at h;have h1:=h.1.2.1;have h2:=h.2.1.2.2;refine⟨h1,?_⟩;rcases h2 with h2|h2
 ·unfold lC at h1;rw[if_neg (by omega)]at h1;omega
 ·omega
theorem Tb:∀n v,d9 n v=true->vZ n v<=TJ n:=by
 intro n
 induction n with
 |zero=>
  rintro⟨k,its,ps,ns,cl,lv,c,e⟩ h;rw[eD,Bool.and_eq_true]at h;have hb:=GK h.1;have:=D4 k its.length ps.length;rw[nu];have h2:=kc (og 0) 0 ps λx _=>Nat.le_refl 0
  show _<=40
  omega
 |succ n ih=>
  rintro⟨k,its,ps,ns,cl,lv,c,e⟩ h;rw[eD,Bool.and_eq_true]at h;have hb:=GK h.1;have:=D4 k its.length ps.length;rw[nu]
  have h2:=kc (og (n+1)) (TJ n) ps λx hx=>ih x (by
   obtain⟨j,hj,rfl⟩:=List.getElem_of_mem hx;have:=a9.1 h.2 j hj;have e:uo (n+1) ps j=d9 n (ps.getD j default):=rfl;rw[e,List.getD_eq_getElem?_getD,List.getElem?_eq_getElem hj]at this
   exact this)
  show _<=40+40*TJ n;have h3:ps.length*TJ n<=40*TJ n:=Nat.mul_le_mul_right _ hb.2;omega
theorem NU(n:Nat)(hn:n<=3)(v:aX)(h:d9 n v=true):vZ n v<=3000000:=by
 have h1:=Tb n v h
 have h2:TJ n<=3000000:=by
  rcases n with _|_|_|_|n
  ·decide
  ·decide
  ·decide
  ·decide
  ·omega
 omega
def d7(v:aX):Bool:=d9 3 v&&decide ((vZ 3 v:Int)<=200)
def LZ:Nat->aX->Bool
 |0,.mk k its ps ns cl lv c e=>bg (λ_=>false) ps.length
 |n+1,.mk k its ps ns cl lv c e=>bg (λj=>LZ n (ps.getD j default)) ps.length
def Ce:Nat->aX->Nat
 |0,_=>1
 |n+1,.mk k its ps ns cl lv c e=>(ps.map λp=>Ce n p+1).foldl max 0
theorem Pd:∀n v,d9 n v=true->LZ n v=true:=by
 intro n
 induction n with
 |zero=>
  rintro⟨k,its,ps,ns,cl,lv,c,e⟩ h;rw[d9,Bool.and_eq_true]at h
  rw[LZ];exact h.2
 |succ n ih=>
  rintro⟨k,its,ps,ns,cl,lv,c,e⟩ h;rw[d9,Bool.and_eq_true]at h;rw[LZ];exact a9.2 λi hi=>ih _ (a9.1 h.2 i hi)
theorem fj(m:Nat):∀(l:List Nat) (a:Nat),l.foldl max a<=m↔a<=m/\∀x∈l,x<=m
 |[],a=>by simp
 |x::l,a=>by
  rw[List.foldl_cons,fj m l];simp only[List.mem_cons,forall_eq_or_imp,Nat.max_le,and_assoc]
theorem US:∀n v,Ce (n+1) v<=n↔LZ n v=true:=by
 intro n
 induction n with
 |zero=>
  rintro⟨k,its,ps,ns,cl,lv,c,e⟩;rw[Ce,LZ,fj]
  cases ps with
  |nil=>simp[bg]
  |cons p l=>
   constructor
   ·intro h;have:=h.2 (Ce 0 p+1) (by simp);omega
   ·intro h;have:=a9.1 h 0 (by simp);exact absurd this (by decide)
 |succ n ih=>
  rintro⟨k,its,ps,ns,cl,lv,c,e⟩;rw[Ce,LZ,fj];constructor
  ·intro h;exact a9.2 λi hi=>(ih _).1 (by have:=h.2 (Ce (n+1) (ps.getD i default)+1) (List.mem_map.2 ⟨_,aK hi,rfl⟩);omega)
  ·intro h;refine⟨by omega,λx hx=>?_⟩;obtain⟨p,hp,rfl⟩:=List.mem_map.1 hx;obtain⟨j,hj,rfl⟩:=List.getElem_of_mem hp;have h1:=a9.1 h j hj;have e:ps.getD j default=ps[j]:=by rw[List.getD_eq_getElem?_getD,List.getElem?_eq_getElem hj];rfl
   rw[e]at h1;have:=(ih _).2 h1;omega
theorem LP:∀n v,Ce n v<=n+1:=by
 intro n
 induction n with
 |zero=>intro v;unfold Ce;omega
 |succ n ih=>
  rintro⟨k,its,ps,ns,cl,lv,c,e⟩;rw[Ce,fj];refine⟨by omega,λx hx=>?_⟩;obtain⟨p,hp,rfl⟩:=List.mem_map.1 hx;have:=ih p;omega
theorem H0(k:Int)(its:List It)(ps:List aX)(ns cl lv:List ByteArray)(c e:Int)(hb:X5 its ps ns cl lv):aB Tryz.prog 95 [(true,ap (.mk k its ps ns cl lv c e))] [(false,[.sc (.int .i64 (lC k its.length ps.length))],true)]:=by
 obtain⟨b1,b2,-,-,-,-⟩:=hb;simp only[ap,al,aq];refine ah Tryz.func95 B8 rfl ?_;simp only[oH];unfold lC
 repeat' (first|(with_reducible first|refine ae ?_|refine ac ‹_› rfl ?_|refine ab ‹_› rfl ?_|refine ak (λhbr=>?_) λhbr=>?_)|simp(disch:=first|omega|(simp only[ax];omega)|simp only[av,Nat.reduceAdd]) only[go_sem,true_and])
 ·rw[if_pos ‹_›];rfl
 ·rw[if_neg ‹_›];rfl
theorem Vg(n:Nat):decide (0<(n:Int))= !decide (n=0):=by rw[Bool.eq_iff_iff];simp;omega
def YH(n:Nat):Prop:=∀v,ck v<=1000000000->aB Tryz.prog 93 [(true,ap v),(false,[.sc (.int .i64 n)])] [(false,[.sc (.bool (d9 n v))],true)]
set_option maxHeartbeats 4000000 in
theorem Gq(n:Nat)(hn:n<=1000)(ih:∀m,n=m+1->YH m):YH n:=by
 rintro⟨k,its,ps,ns,cl,lv,c,e⟩ hw;have hb:=BO hw;have h1:=H0 k its ps ns cl lv c e hb;obtain⟨b1,b2,b3,b4,b5,b6⟩:=hb;have h2:=TB 9 ns b3;have h3:=DP 9 cl 3 b4;have h4:=DP 9 lv 20 b5;have h5:=VN k 0 5;have h6:=VN c (-999) 99999;have h7:=VN e 0 99999;have h8:=λi=>PE k (its.getD i default)
 have h9:=λi=>VN (its.getD i default).num 1 lv.length
 simp only[ao]at h8;rw[eD];have hlen:=EH (k:=k) b1 b2;unfold wD;generalize hln:lC k its.length ps.length=ln at *;simp only[ap,al,aq]at h1 ⊢;refine ah Tryz.func93 CJ rfl ?_;simp only[rt];simp(disch:=first|omega|(simp only[ax];omega)|simp only[av,Nat.reduceAdd]) only[go_sem,true_and];refine ac h1 rfl ?_;simp(disch:=first|omega|(simp only[ax];omega)|simp only[av,Nat.reduceAdd]) only[go_sem,true_and];refine yg [.sc (.bool (!gA k ln ns cl lv))] ?_ ?_
 ·unfold gA
  repeat' (first|(with_reducible first|refine ae ?_|refine ac ‹_› rfl ?_|refine ab ‹_› rfl ?_|refine ak (λhbr=>?_) λhbr=>?_)|simp(disch:=first|omega|(simp only[ax];omega)|simp only[av,Nat.reduceAdd]) only[go_sem,true_and])
  all_goals first
   |(refine bb ?_;simp[*];done)
   |(refine bb ?_;simp_all;done)
   |(refine bb ?_;have hz:lv.length=0:=by omega
     rw[Vg,hz];simp[*];done)
   |(refine bb ?_;grind)
   |skip
 simp only[oS];cases hA:gA k ln ns cl lv
 ·repeat' (first|(with_reducible first|refine ae ?_|refine ac ‹_› rfl ?_|refine ab ‹_› rfl ?_|refine ak (λhbr=>?_) λhbr=>?_)|simp(disch:=first|omega|(simp only[ax];omega)|simp only[av,Nat.reduceAdd]) only[go_sem,true_and])
  all_goals exact aO rfl
 rw[Bool.true_and];simp(disch:=first|omega|(simp only[ax];omega)|simp only[av,Nat.reduceAdd]) only[go_sem,true_and];refine yg [.sc (.bool (!gB k c e ps.length lv.length))] ?_ ?_
 ·unfold gB
  repeat' (first|(with_reducible first|refine ae ?_|refine ac ‹_› rfl ?_|refine ab ‹_› rfl ?_|refine ak (λhbr=>?_) λhbr=>?_)|simp(disch:=first|omega|(simp only[ax];omega)|simp only[av,Nat.reduceAdd]) only[go_sem,true_and])
  all_goals first
   |(refine bb ?_;simp[*];done)
   |(refine bb ?_;simp_all;done)
   |(refine bb ?_;have hz:lv.length=0:=by omega
     rw[Vg,hz];simp[*];done)
   |(refine bb ?_;grind)
   |skip
 simp only[pC];cases hB:gB k c e ps.length lv.length
 ·repeat' (first|(with_reducible first|refine ae ?_|refine ac ‹_› rfl ?_|refine ab ‹_› rfl ?_|refine ak (λhbr=>?_) λhbr=>?_)|simp(disch:=first|omega|(simp only[ax];omega)|simp only[av,Nat.reduceAdd]) only[go_sem,true_and])
  all_goals exact aO rfl
 rw[Bool.true_and]
 have hp0:k≠4->ps.length=0:=by
  intro h4;unfold gB at hB;simp only[Bool.and_eq_true,Bool.or_eq_true,decide_eq_true_eq]at hB;exact hB.2.2.resolve_left h4
 have hp1:k≠4->bg (uo n ps) ps.length=true:=λh=>by rw[hp0 h];rfl
 simp(disch:=first|omega|(simp only[ax];omega)|simp only[av,Nat.reduceAdd]) only[go_sem,true_and];refine eJ (λhk5=>?_) (λhk5=>?_)
 ·rw[hp1 (by omega),Bool.and_true];unfold gC;rw[if_pos hk5]
  repeat' (first|(with_reducible first|refine ae ?_|refine ac ‹_› rfl ?_|refine ab ‹_› rfl ?_|refine ak (λhbr=>?_) λhbr=>?_)|simp(disch:=first|omega|(simp only[ax];omega)|simp only[av,Nat.reduceAdd]) only[go_sem,true_and])
  all_goals first
   |(refine aO ?_;simp[*];done)
   |(refine aO ?_;simp_all;done)
   |(refine aO ?_;grind)
   |skip
 simp(disch:=first|omega|(simp only[ax];omega)|simp only[av,Nat.reduceAdd]) only[go_sem,true_and];refine eJ (λhk0=>?_) (λhk0=>?_)
 ·rw[hp1 (by omega),Bool.and_true];unfold gC;rw[if_neg hk5,if_pos hk0]
  repeat' (first|(with_reducible first|refine ae ?_|refine ac ‹_› rfl ?_|refine ab ‹_› rfl ?_|refine ak (λhbr=>?_) λhbr=>?_)|simp(disch:=first|omega|(simp only[ax];omega)|simp only[av,Nat.reduceAdd]) only[go_sem,true_and])
  all_goals first
   |(refine aO ?_;simp[*];done)
   |(refine aO ?_;simp_all;done)
   |(refine aO ?_;grind)
   |skip
 unfold gC;rw[if_neg hk5,if_neg hk0];simp(disch:=first|omega|(simp only[ax];omega)|simp only[av,Nat.reduceAdd]) only[go_sem,true_and];refine yg [.sc (.bool (decide (k=4)&&decide (0<its.length)))] ?_ ?_
 ·repeat' (first|(with_reducible first|refine ae ?_|refine ac ‹_› rfl ?_|refine ab ‹_› rfl ?_|refine ak (λhbr=>?_) λhbr=>?_)|simp(disch:=first|omega|(simp only[ax];omega)|simp only[av,Nat.reduceAdd]) only[go_sem,true_and])
  all_goals first
   |(refine bb ?_;simp[*];done)
   |(refine bb ?_;simp_all;done)
   |(refine bb ?_;have hz:lv.length=0:=by omega
     rw[Vg,hz];simp[*];done)
   |(refine bb ?_;grind)
   |skip
 simp only[pV];by_cases hk4:k=4/\0<its.length
 ·rw[if_pos hk4.1,decide_eq_true hk4.1,decide_eq_true hk4.2,decide_eq_false (show¬its.length=0 by omega)]
  repeat' (first|(with_reducible first|refine ae ?_|refine ac ‹_› rfl ?_|refine ab ‹_› rfl ?_|refine ak (λhbr=>?_) λhbr=>?_)|simp(disch:=first|omega|(simp only[ax];omega)|simp only[av,Nat.reduceAdd]) only[go_sem,true_and])
  all_goals exact aO rfl
 have e4:(decide (k=4)&&decide (0<its.length))=false:=by rw[<-Bool.decide_and,decide_eq_false hk4]
 have e5:(if k=4 then decide (its.length=0)else bg (λj=>dk k lv.length (its.getD j default)) its.length)=bg (λj=>dk k lv.length (its.getD j default)) its.length:=by
  split
  ·have:its.length=0:=by omega
   rw[this];rfl
  ·rfl
 rw[e4,e5];simp(disch:=first|omega|(simp only[ax];omega)|simp only[av,Nat.reduceAdd]) only[go_sem,true_and];refine lp (λi:Nat=>[.sc (.int .i64 i)]) (λi=>i<=its.length/\bg (λj=>dk k lv.length (its.getD j default)) i=true) (λi=>its.length-i) 0 rfl ⟨Nat.zero_le _,rfl⟩ ?_;rintro i ⟨hi,ha⟩;simp only[pK];by_cases hlt:i<its.length
 ·have h8i:=h8 i;have h9i:=h9 i
  repeat' (first|(with_reducible first|refine ae ?_|refine ac ‹_› rfl ?_|refine ab ‹_› rfl ?_|refine ak (λhbr=>?_) λhbr=>?_)|simp(disch:=first|omega|(simp only[ax];omega)|simp only[av,Nat.reduceAdd]) only[go_sem,oI,cD,ao])
  all_goals first
   |omega
   |exact aO (by rw[bB (p:=λj=>dk k lv.length (its.getD j default)) hlt (by(first|(simp[-List.getD_eq_getElem?_getD,dk, *];done)|(simp_all[-List.getD_eq_getElem?_getD,dk];done)|(simp[-List.getD_eq_getElem?_getD,dk, *];omega)|(simp_all[-List.getD_eq_getElem?_getD,dk];omega)|omega)),Bool.false_and])
   |exact aO (by rw[bB (p:=λj=>dk k lv.length (its.getD j default)) hlt (by grind [dk]),Bool.false_and])
   |exact⟨i+1,rfl,⟨by omega,bf ha (by(first|(simp[-List.getD_eq_getElem?_getD,dk, *];done)|(simp_all[-List.getD_eq_getElem?_getD,dk];done)|(simp[-List.getD_eq_getElem?_getD,dk, *];omega)|(simp_all[-List.getD_eq_getElem?_getD,dk];omega)|omega))⟩,by omega⟩
   |skip
 obtain rfl:i=its.length:=by omega
 rw[ha,Bool.true_and];simp(disch:=first|omega|(simp only[ax];omega)|simp only[av,Nat.reduceAdd]) only[go_sem,true_and];refine eJ (λhx=>absurd hx (by omega)) (λ_=>?_);simp(disch:=first|omega|(simp only[ax];omega)|simp only[av,Nat.reduceAdd]) only[go_sem,true_and];refine lp (λi:Nat=>[.sc (.int .i64 i)]) (λi=>i<=ps.length/\bg (uo n ps) i=true) (λi=>ps.length-i) 0 rfl ⟨Nat.zero_le _,rfl⟩ ?_;rintro i ⟨hi2,ha2⟩;simp only[pa];by_cases hlt2:i<ps.length
 ·rcases n with _|m
  ·repeat' (first|(with_reducible first|refine ae ?_|refine ac ‹_› rfl ?_|refine ab ‹_› rfl ?_|refine ak (λhbr=>?_) λhbr=>?_)|simp(disch:=first|omega|(simp only[ax];omega)|simp only[av,Nat.reduceAdd]) only[go_sem,true_and])
   all_goals first
    |omega
    |exact aO (by rw[bB (p:=uo 0 ps) hlt2 rfl])
    |skip
  ·have hm:=aK hlt2;have hc:=ih m rfl _ (b6 _ hm);have hk:uo (m+1) ps i=d9 m (ps.getD i default):=rfl;have hix:cc 8 (some (.sl 35 8 (ps.map ap))) (some (.sc (.int .i64 (i:Int))))=some (ap (ps.getD i default)):=by rw[eL (by omega) (by omega),Int.toNat_natCast]
   have hs:((m+1:Nat):Int)-1=(m:Int):=by omega
   generalize ps.getD i default=x at hc hix hk;generalize d9 m x=b at hc hk;obtain⟨x0,x1,x2,x3,x4,x5,x6,x7⟩:=x;simp only[ap,al,aq]at hc hix;cases b
   ·repeat' (first|(with_reducible first|refine ae ?_|refine ac ‹_› rfl ?_|refine ab ‹_› rfl ?_|refine ak (λhbr=>?_) λhbr=>?_)|simp(disch:=first|omega|(simp only[ax];omega)|simp only[av,Nat.reduceAdd]) only[go_sem,hix,hs])
    all_goals first
     |omega
     |exact aO (by rw[bB (p:=uo (m+1) ps) hlt2 hk])
     |skip
   ·repeat' (first|(with_reducible first|refine ae ?_|refine ac ‹_› rfl ?_|refine ab ‹_› rfl ?_|refine ak (λhbr=>?_) λhbr=>?_)|simp(disch:=first|omega|(simp only[ax];omega)|simp only[av,Nat.reduceAdd]) only[go_sem,hix,hs])
    all_goals first
     |omega
     |exact⟨i+1,rfl,⟨by omega,bf ha2 hk⟩,by omega⟩
     |skip
 ·obtain rfl:i=ps.length:=by omega
  repeat' (first|(with_reducible first|refine ae ?_|refine ac ‹_› rfl ?_|refine ab ‹_› rfl ?_|refine ak (λhbr=>?_) λhbr=>?_)|simp(disch:=first|omega|(simp only[ax];omega)|simp only[av,Nat.reduceAdd]) only[go_sem,true_and])
  all_goals first|omega|exact aO ha2|skip
theorem Ol:∀n,n<=1000->YH n
 |0,h=>Gq 0 h λm e=>by omega
 |n+1,h=>Gq (n+1) h λm e=>by obtain rfl:n=m:=by omega
                             exact Ol n (by omega)
def Tv(n:Nat):Prop:=∀v,ck v<=1000000000->d9 n v=true->aB Tryz.prog 94 [(true,ap v)] [(false,[.sc (.int .i64 (vZ n v))],true)]
theorem CT(n:Nat)(hn:n<=3)(ih:∀m,n=m+1->Tv m):Tv n:=by
 rintro⟨k,its,ps,ns,cl,lv,c,e⟩ hw hv;have hb:=BO hw;have hbd:((vZ n (.mk k its ps ns cl lv c e):Nat):Int)<=3000000:=by have:=NU n hn _ hv;omega
 have h1:=H0 k its ps ns cl lv c e hb;obtain⟨b1,b2,b3,b4,b5,b6⟩:=hb;have hlen:=EH (k:=k) b1 b2;rw[HU]at hbd ⊢;rw[eD]at hv;have hkid:=(Bool.and_eq_true _ _▸hv).2;generalize hln:lC k its.length ps.length=ln at *;simp only[ap,al,aq]at h1 ⊢;refine ah Tryz.func94 xR rfl ?_;simp only[lG];simp(disch:=first|omega|(simp only[ax];omega)|simp only[av,Nat.reduceAdd]) only[go_sem,true_and];refine ac h1 rfl ?_;simp(disch:=first|omega|(simp only[ax];omega)|simp only[av,Nat.reduceAdd]) only[go_sem,true_and];refine lp (λi:Nat=>[.sc (.int .i64 i),.sc (.int .i64 (ln+(aA (og n) (ps.take i):Nat)))]) (λi=>i<=ps.length) (λi=>ps.length-i) 0 (by simp[gL,aA]) (Nat.zero_le _) ?_;intro i hi;simp only[ko];have hs1:=jv (og n) ps i;by_cases hlt:i<ps.length
 ·have hs2:=jv (og n) ps (i+1);have hm:=aK hlt;rcases n with _|m
  ·exact absurd (a9.1 hkid i hlt) (by show¬false=true;decide)
  ·have hk:d9 m (ps.getD i default)=true:=a9.1 hkid i hlt;have hc:=ih m rfl _ (b6 _ hm) hk;have hq:og (m+1) (ps.getD i default)=vZ m (ps.getD i default):=rfl;have hs3:=jl (og (m+1)) hlt;have hix:cc 8 (some (.sl 35 8 (ps.map ap))) (some (.sc (.int .i64 (i:Int))))=some (ap (ps.getD i default)):=by rw[eL (by omega) (by omega),Int.toNat_natCast]
   generalize ps.getD i default=x at hc hix hq hs3;rw[hq]at hs3;generalize vZ m x=y at hc hs3;obtain⟨x0,x1,x2,x3,x4,x5,x6,x7⟩:=x;simp only[ap,al,aq]at hc hix
   repeat' (first|(with_reducible first|refine ae ?_|refine ac ‹_› rfl ?_|refine ab ‹_› rfl ?_|refine ak (λhbr=>?_) λhbr=>?_)|simp(disch:=first|omega|(simp only[ax];omega)|simp only[av,Nat.reduceAdd]) only[go_sem,hix])
   all_goals first
    |omega
    |exact⟨i+1,by congr 4;omega,by omega,by omega⟩
    |skip
 ·obtain rfl:i=ps.length:=by omega
  rw[List.take_length]at*
  repeat' (first|(with_reducible first|refine ae ?_|refine ac ‹_› rfl ?_|refine ab ‹_› rfl ?_|refine ak (λhbr=>?_) λhbr=>?_)|simp(disch:=first|omega|(simp only[ax];omega)|simp only[av,Nat.reduceAdd]) only[go_sem,true_and])
  all_goals first|omega|exact dz (by omega)|skip
theorem Mb:∀n,n<=3->Tv n
 |0,h=>CT 0 h λm e=>by omega
 |n+1,h=>CT (n+1) h λm e=>by obtain rfl:n=m:=by omega
                             exact Mb n (by omega)
theorem lQ(v:aX)(hw:ck v<=1000000000):aB Tryz.prog 59 [(true,ap v)] [(false,[.sc (.bool (d7 v))],true)]:=by
 have h1:=Ol 3 (by omega) v hw;rw[show((3:Nat):Int)=3 from rfl]at h1;have h2:=Mb 3 (by omega) v hw;unfold d7;generalize vZ 3 v=y at *;generalize d9 3 v=b at *;obtain⟨k,its,ps,ns,cl,lv,c,e⟩:=v;simp only[ap,al,aq]at h1 h2 ⊢;refine ah Tryz.func59 vl rfl ?_;simp only[kI];cases b
 ·repeat' (first|(with_reducible first|refine ae ?_|refine ac ‹_› rfl ?_|refine ab ‹_› rfl ?_|refine ak (λhbr=>?_) λhbr=>?_)|simp(disch:=first|omega|(simp only[ax];omega)|simp only[av,Nat.reduceAdd]) only[go_sem,true_and])
  all_goals exact aO rfl
 ·have h3:=h2 rfl
  repeat' (first|(with_reducible first|refine ae ?_|refine ac ‹_› rfl ?_|refine ab ‹_› rfl ?_|refine ak (λhbr=>?_) λhbr=>?_)|simp(disch:=first|omega|(simp only[ax];omega)|simp only[av,Nat.reduceAdd]) only[go_sem,true_and])
  all_goals exact aO rfl
end Go.Proofs.YtliknccmjjncbaaGreat
