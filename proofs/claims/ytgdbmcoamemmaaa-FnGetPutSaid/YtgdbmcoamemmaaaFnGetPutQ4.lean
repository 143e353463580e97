/- Proved: for every input the law 'FnGetPut' returns true and its arguments read behind the call as before: part 4 of its proof. No condition. -/
import Derived.WalkKit
import Derived.Lib.Hide
import Derived.WalkSpells
import Derived.Laws.OwnMore
import Derived.Deep.AppendLies
import Derived.Deep.Draws
import Derived.Maps.AppendAt
import Derived.RegionTactic
import Derived.OwnWalk
import Derived.Below
import Derived.Laws.AppendOwnNone
import Derived.Deep.QuietTactic
import Derived.BigQuiet
import Derived.StillTailTactics
import Derived.Laws.Cells
import Derived.Laws.IdiomCopy
import Derived.ChangeKeysEq
import Derived.Laws.BytesArg
import Derived.Laws.StructEq
import Derived.Laws.Tables
import Derived.Great.BuildSlice
import Derived.StillTail
import Derived.OrdersHeld
import Derived.Test.YtgdbmcoamemmaaaProg
import Derived.Deep.Slices
import Derived.Deep.Fields
import Derived.ChangeSame
import Derived.OpenShut
import Derived.Laws.ResultCell
import Derived.Deep.RegionWith
import Derived.Test.YtgdbmcoamemmaaaFnGetPutQ3
set_option linter.unusedVariables false
set_option linter.unusedSimpArgs false
namespace Go.Proofs.Ytgdbmcoamemmaaa
open Go.RowKit
set_option maxRecDepth 100000
def vP:List aP:=[⟨2000001,7,⟨[aa 82 38,aa 34 39,aa 8 40,aa 7 41,aa 17 37,aa 16 33,aa 15 31,aa 14 8,al 5 7 5 0,al 4 1 1 0,al 2 0 0 0,(0,.p true [.d 0,.d 1,.d 2,.d 3,.d 4,.d 5,.d 6,.d 7]),aa 1 8],[(0,.var 0 28 [.d 0,.d 1,.d 2,.d 3,.d 4,.d 5,.d 6,.d 7]),(1,.var 1 28 [.d 9,.nil,.nil,.nil,.nil,.nil,.d 10,.d 11]),(7,.var 5 28 [.d 20,.own 2 2,.own 3 6,.own 4 7,.own 5 3,.own 6 4,.d 26,.d 27]),(6,.row 4 9 1 25),(5,.row 3 9 1 24),(4,.row 7 9 1 42),(3,.row 6 28 8 43),(2,.row 2 42 3 44)],8,8,45,[(37,true)]⟩,[]⟩,⟨2000002,3,⟨[aa 34 40,aa 8 39,aa 7 38,aa 17 37,aa 16 33,aa 15 31,aa 14 8,al 5 7 6 0,al 4 1 1 0,al 2 0 0 0,(0,.p true [.d 0,.d 1,.d 2,.d 3,.d 4,.d 5,.d 6,.d 7]),aa 1 8],[(0,.var 0 28 [.d 0,.d 1,.d 2,.d 3,.d 4,.d 5,.d 6,.d 7]),(1,.var 1 28 [.d 9,.nil,.nil,.nil,.nil,.nil,.d 10,.d 11]),(7,.var 6 28 [.d 20,.own 2 2,.own 3 7,.own 4 3,.own 5 4,.own 6 5,.d 26,.d 27]),(6,.row 5 9 1 25),(5,.row 4 9 1 24),(4,.row 3 9 1 34),(3,.row 7 28 8 41),(2,.row 2 42 3 42)],8,8,43,[(37,true)]⟩,[]⟩,⟨7,1,⟨[aa 34 40,aa 8 39,aa 7 38,aa 17 37,aa 16 33,aa 15 31,aa 14 8,al 5 7 7 0,al 4 1 1 0,al 2 0 0 0,(0,.p true [.d 0,.d 1,.d 2,.d 3,.d 4,.d 5,.d 6,.d 7]),aa 1 8],[(0,.var 0 28 [.d 0,.d 1,.d 2,.d 3,.d 4,.d 5,.d 6,.d 7]),(1,.var 1 28 [.d 9,.nil,.nil,.nil,.nil,.nil,.d 10,.d 11]),(7,.var 7 28 [.d 20,.own 2 2,.own 3 3,.own 4 4,.own 5 5,.own 6 6,.d 26,.d 27]),(6,.row 6 9 1 25),(5,.row 5 9 1 24),(4,.row 4 9 1 34),(3,.row 3 28 8 35),(2,.row 2 42 3 36)],8,8,41,[(37,true)]⟩,[]⟩,⟨5,1,⟨[aa 8 39,aa 7 38,aa 17 37,aa 16 33,aa 15 31,aa 14 8,al 5 7 7 0,al 4 1 1 0,al 2 0 0 0,(0,.p true [.d 0,.d 1,.d 2,.d 3,.d 4,.d 5,.d 6,.d 7]),aa 1 8],[(0,.var 0 28 [.d 0,.d 1,.d 2,.d 3,.d 4,.d 5,.d 6,.d 7]),(1,.var 1 28 [.d 9,.nil,.nil,.nil,.nil,.nil,.d 10,.d 11]),(7,.var 7 28 [.d 20,.own 2 2,.own 3 3,.own 4 4,.own 5 5,.own 6 6,.d 26,.d 27]),(6,.row 6 9 1 25),(5,.row 5 9 1 24),(4,.row 4 9 1 34),(3,.row 3 28 8 35),(2,.row 2 42 3 36)],8,8,40,[(37,true)]⟩,[]⟩,⟨3000003,4,⟨[aa 16 33,aa 15 31,aa 14 8,al 5 7 7 0,al 4 1 1 0,al 2 0 0 0,(0,.p true [.d 0,.d 1,.d 2,.d 3,.d 4,.d 5,.d 6,.d 7]),aa 1 8],[(0,.var 0 28 [.d 0,.d 1,.d 2,.d 3,.d 4,.d 5,.d 6,.d 7]),(1,.var 1 28 [.d 9,.nil,.nil,.nil,.nil,.nil,.d 10,.d 11]),(7,.var 7 28 [.d 20,.own 2 2,.own 3 3,.own 4 4,.own 5 5,.own 6 6,.d 26,.d 27]),(6,.row 6 9 1 25),(5,.row 5 9 1 24),(4,.row 4 9 1 34),(3,.row 3 28 8 35),(2,.row 2 42 3 36)],8,8,37,[]⟩,[]⟩]
def wj:List (Nat×Nat×Bool×List Nat):=[(14,9,false,[]),(12,9,false,[]),(8,10,false,[])]
def bE:UP:=.ite 0 (.i 1<|.b .sub 3 0<|.c 0<|.z 0<|.x 8 9 0<|.sel [0,1,2,3,4,5,6,7,10,13,14]<|.cl 18 [(true,[7,6,5,4,3,2,1,0])] cb<|.po (.mk 28 8 [[7,6,5,4,3,2,1,0]])<|.c 8<|.c 2<|.c 1<|.po (.mk 28 8 [[8,7,6,5,4,3,2,1]])<|.po (.app 28 8 144 20 0)<|.jump 2 [19,0,20])<|.i 4<|.e 10 0<|.ite 0 (.i 0<|.i 0<|.i 0<|.c 2<|.po (.e 42 3)<|.po (.e 28 8)<|.po (.e 9 1)<|.po (.e 9 1)<|.po (.e 9 1)<|.c 6<|.c 5<|.po (.mk 28 8 [[7,4,3,2,1,0,6,5]])<|.po (.app 28 8 144 15 0)<|.jump 2 [12,0,15])<|.ite 3 (.i 1<|.b .sub 5 0<|.c 0<|.z 0<|.x 3 12 0<|.c 2<|.c 1<|.c 0<|.po (.mk 42 3 [[2,1,0]])<|.c 3<|.c 2<|.c 1<|.po (.mk 42 3 [[3,2,1]])<|.po (.flat 0)<|.po (.app 42 3 32 12 0)<|.jump 2 [10,14,0])<|.i 0<|.i 0<|.s #[]<|.c 2<|.c 1<|.c 0<|.po (.mk 42 3 [[2,1,0]])<|.po (.flat 0)<|.po (.app 42 3 32 9 0)<|.jump 2 [7,11,0]
def bG:UP:=.l 8<|.i 0<|.b .gtr 1 0<|.ite 0 (.ite 6 (.i 1<|.b .sub 8 0<|.c 0<|.z 0<|.x 1 13 0<|.c 0<|.po (.mk 9 1 [[0]])<|.c 1<|.po (.mk 9 1 [[1]])<|.po (.flat 0)<|.po (.app 9 1 16 15 0)<|.jump 1 [12,11,12,13,0,10,9])<|.l 11<|.i 0<|.b .gtr 1 0<|.ite 0 (.s #[60,78,65,62]<|.c 0<|.po (.mk 9 1 [[0]])<|.po (.flat 0)<|.po (.app 9 1 16 15 0)<|.jump 1 [12,11,12,13,0,10,9])<|.jump 1 [9,8,9,10,13,7,6])<|.f<|.l 12<|.i 0<|.b .gtr 1 0<|.ite 0 (.s #[60,78,65,62]<|.c 0<|.po (.mk 9 1 [[0]])<|.po (.flat 0)<|.po (.app 9 1 16 16 0)<|.jump 1 [6,12,13,14,0,11,10])<|.jump 1 [3,9,10,11,14,8,7]
def bJ:UP:=.sel [0,1,2,3,4,11,12,13,14]<|.join 3 bG<|.join 1 bE<|.i 4<|.e 9 0<|.ite 0 (.jump 3 [2])<|.f<|.jump 3 [0]
def bH:UP:=.i 1<|.a 11 0<|.jump 0 [0,4,3,2]
def lI:UP:=.b .lss 3 5<|.ite 0 (.sel [1,2,3,4,15,16,17,18,19,20,21,22,23]<|.join 7 bH<|.z 3<|.x 1 4 3<|.join 1 bJ<|.i 1<|.b .geq 1 0<|.ite 0 (.sel [2,8,9,10,11,12,13,14,15]<|.cl 19 [(true,[8,7,6,5,4,3,2,1])] aD<|.b .leq 1 0<|.jump 2 [0])<|.f<|.jump 2 [0])<|.c 14<|.c 8<|.c 7<|.sel [1,2,3,7,8,9,10,14]<|.cl 5000052 [(true,[7,0,1,2,6,5,4,3])] cb<|.c 7<|.c 1<|.c 0<|.ret [(true,[7,6,5,4,3,2,1,0])]
def mS:UP:=.i 0<|.i 0<|.i 0<|.i 0<|.i 0<|.i 0<|.c 14<|.po (.e 42 3)<|.po (.e 28 8)<|.po (.e 9 1)<|.po (.e 9 1)<|.po (.e 9 1)<|.c 6<|.c 5<|.sel [0,1,2,3,4,5,6,11,12,13,14,15,16,17,18,19]<|.cl 5000074 [(true,[15,4,3,2,1,0,6,5]),(true,[15,14,13,12,11,10,9,8])] cb<|.i 0<|.i 0<|.i 0<|.l 18<|.i 0<|.sel [0,1,5,6,7,8,9,10,11,12,20,21,22,23,24,25,26,27,28]<|.loop [0,6,7,8] lI
theorem vH:aR Try.prog 42 Try.f42 cV vP wj=some ([(true,8),(false,1)],mS):=by kernel_rfl
def vT:List aP:=[⟨1000003,2,⟨[aa 15 20,al 5 2 2 0,al 4 1 1 0,al 2 0 0 0,(0,.p true [.d 0,.d 1,.d 2,.d 3,.d 4,.d 5,.d 6,.d 7]),aa 1 8],[(0,.var 0 28 [.d 0,.d 1,.d 2,.d 3,.d 4,.d 5,.d 6,.d 7]),(1,.var 1 28 [.d 9,.nil,.nil,.nil,.nil,.nil,.d 10,.d 11]),(2,.var 2 28 [.d 0,.nil,.nil,.nil,.own 3 3,.own 4 4,.d 13,.d 14]),(4,.row 4 9 1 21),(3,.row 3 9 1 22)],5,5,23,[]⟩,[⟨false,2,4,9,1⟩,⟨false,2,5,9,1⟩]⟩,⟨1000011,2,⟨[aa 47 41,aa 8 40,aa 7 35,aa 29 32,aa 6 27,aa 15 20,al 5 2 2 0,al 4 1 1 0,al 2 0 0 0,(0,.p true [.d 0,.d 1,.d 2,.d 3,.d 4,.d 5,.d 6,.d 7]),aa 1 8],[(0,.var 0 28 [.d 0,.d 1,.d 2,.d 3,.d 4,.d 5,.d 6,.d 7]),(1,.var 1 28 [.d 9,.nil,.nil,.nil,.nil,.nil,.d 10,.d 11]),(2,.var 2 28 [.d 0,.own 5 5,.own 6 7,.own 7 6,.own 3 3,.own 4 4,.d 13,.d 14]),(4,.row 4 9 1 21),(3,.row 3 9 1 22),(7,.row 6 9 1 28),(6,.row 7 28 8 42),(5,.row 5 42 3 43)],8,8,44,[(32,true)]⟩,[⟨false,2,1,42,3⟩,⟨false,2,2,28,8⟩]⟩,⟨2000001,7,⟨[aa 91 33,aa 47 34,aa 8 35,aa 7 36,aa 29 32,aa 6 27,aa 15 20,al 5 2 2 0,al 4 1 1 0,al 2 0 0 0,(0,.p true [.d 0,.d 1,.d 2,.d 3,.d 4,.d 5,.d 6,.d 7]),aa 1 8],[(0,.var 0 28 [.d 0,.d 1,.d 2,.d 3,.d 4,.d 5,.d 6,.d 7]),(1,.var 1 28 [.d 9,.nil,.nil,.nil,.nil,.nil,.d 10,.d 11]),(2,.var 2 28 [.d 0,.own 5 5,.own 6 6,.own 7 7,.own 3 3,.own 4 4,.d 13,.d 14]),(4,.row 4 9 1 21),(3,.row 3 9 1 22),(7,.row 7 9 1 37),(6,.row 6 28 8 38),(5,.row 5 42 3 39)],8,8,40,[(32,true)]⟩,[]⟩,⟨10,1,⟨[aa 47 41,aa 8 40,aa 7 35,aa 29 32,aa 6 27,aa 15 20,al 5 2 2 0,al 4 1 1 0,al 2 0 0 0,(0,.p true [.d 0,.d 1,.d 2,.d 3,.d 4,.d 5,.d 6,.d 7]),aa 1 8],[(0,.var 0 28 [.d 0,.d 1,.d 2,.d 3,.d 4,.d 5,.d 6,.d 7]),(1,.var 1 28 [.d 9,.nil,.nil,.nil,.nil,.nil,.d 10,.d 11]),(2,.var 2 28 [.d 0,.own 5 5,.own 6 6,.own 7 7,.own 3 3,.own 4 4,.d 13,.d 14]),(4,.row 4 9 1 21),(3,.row 3 9 1 22),(7,.row 7 9 1 28),(6,.row 6 28 8 29),(5,.row 5 42 3 30)],8,8,42,[(32,true)]⟩,[]⟩,⟨3000006,4,⟨[aa 6 27,aa 15 20,al 5 2 2 0,al 4 1 1 0,al 2 0 0 0,(0,.p true [.d 0,.d 1,.d 2,.d 3,.d 4,.d 5,.d 6,.d 7]),aa 1 8],[(0,.var 0 28 [.d 0,.d 1,.d 2,.d 3,.d 4,.d 5,.d 6,.d 7]),(1,.var 1 28 [.d 9,.nil,.nil,.nil,.nil,.nil,.d 10,.d 11]),(2,.var 2 28 [.d 0,.own 5 5,.own 6 6,.own 7 7,.own 3 3,.own 4 4,.d 13,.d 14]),(4,.row 4 9 1 21),(3,.row 3 9 1 22),(7,.row 7 9 1 28),(6,.row 6 28 8 29),(5,.row 5 42 3 30)],8,8,31,[]⟩,[⟨false,2,1,42,3⟩,⟨false,2,2,28,8⟩,⟨false,2,3,9,1⟩]⟩]
def vQ:List (Nat×Nat×Bool×List Nat):=[(15,8,false,[]),(18,8,false,[]),(11,9,false,[])]
def bK:UP:=.l 10<|.i 0<|.b .gtr 1 0<|.ite 0 (.ite 6 (.z 9<|.x 1 13 9<|.c 0<|.po (.mk 9 1 [[0]])<|.c 1<|.po (.mk 9 1 [[1]])<|.po (.flat 0)<|.po (.app 9 1 16 15 0)<|.jump 1 [10,9,10,13,0,8,7])<|.l 13<|.i 0<|.b .gtr 1 0<|.ite 0 (.s #[60,78,65,62]<|.c 0<|.po (.mk 9 1 [[0]])<|.po (.flat 0)<|.po (.app 9 1 16 17 0)<|.jump 1 [12,11,12,15,0,10,9])<|.jump 1 [9,8,9,12,15,7,6])<|.f<|.l 14<|.i 0<|.b .gtr 1 0<|.ite 0 (.s #[60,78,65,62]<|.c 0<|.po (.mk 9 1 [[0]])<|.po (.flat 0)<|.po (.app 9 1 16 18 0)<|.jump 1 [6,12,13,16,0,11,10])<|.jump 1 [3,9,10,13,16,8,7]
def bI:UP:=.join 2 bK<|.ite 0 (.z 4<|.x 8 9 4<|.sel [0,1,2,3,4,5,6,7,13,14]<|.cl 28 [(true,[7,6,5,4,3,2,1,0])] cb<|.po (.mk 28 8 [[7,6,5,4,3,2,1,0]])<|.c 8<|.c 2<|.c 1<|.po (.mk 28 8 [[8,7,6,5,4,3,2,1]])<|.po (.app 28 8 144 19 0)<|.jump 2 [0,19])<|.i 4<|.e 12 0<|.ite 0 (.i 0<|.i 0<|.i 0<|.c 2<|.po (.e 42 3)<|.po (.e 28 8)<|.po (.e 9 1)<|.po (.e 9 1)<|.po (.e 9 1)<|.c 6<|.c 5<|.po (.mk 28 8 [[7,4,3,2,1,0,6,5]])<|.po (.app 28 8 144 17 0)<|.jump 2 [0,17])<|.ite 3 (.z 6<|.x 3 12 6<|.c 2<|.c 1<|.c 0<|.po (.mk 42 3 [[2,1,0]])<|.c 3<|.c 2<|.c 1<|.po (.mk 42 3 [[3,2,1]])<|.po (.flat 0)<|.po (.app 42 3 32 12 0)<|.jump 2 [14,0])<|.i 0<|.i 0<|.s #[]<|.c 2<|.c 1<|.c 0<|.po (.mk 42 3 [[2,1,0]])<|.po (.flat 0)<|.po (.app 42 3 32 11 0)<|.jump 2 [13,0]
def bF:UP:=.i 1<|.a 11 0<|.jump 0 [0,4,3,2]
def lX:UP:=.l 13<|.b .lss 4 0<|.ite 0 (.sel [2,3,4,5,15,16,17,18,19,20,21,22,23]<|.join 7 bF<|.z 3<|.x 1 4 3<|.i 1<|.b .sub 1 0<|.sel [0,3,4,5,8,9,10,11,12,13,14,15]<|.cl 26 [(true,[11,10,9,8,7,6,5,4])] aD<|.i 1<|.b .sub 1 0<|.i 0<|.sel [0,1,4,5,6,7,12,13,14,15]<|.cl 36 [(false,[2]),(false,[0]),(false,[1])] aD<|.join 1 bI<|.i 4<|.e 11 0<|.ite 0 (.jump 2 [2])<|.f<|.jump 2 [0])<|.c 23<|.c 14<|.c 13<|.sel [2,3,4,10,11,13,14,23]<|.cl 5000034 [(true,[7,0,1,2,3,4,6,5])] cb<|.c 7<|.c 1<|.c 0<|.ret [(true,[7,6,5,4,3,2,1,0])]
def lm:UP:=.i 0<|.po (.e 42 3)<|.po (.e 28 8)<|.po (.e 9 1)<|.loop [3,0,1,2] lX
def m0:UP:=.i 0<|.i 0<|.i 0<|.i 0<|.i 0<|.i 0<|.i 0<|.i 0<|.i 0<|.l 12<|.i 0<|.b .gtr 1 0<|.sel [0,6,7,12,13,14,15,16,17,18,19,20]<|.join 2 lm<|.ite 0 (.po (.mk 9 1 [])<|.po (.flat 8)<|.po (.app 9 1 16 0 8)<|.po (.mk 9 1 [])<|.po (.flat 9)<|.po (.app 9 1 16 0 9)<|.jump 0 [0,2])<|.po (.e 9 1)<|.po (.e 9 1)<|.jump 0 [0,1]
theorem wh:aR Try.prog 44 Try.f44 cV vT vQ=some ([(true,8),(false,1)],m0):=by kernel_rfl
def zc:List aP:=[⟨2000001,5,⟨[aa 26 31,aa 4 28,al 5 5 5 0,aa 20 30,aa 19 28,aa 18 26,aa 17 1,aa 14 24,al 3 4 4 0,al 2 1 1 0,al 1 0 0 0,(0,.p true [.d 0,.d 1,.d 2,.d 3,.d 4,.d 5,.d 6,.d 7])],[(0,.var 0 28 [.d 0,.d 1,.d 2,.d 3,.d 4,.d 5,.d 6,.d 7]),(1,.var 1 28 [.d 8,.nil,.nil,.nil,.nil,.nil,.d 9,.d 10]),(4,.var 4 28 [.d 25,.own 2 2,.own 3 3,.nil,.nil,.nil,.d 17,.d 18]),(3,.row 3 28 8 13),(2,.row 2 42 3 32),(5,.var 5 42 [.d 33,.d 34,.d 35])],6,6,36,[(30,true),(24,true)]⟩,[]⟩,⟨3000008,2,⟨[aa 19 28,aa 18 26,aa 17 1,aa 14 24,al 3 4 4 0,al 2 1 1 0,al 1 0 0 0,(0,.p true [.d 0,.d 1,.d 2,.d 3,.d 4,.d 5,.d 6,.d 7])],[(0,.var 0 28 [.d 0,.d 1,.d 2,.d 3,.d 4,.d 5,.d 6,.d 7]),(1,.var 1 28 [.d 8,.nil,.nil,.nil,.nil,.nil,.d 9,.d 10]),(4,.var 4 28 [.d 25,.own 2 2,.own 3 3,.nil,.nil,.nil,.d 17,.d 18]),(3,.row 3 28 8 13),(2,.row 2 42 3 29)],5,5,30,[(24,true)]⟩,[]⟩]
def yn:List (Nat×Nat×Bool×List Nat):=[(11,12,false,[])]
def ia:UP:=.i 1<|.a 7 0<|.jump 0 [0,5]
def mz:UP:=.b .lss 1 3<|.ite 0 (.sel [1,2,10,11]<|.join 5 ia<|.z 1<|.x 3 3 1<|.i 0<|.i 0<|.s #[]<|.sel [3,4,5,6,7,8]<|.cl 55 [(true,[2,1,0])] aD<|.n 0<|.ite 0 (.c 4<|.i 1<|.b .sub 5 0<|.c 0<|.z 0<|.x 1 9 0<|.c 0<|.sel [0,3,5,6,7,8,9]<|.cl 58 [(false,[0])] eO<|.z 9<|.po (.chk 3 8 9)<|.c 2<|.c 1<|.c 0<|.po (.set 3 8 9 0 [2,1,0])<|.jump 1 [5,0,8,7,6])<|.jump 1 [0,5,4,3,2])<|.c 5<|.po (.e 9 1)<|.po (.e 9 1)<|.po (.e 9 1)<|.c 10<|.c 9<|.ret [(true,[8,4,11,2,1,0,10,9])]
def jq:UP:=.i 0<|.i 0<|.i 0<|.cl 18 [(true,[10,9,8,7,6,5,4,3])] cb<|.i 0<|.i 0<|.i 0<|.l 16<|.i 0<|.b .gtr 1 0<|.ite 0 (.i 3<|.l 24<|.i 0<|.sel [0,1,2,9,10,14,15,22,26]<|.loop [0,6] mz)<|.c 13<|.po (.e 9 1)<|.po (.e 9 1)<|.po (.e 9 1)<|.c 10<|.c 9<|.ret [(true,[16,15,14,2,1,0,10,9])]
theorem n7:aR Try.prog 22 Try.f22 cV zc yn=some ([(true,8)],jq):=by kernel_rfl
def ve:List aP:=[⟨2000001,3,⟨[aa 32 23,aa 22 22,aa 4 15,al 3 3 3 0,al 2 1 1 0,al 1 0 0 0,(0,.p true [.d 0,.d 1,.d 2,.d 3,.d 4,.d 5,.d 6,.d 7])],[(0,.var 0 28 [.d 0,.d 1,.d 2,.d 3,.d 4,.d 5,.d 6,.d 7]),(1,.var 1 28 [.d 8,.nil,.nil,.nil,.nil,.nil,.d 9,.d 10]),(3,.var 3 28 [.d 24,.own 2 2,.nil,.nil,.nil,.nil,.d 11,.d 12]),(2,.row 2 42 3 25)],4,4,26,[(22,true),(19,true)]⟩,[]⟩,⟨3000003,3,⟨[aa 4 15,al 3 3 3 0,al 2 1 1 0,al 1 0 0 0,(0,.p true [.d 0,.d 1,.d 2,.d 3,.d 4,.d 5,.d 6,.d 7])],[(0,.var 0 28 [.d 0,.d 1,.d 2,.d 3,.d 4,.d 5,.d 6,.d 7]),(1,.var 1 28 [.d 8,.nil,.nil,.nil,.nil,.nil,.d 9,.d 10]),(3,.var 3 28 [.d 16,.own 2 2,.nil,.nil,.nil,.nil,.d 11,.d 12]),(2,.row 2 42 3 17)],4,4,18,[]⟩,[]⟩,⟨1,3,⟨[al 3 3 3 0,al 2 1 1 0,al 1 0 0 0,(0,.p true [.d 0,.d 1,.d 2,.d 3,.d 4,.d 5,.d 6,.d 7])],[(0,.var 0 28 [.d 0,.d 1,.d 2,.d 3,.d 4,.d 5,.d 6,.d 7]),(1,.var 1 28 [.d 8,.nil,.nil,.nil,.nil,.nil,.d 9,.d 10]),(3,.var 3 28 [.d 0,.own 2 2,.nil,.nil,.nil,.nil,.d 11,.d 12]),(2,.row 2 42 3 13)],4,4,14,[]⟩,[]⟩]
def vb:List (Nat×Nat×Bool×List Nat):=[(7,16,false,[]),(1,8,false,[])]
def fu:UP:=.i 1<|.a 5 0<|.jump 0 [0,3,2]
def fz:UP:=.l 8<|.b .lss 3 0<|.ite 0 (.l 9<|.i 0<|.b .gtr 1 0<|.ite 0 (.sel [5,7,12,13]<|.join 3 fu<|.i 3<|.z 2<|.po (.chk 3 1 2)<|.x 3 1 2<|.i 0<|.b .neq 2 0<|.ite 0 (.z 7<|.x 3 9 7<|.c 2<|.i 1<|.b .sub 3 0<|.c 0<|.z 0<|.x 1 13 0<|.c 0<|.sel [0,6,11,12,13]<|.cl 66 [(false,[0])] eO<|.z 7<|.po (.chk 3 6 7)<|.c 2<|.c 1<|.c 0<|.po (.set 3 6 7 0 [2,1,0])<|.jump 1 [5,6,0])<|.jump 1 [0,5,6])<|.l 12<|.i 0<|.b .gtr 1 0<|.ite 0 (.i 3<|.c 0<|.po (.e 28 8)<|.po (.e 9 1)<|.po (.e 9 1)<|.po (.e 9 1)<|.c 19<|.c 18<|.ret [(true,[4,13,3,2,1,0,19,18])])<|.c 9<|.po (.e 28 8)<|.po (.e 9 1)<|.po (.e 9 1)<|.po (.e 9 1)<|.c 18<|.c 17<|.ret [(true,[13,12,3,2,1,0,18,17])])<|.f<|.l 10<|.i 0<|.b .gtr 1 0<|.ite 0 (.i 3<|.c 0<|.po (.e 28 8)<|.po (.e 9 1)<|.po (.e 9 1)<|.po (.e 9 1)<|.c 17<|.c 16<|.ret [(true,[4,11,3,2,1,0,17,16])])<|.c 7<|.po (.e 28 8)<|.po (.e 9 1)<|.po (.e 9 1)<|.po (.e 9 1)<|.c 16<|.c 15<|.ret [(true,[11,10,3,2,1,0,16,15])]
def fq:UP:=.i 0<|.loop [0,6,1] fz
def gm:UP:=.i 0<|.i 0<|.i 0<|.sel [5,9,10]<|.join 3 fq<|.c 2<|.po (.emp 1)<|.ite 0 (.i 0<|.i 0<|.i 0<|.i 0<|.i 0<|.i 0<|.i 0<|.i 0<|.i 0<|.po (.mk 42 3 [])<|.jump 0 [5,4,0])<|.po (.e 42 3)<|.po (.flat 3)<|.po (.app 42 3 32 0 3)<|.i 0<|.i 0<|.i 0<|.i 0<|.i 0<|.i 0<|.i 0<|.i 0<|.i 0<|.po (.mk 42 3 [])<|.jump 0 [5,4,10]
theorem lB:aR Try.prog 30 Try.f30 cV ve vb=some ([(true,8)],gm):=by kernel_rfl
def uF:List aP:=[⟨3000020,2,⟨[aa 72 28,aa 71 25,aa 70 1,aa 34 24,aa 31 22,aa 20 21,al 6 3 3 0,aa 5 12,al 4 1 1 0,al 2 0 0 0,(0,.p true [.d 0,.d 1,.d 2,.d 3,.d 4,.d 5,.d 6,.d 7]),aa 1 8],[(0,.var 0 28 [.d 0,.d 1,.d 2,.d 3,.d 4,.d 5,.d 6,.d 7]),(1,.var 1 28 [.d 9,.nil,.nil,.nil,.nil,.nil,.d 10,.d 11]),(3,.var 3 28 [.d 8,.own 4 4,.nil,.own 2 2,.nil,.nil,.d 15,.d 16]),(2,.row 2 9 1 13),(4,.row 4 42 3 29)],5,5,30,[(24,false),(22,false),(21,false),(12,false)]⟩,[⟨false,3,1,42,3⟩]⟩,⟨3000014,2,⟨[aa 53 33,aa 52 31,aa 51 1,aa 39 30,aa 38 28,aa 37 25,aa 36 2,aa 34 24,aa 31 22,aa 20 21,al 6 3 3 0,aa 5 12,al 4 1 1 0,al 2 0 0 0,(0,.p true [.d 0,.d 1,.d 2,.d 3,.d 4,.d 5,.d 6,.d 7]),aa 1 8],[(0,.var 0 28 [.d 0,.d 1,.d 2,.d 3,.d 4,.d 5,.d 6,.d 7]),(1,.var 1 28 [.d 9,.nil,.nil,.nil,.nil,.nil,.d 10,.d 11]),(3,.var 3 28 [.d 8,.nil,.own 4 4,.own 2 2,.nil,.nil,.d 15,.d 16]),(2,.row 2 9 1 13),(4,.row 4 28 8 34)],5,5,35,[(30,false),(24,true),(22,false),(21,false),(12,false)]⟩,[]⟩,⟨3000009,2,⟨[aa 38 28,aa 37 25,aa 36 2,aa 34 24,aa 31 22,aa 20 21,al 6 3 3 0,aa 5 12,al 4 1 1 0,al 2 0 0 0,(0,.p true [.d 0,.d 1,.d 2,.d 3,.d 4,.d 5,.d 6,.d 7]),aa 1 8],[(0,.var 0 28 [.d 0,.d 1,.d 2,.d 3,.d 4,.d 5,.d 6,.d 7]),(1,.var 1 28 [.d 9,.nil,.nil,.nil,.nil,.nil,.d 10,.d 11]),(3,.var 3 28 [.d 8,.nil,.own 4 4,.own 2 2,.nil,.nil,.d 15,.d 16]),(2,.row 2 9 1 13),(4,.row 4 28 8 29)],5,5,30,[(24,true),(22,false),(21,false),(12,false)]⟩,[⟨false,3,2,28,8⟩]⟩]
def u5:List (Nat×Nat×Bool×List Nat):=[(22,8,false,[]),(11,5,false,[])]
def kw:UP:=.b .lss 1 3<|.ite 0 (.z 2<|.x 3 10 2<|.i 0<|.i 0<|.s #[]<|.c 5<|.c 4<|.c 3<|.po (.mk 42 3 [[5,4,3]])<|.i 0<|.i 0<|.i 0<|.c 21<|.po (.e 28 8)<|.po (.e 9 1)<|.po (.e 9 1)<|.po (.e 9 1)<|.c 5<|.c 4<|.po (.mk 28 8 [[25,7,3,2,1,0,5,4]])<|.po (.app 28 8 144 16 0)<|.i 1<|.a 19 0<|.jump 1 [0,2])<|.t<|.c 10<|.po (.e 42 3)<|.po (.e 9 1)<|.po (.e 9 1)<|.c 11<|.c 10<|.c 3<|.ret [(true,[13,2,5,12,1,0,11,10]),(false,[3])]
def kJ:UP:=.b .lss 1 4<|.ite 0 (.z 2<|.x 8 10 2<|.i 0<|.i 0<|.i 0<|.sel [3,4,5,6,7,8,9,10,12,13]<|.cl 18 [(true,[7,6,5,4,3,2,1,0])] cb<|.po (.mk 28 8 [[7,6,5,4,3,2,1,0]])<|.c 8<|.c 2<|.c 1<|.po (.mk 28 8 [[8,7,6,5,4,3,2,1]])<|.po (.app 28 8 144 18 0)<|.i 1<|.a 21 0<|.jump 0 [0,2])<|.l 11<|.i 0<|.sel [0,1,3,8,9,10,11,13,14]<|.loop [0,2] kw
def kN:UP:=.b .lss 1 4<|.ite 0 (.z 2<|.x 3 10 2<|.i 0<|.i 0<|.s #[]<|.c 5<|.c 4<|.c 3<|.c 17<|.sel [3,4,5,7,8,15,17]<|.cl 86 [(true,[2,1,0]),(false,[6]),(false,[5])] eO<|.po (.mk 42 3 [[2,1,0]])<|.c 3<|.c 2<|.c 1<|.po (.mk 42 3 [[3,2,1]])<|.po (.flat 0)<|.po (.app 42 3 32 8 0)<|.i 1<|.a 11 0<|.jump 0 [0,2])<|.t<|.c 10<|.po (.e 28 8)<|.po (.e 9 1)<|.po (.e 9 1)<|.c 11<|.c 10<|.c 3<|.ret [(true,[13,5,2,12,1,0,11,10]),(false,[3])]
def eq:UP:=.i 0<|.i 0<|.i 0<|.f<|.sel [4,5,6,7,8,9,10,11,12]<|.cl 51 [(false,[5])] tK<|.i 0<|.i 0<|.i 0<|.i 0<|.i 0<|.i 0<|.i 5<|.e 16 0<|.ite 0 (.sel [5,6,8,9,10,11,12,13,14,15,16,17]<|.cl 18 [(true,[11,10,9,8,7,6,5,4])] cb<|.c 7<|.c 1<|.c 0<|.po (.mk 28 8 [[7,6,5,4,3,2,1,0]])<|.i 4<|.e 13 0<|.c 14<|.po (.e 42 3)<|.po (.e 9 1)<|.po (.e 9 1)<|.c 15<|.c 14<|.c 3<|.ret [(true,[17,2,5,16,1,0,15,14]),(false,[3])])<|.b .gtr 17 9<|.ite 0 (.i 0<|.i 0<|.i 0<|.f<|.c 3<|.po (.e 42 3)<|.po (.e 28 8)<|.po (.e 9 1)<|.po (.e 9 1)<|.po (.e 9 1)<|.c 7<|.c 6<|.c 5<|.ret [(true,[8,4,3,2,1,0,7,6]),(false,[5])])<|.i 4<|.e 11 0<|.ite 0 (.l 18<|.i 0<|.po (.e 28 8)<|.sel [0,1,2,11,12,14,15,21,22,23]<|.loop [1,0] kJ)<|.l 19<|.i 0<|.po (.e 42 3)<|.sel [0,1,2,11,12,14,15,22,23]<|.loop [1,0] kN
theorem gd:aR Try.prog 60 Try.f60 cV uF u5=some ([(true,8),(false,1)],eq):=by kernel_rfl
def nb:List aP:=[⟨1000005,1,⟨[aa 46 23,al 6 3 3 0,aa 36 13,aa 5 12,al 4 1 1 0,al 2 0 0 0,(0,.p true [.d 0,.d 1,.d 2,.d 3,.d 4,.d 5,.d 6,.d 7]),aa 1 8],[(0,.var 0 28 [.d 0,.d 1,.d 2,.d 3,.d 4,.d 5,.d 6,.d 7]),(1,.var 1 28 [.d 9,.nil,.nil,.nil,.nil,.nil,.d 10,.d 11]),(3,.var 3 28 [.d 8,.nil,.own 4 4,.own 2 2,.nil,.nil,.d 17,.d 18]),(2,.row 2 9 1 15),(4,.row 4 28 8 24)],5,5,25,[(13,false),(12,false)]⟩,[⟨false,3,2,28,8⟩]⟩,⟨2000001,6,⟨[aa 71 32,al 8 6 5 0,aa 62 31,aa 7 27,aa 46 23,al 6 3 3 0,aa 36 13,aa 5 12,al 4 1 1 0,al 2 0 0 0,(0,.p true [.d 0,.d 1,.d 2,.d 3,.d 4,.d 5,.d 6,.d 7]),aa 1 8],[(0,.var 0 28 [.d 0,.d 1,.d 2,.d 3,.d 4,.d 5,.d 6,.d 7]),(1,.var 1 28 [.d 9,.nil,.nil,.nil,.nil,.nil,.d 10,.d 11]),(3,.var 3 28 [.d 8,.own 5 4,.own 4 6,.own 2 2,.nil,.nil,.d 17,.d 18]),(2,.row 2 9 1 15),(4,.row 6 28 8 33),(5,.row 4 42 3 34),(6,.var 5 42 [.d 35,.d 36,.d 37])],7,7,38,[(31,true),(13,false),(12,false)]⟩,[⟨false,3,1,42,3⟩]⟩,⟨3000009,3,⟨[aa 7 27,aa 46 23,al 6 3 3 0,aa 36 13,aa 5 12,al 4 1 1 0,al 2 0 0 0,(0,.p true [.d 0,.d 1,.d 2,.d 3,.d 4,.d 5,.d 6,.d 7]),aa 1 8],[(0,.var 0 28 [.d 0,.d 1,.d 2,.d 3,.d 4,.d 5,.d 6,.d 7]),(1,.var 1 28 [.d 9,.nil,.nil,.nil,.nil,.nil,.d 10,.d 11]),(3,.var 3 28 [.d 8,.own 5 5,.own 4 4,.own 2 2,.nil,.nil,.d 17,.d 18]),(2,.row 2 9 1 15),(4,.row 4 28 8 28),(5,.row 5 42 3 29)],6,6,30,[(13,false),(12,false)]⟩,[⟨false,3,1,42,3⟩]⟩,⟨1,1,⟨[aa 36 13,aa 5 12,al 4 1 1 0,al 2 0 0 0,(0,.p true [.d 0,.d 1,.d 2,.d 3,.d 4,.d 5,.d 6,.d 7]),aa 1 8],[(0,.var 0 28 [.d 0,.d 1,.d 2,.d 3,.d 4,.d 5,.d 6,.d 7]),(1,.var 1 28 [.d 9,.nil,.nil,.nil,.nil,.nil,.d 10,.d 11])],2,2,14,[(12,false)]⟩,[]⟩]
def nB:List (Nat×Nat×Bool×List Nat):=[(14,8,false,[])]
def dk:UP:=.i 1<|.a 9 0<|.jump 0 [0,6,5]
def dq:UP:=.l 10<|.b .lss 3 0<|.ite 0 (.sel [2,3,4,11,12,13]<|.join 6 dk<|.z 2<|.x 3 4 2<|.i 0<|.i 0<|.s #[]<|.i 4<|.e 10 0<|.ite 0 (.c 7<|.c 6<|.c 5<|.po (.mk 42 3 [[7,6,5]])<|.i 0<|.i 0<|.i 0<|.c 17<|.po (.e 28 8)<|.po (.e 9 1)<|.po (.e 9 1)<|.po (.e 9 1)<|.c 5<|.c 4<|.po (.mk 28 8 [[21,7,3,2,1,0,5,4]])<|.po (.app 28 8 144 18 0)<|.jump 1 [10,0,18,17,16,15])<|.c 13<|.c 7<|.c 6<|.c 5<|.sel [0,5,6,7,8,9,11,13]<|.cl 64 [(false,[7]),(false,[6]),(true,[3,2,1])] eO<|.po (.mk 42 3 [[2,1,0]])<|.c 3<|.c 2<|.c 1<|.po (.mk 42 3 [[3,2,1]])<|.po (.flat 0)<|.po (.app 42 3 32 9 0)<|.jump 1 [6,11,0,9,8,7])<|.po (.e 9 1)<|.po (.e 9 1)<|.sel [0,1,4,5,10,11,12,13]<|.cl 24 [(true,[7,2,3,6,1,0,5,4])] aD<|.n 0<|.ite 0 (.i 0<|.i 0<|.i 0<|.f<|.c 3<|.po (.e 42 3)<|.po (.e 28 8)<|.po (.e 9 1)<|.po (.e 9 1)<|.po (.e 9 1)<|.c 7<|.c 6<|.c 5<|.ret [(true,[8,4,3,2,1,0,7,6]),(false,[5])])<|.t<|.c 10<|.po (.e 9 1)<|.po (.e 9 1)<|.c 10<|.c 9<|.c 2<|.ret [(true,[12,7,8,11,1,0,10,9]),(false,[2])]
def dv:UP:=.i 0<|.po (.e 42 3)<|.sel [0,1,2,4,5,6,7,14,15]<|.loop [1,2,0] dq
def dF:UP:=.ite 0 (.i 0<|.i 0<|.i 0<|.f<|.c 3<|.po (.e 42 3)<|.po (.e 28 8)<|.po (.e 9 1)<|.po (.e 9 1)<|.po (.e 9 1)<|.c 7<|.c 6<|.c 5<|.ret [(true,[8,4,3,2,1,0,7,6]),(false,[5])])<|.po (.mk 9 1 [])<|.po (.flat 7)<|.po (.app 9 1 16 0 7)<|.i 0<|.i 0<|.i 0<|.i 0<|.i 0<|.i 0<|.i 4<|.e 18 0<|.sel [0,5,6,8,11,12,13,14,15,16,17,18,19]<|.join 1 dv<|.ite 0 (.sel [10]<|.cl 63 [(false,[0])] [(false,[some (28,8)],true)]<|.jump 0 [0])<|.i 5<|.e 13 0<|.ite 0 (.sel [7,8,9,10,11,12,13,14]<|.cl 28 [(true,[7,6,5,4,3,2,1,0])] cb<|.c 7<|.c 1<|.c 0<|.po (.mk 28 8 [[7,6,5,4,3,2,1,0]])<|.jump 0 [0])<|.po (.e 28 8)<|.jump 0 [0]
def dU:UP:=.i 0<|.i 0<|.i 0<|.f<|.sel [4,5,6,7,8,9,10,11,12]<|.join 1 dF<|.cl 24 [(true,[8,7,6,5,4,3,2,1])] aD<|.n 0<|.ite 0 (.t<|.t<|.t<|.jump 0 [0])<|.i 0<|.i 4<|.sel [0,1,4,12]<|.cl 36 [(false,[2]),(false,[1]),(false,[0])] aD<|.n 0<|.ite 0 (.t<|.t<|.jump 0 [0])<|.b .gtr 5 4<|.ite 0 (.i 5<|.b .neq 7 0<|.ite 0 (.t<|.jump 0 [0])<|.i 5<|.e 9 0<|.ite 0 (.i 4<|.b .neq 10 0<|.jump 0 [0])<|.f<|.jump 0 [0])<|.f<|.i 5<|.e 8 0<|.ite 0 (.i 4<|.b .neq 9 0<|.jump 0 [0])<|.f<|.jump 0 [0]
theorem fY:aR Try.prog 31 Try.f31 cV nb nB=some ([(true,8),(false,1)],dU):=by kernel_rfl
def ne:List aP:=[]
def nF:List (Nat×Nat×Bool×List Nat):=[(7,9,false,[])]
def fZ:UP:=.s #[]<|.i 0<|.i 0<|.s #[]<|.po (.eqS false [.i,.i,.s] [6,5,4] [2,1,0])<|.ite 0 (.s #[78,65]<|.c 0<|.r 0)<|.sel [5,6,7]<|.cl 96 [(true,[2,1,0])] aD<|.n 0<|.ite 0 (.s #[]<|.c 0<|.r 0)<|.i 1<|.e 4 0<|.ite 0 (.sel [6]<|.cl 102 [(false,[0])] aD<|.c 0<|.r 0)<|.c 6<|.sel [5,6]<|.cl 102 [(false,[1])] aD<|.s #[47]<|.a 1 0<|.c 0<|.c 3<|.cl 102 [(false,[3])] aD<|.a 1 0<|.c 0<|.c 0<|.c 0<|.r 0
theorem nh:aR Try.prog 97 Try.f97 cV ne nF=some ([(true,3)],fZ):=by kernel_rfl
def oL:List aP:=[]
def nU:List (Nat×Nat×Bool×List Nat):=[]
def gD:UP:=.i 0<|.i 0<|.s #[]<|.cl 55 [(true,[7,6,5])] aD<|.ite 0 (.t<|.t<|.c 10<|.c 9<|.c 8<|.ret [(true,[10,9,8])])<|.e 5 4<|.ite 0 (.t<|.c 10<|.c 9<|.c 8<|.ret [(true,[10,9,8])])<|.i 2<|.e 6 0<|.ite 0 (.c 11<|.c 10<|.c 9<|.ret [(true,[11,10,9])])<|.i 2<|.e 9 0<|.ite 0 (.sel [11,12,13]<|.cl 97 [(true,[2,1,0])] aD<|.cl 58 [(false,[0])] eO<|.c 2<|.c 1<|.c 0<|.ret [(true,[2,1,0])])<|.i 1<|.e 14 0<|.ite 0 (.s #[84,82,85,69]<|.sel [0]<|.cl 58 [(false,[0])] eO<|.c 2<|.c 1<|.c 0<|.ret [(true,[2,1,0])])<|.s #[70,65,76,83,69]<|.sel [0]<|.cl 58 [(false,[0])] eO<|.c 2<|.c 1<|.c 0<|.ret [(true,[2,1,0])]
theorem oK:aR Try.prog 86 Try.f86 cV oL nU=some ([(true,3),(false,1),(false,1)],gD):=by kernel_rfl
def qJ:List aP:=[]
def qn:List (Nat×Nat×Bool×List Nat):=[]
def jp:UP:=.po (.mk 42 3 [])<|.po (.flat 1)<|.po (.app 42 3 32 0 1)<|.r 0
theorem qg:aR Try.prog 53 Try.f53 cV qJ qn=some ([(false,1)],jp):=by kernel_rfl
def rn:List aP:=[]
def ra:List (Nat×Nat×Bool×List Nat):=[]
def jD:UP:=.po (.mk 9 1 [])<|.po (.flat 1)<|.po (.app 9 1 16 0 1)<|.r 0
theorem qC:aR Try.prog 51 Try.f51 cV rn ra=some ([(false,1)],jD):=by kernel_rfl
def pN:List aP:=[⟨3000003,2,⟨[aa 28 27,aa 27 24,aa 26 2,al 3 6 6 0,al 2 1 1 0,al 1 0 0 0,(0,.p true [.d 0,.d 1,.d 2,.d 3,.d 4,.d 5,.d 6,.d 7])],[(0,.var 0 28 [.d 0,.d 1,.d 2,.d 3,.d 4,.d 5,.d 6,.d 7]),(1,.var 1 28 [.d 8,.nil,.nil,.nil,.nil,.nil,.d 9,.d 10]),(6,.var 6 28 [.d 0,.own 2 2,.own 7 7,.own 3 3,.own 4 4,.own 5 5,.d 6,.d 7]),(5,.row 5 9 1 14),(4,.row 4 9 1 13),(3,.row 3 9 1 12),(7,.row 7 28 8 28),(2,.row 2 42 3 11)],8,8,29,[]⟩,[⟨false,6,2,28,8⟩]⟩]
def pz:List (Nat×Nat×Bool×List Nat):=[(5,5,false,[]),(1,20,false,[])]
def gU:UP:=.b .lss 1 4<|.ite 0 (.z 2<|.x 8 12 2<|.i 0<|.i 0<|.i 0<|.sel [3,4,5,6,7,8,9,10,12,13]<|.cl 18 [(true,[7,6,5,4,3,2,1,0])] cb<|.po (.mk 28 8 [[7,6,5,4,3,2,1,0]])<|.c 8<|.c 2<|.c 1<|.po (.mk 28 8 [[8,7,6,5,4,3,2,1]])<|.po (.app 28 8 144 18 0)<|.i 1<|.a 21 0<|.jump 0 [0,2])<|.c 13<|.c 11<|.c 10<|.ret [(true,[13,9,1,8,7,6,11,10])]
def im:UP:=.i 0<|.i 0<|.i 0<|.c 10<|.cl 53 [(false,[9])] [(false,[some (42,3)],true)]<|.sel [0,4,5,6,7,8,9,11]<|.cl 51 [(false,[5])] tK<|.cl 51 [(false,[5])] tK<|.cl 51 [(false,[5])] tK<|.c 5<|.c 4<|.i 0<|.i 0<|.i 0<|.i 0<|.i 0<|.i 0<|.i 0<|.i 0<|.i 0<|.l 18<|.i 0<|.po (.e 28 8)<|.sel [0,1,2,12,13,14,15,16,17,21,22]<|.loop [1,0] gU
theorem pt:aR Try.prog 18 Try.f18 cV pN pz=some ([(true,8)],im):=by kernel_rfl
def qY:List aP:=[]
def q8:List (Nat×Nat×Bool×List Nat):=[]
def iZ:UP:=.i 0<|.i 0<|.i 0<|.cl 84 [(false,[7])] aD<|.ite 0 (.c 11<|.po (.e 9 1)<|.c 6<|.c 5<|.ret [(true,[12,11,10,0,8,7,6,5])])<|.c 11<|.c 5<|.c 4<|.ret [(true,[11,10,9,8,7,6,5,4])]
theorem qW:nO Try.prog 52 Try.f52 cV qY q8 [(true,[none,some (42,3),some (28,8),some (9,1),some (9,1),some (9,1),none,none],true)]=some iZ:=by kernel_rfl
def pF:List aP:=[]
def pu:List (Nat×Nat×Bool×List Nat):=[]
def ip:UP:=.i 0<|.i 0<|.i 0<|.l 5<|.i 0<|.b .gtr 1 0<|.ite 0 (.sel [8,9,14,15,18,19,20,21]<|.cl 51 [(false,[1])] tK<|.cl 51 [(false,[1])] tK<|.c 9<|.c 5<|.c 4<|.ret [(true,[9,8,7,6,1,0,5,4])])<|.c 21<|.c 15<|.c 14<|.ret [(true,[21,20,19,18,17,16,15,14])]
theorem pw:nO Try.prog 74 Try.f74 cV pF pu [(true,[none,some (42,3),some (28,8),some (9,1),some (9,1),some (9,1),none,none],true),(true,[none,some (42,3),some (28,8),some (9,1),some (9,1),some (9,1),none,none],false)]=some ip:=by kernel_rfl
def nq:List aP:=[]
def nt:List (Nat×Nat×Bool×List Nat):=[(7,9,false,[])]
def fQ:UP:=.s #[]<|.i 0<|.i 0<|.s #[]<|.po (.eqS false [.i,.i,.s] [6,5,4] [2,1,0])<|.ite 0 (.s #[78,65]<|.c 0<|.r 0)<|.sel [5,6,7]<|.cl 98 [(true,[2,1,0])] aD<|.n 0<|.ite 0 (.s #[]<|.c 0<|.r 0)<|.i 1<|.e 4 0<|.ite 0 (.sel [6]<|.cl 99 [(false,[0])] aD<|.c 0<|.r 0)<|.c 6<|.sel [5,6]<|.cl 99 [(false,[1])] aD<|.s #[47]<|.a 1 0<|.c 0<|.c 3<|.cl 99 [(false,[3])] aD<|.a 1 0<|.c 0<|.c 0<|.c 0<|.r 0
theorem nx:aR Try.prog 90 Try.f90 cV nq nt=some ([(true,3)],fQ):=by kernel_rfl
def zI:List aP:=[]
def zw:List (Nat×Nat×Bool×List Nat):=[]
def pU:UP:=.i 0<|.i 0<|.s #[]<|.i 3<|.b .neq 7 0<|.ite 0 (.t<|.t<|.c 9<|.c 8<|.c 7<|.ret [(true,[9,8,7])])<|.i 3<|.e 10 0<|.ite 0 (.t<|.c 10<|.c 9<|.c 8<|.ret [(true,[10,9,8])])<|.i 0<|.i 0<|.s #[]<|.po (.eqS false [.i,.i,.s] [12,11,10] [2,1,0])<|.ite 0 (.c 13<|.c 12<|.c 11<|.ret [(true,[13,12,11])])<|.i 1<|.e 16 0<|.ite 0 (.s #[70,65,76,83,69]<|.s #[84,82,85,69]<|.c 1<|.c 0<|.po (.mk 9 1 [[1],[0]])<|.z 18<|.po (.chk 1 0 18)<|.x 1 0 18<|.sel [0]<|.cl 66 [(false,[0])] eO<|.c 2<|.c 1<|.c 0<|.ret [(true,[2,1,0])])<|.sel [13,14,15]<|.cl 90 [(true,[2,1,0])] aD<|.cl 66 [(false,[0])] eO<|.c 2<|.c 1<|.c 0<|.ret [(true,[2,1,0])]
theorem zr:aR Try.prog 64 Try.f64 cV zI zw=some ([(false,1),(false,1),(true,3)],pU):=by kernel_rfl
def vh:List aP:=[⟨3000002,1,⟨[aa 3 12,al 2 6 6 0,al 1 5 5 0,(0,.p true [.d 0,.own 0 0,.own 1 1,.own 2 2,.own 3 3,.own 4 4,.d 6,.d 7])],[(4,.row 4 9 1 5),(3,.row 3 9 1 4),(2,.row 2 9 1 3),(1,.row 1 28 8 2),(0,.row 0 42 3 1),(5,.var 5 28 [.d 0,.own 0 0,.own 1 1,.own 2 2,.own 3 3,.own 4 4,.d 6,.d 7]),(6,.var 6 28 [.d 8,.nil,.nil,.nil,.nil,.nil,.d 9,.d 10])],7,7,13,[]⟩,[]⟩]
def u9:List (Nat×Nat×Bool×List Nat):=[]
def kK:UP:=.l 9<|.b .lss 1 0<|.ite 0 (.z 2<|.po (.chk 1 11 2)<|.x 1 11 2<|.s #[]<|.b .neq 1 0<|.ite 0 (.c 17<|.c 11<|.c 10<|.ret [(true,[17,16,15,14,13,12,11,10])])<|.i 1<|.a 6 0<|.jump 0 [0])<|.po (.mk 9 1 [])<|.c 15<|.c 9<|.c 8<|.ret [(true,[15,14,13,0,11,10,9,8])]
def lS:UP:=.i 0<|.i 0<|.i 0<|.i 0<|.loop [0] kK
theorem vd:nO Try.prog 34 Try.f34 cV vh u9 [(true,[none,some (42,3),some (28,8),some (9,1),some (9,1),some (9,1),none,none],true)]=some lS:=by kernel_rfl
def tP:List aP:=[⟨2000001,2,⟨[bi 3 0 0,aa 21 9,aa 13 8,aa 4 3,(2,.p false [.nil]),aa 0 0],[(0,.row 0 28 8 10)],1,1,11,[(8,true),(6,true)]⟩,[]⟩,⟨3000003,2,⟨[aa 4 3,bi 3 0 0,(2,.p false [.nil]),aa 0 0],[(0,.row 0 28 8 4)],1,1,5,[]⟩,[]⟩]
def tw:List (Nat×Nat×Bool×List Nat):=[]
def jP:UP:=.i 1<|.a 4 0<|.jump 0 [0,2]
def jb:UP:=.l 4<|.b .lss 2 0<|.ite 0 (.i 40<|.b .leq 4 0<|.ite 0 (.sel [4,5,8]<|.join 2 jP<|.z 1<|.x 8 2 1<|.i 3<|.cl 61 [(true,[8,7,6,5,4,3,2,1]),(false,[0])] aD<|.n 0<|.ite 0 (.i 0<|.i 0<|.i 0<|.i (-1)<|.c 0<|.po (.e 42 3)<|.po (.e 28 8)<|.po (.e 9 1)<|.po (.e 9 1)<|.po (.e 9 1)<|.c 7<|.c 6<|.po (.mk 28 8 [[5,4,3,2,1,0,7,6]])<|.po (.app 28 8 144 21 0)<|.jump 1 [11,0])<|.z 12<|.x 8 13 12<|.sel [0,1,2,3,4,5,6,7,8,19]<|.cl 28 [(true,[7,6,5,4,3,2,1,0])] cb<|.c 7<|.c 1<|.c 0<|.po (.mk 28 8 [[7,6,5,4,3,2,1,0]])<|.po (.app 28 8 144 18 0)<|.jump 1 [18,0])<|.r 4)<|.f<|.r 3
def km:UP:=.po (.mk 28 8 [])<|.i 0<|.loop [0,1] jb
theorem s9:aR Try.prog 63 Try.f63 cV tP tw=some ([(false,1)],km):=by kernel_rfl
def vL:List aP:=[]
def wH:List (Nat×Nat×Bool×List Nat):=[(1,26,false,[])]
def mM:UP:=.i 0<|.i 0<|.i 0<|.c 10<|.po (.emp 9)<|.ite 0 (.sel [4,5,6,7,8,9,11]<|.cl 63 [(false,[5])] [(false,[some (28,8)],true)]<|.po (.emp 5)<|.ite 0 (.po (.emp 5)<|.ite 0 (.po (.emp 5)<|.ite 0 (.c 5<|.c 4<|.i 0<|.i 0<|.i 0<|.i 0<|.i 0<|.i 0<|.po (.mk 42 3 [])<|.po (.mk 9 1 [])<|.po (.mk 9 1 [])<|.po (.mk 9 1 [])<|.c 20<|.c 15<|.c 14<|.ret [(true,[20,3,13,2,1,0,15,14])])<|.po (.e 9 1)<|.po (.flat 7)<|.po (.app 9 1 16 0 7)<|.c 7<|.c 6<|.i 0<|.i 0<|.i 0<|.i 0<|.i 0<|.i 0<|.po (.mk 42 3 [])<|.po (.mk 9 1 [])<|.po (.mk 9 1 [])<|.po (.mk 9 1 [])<|.c 22<|.c 17<|.c 16<|.ret [(true,[22,3,15,2,1,10,17,16])])<|.po (.e 9 1)<|.po (.flat 7)<|.po (.app 9 1 16 0 7)<|.po (.emp 7)<|.ite 0 (.c 7<|.c 6<|.i 0<|.i 0<|.i 0<|.i 0<|.i 0<|.i 0<|.po (.mk 42 3 [])<|.po (.mk 9 1 [])<|.po (.mk 9 1 [])<|.po (.mk 9 1 [])<|.c 22<|.c 17<|.c 16<|.ret [(true,[22,3,15,2,11,0,17,16])])<|.po (.e 9 1)<|.po (.flat 9)<|.po (.app 9 1 16 0 9)<|.c 9<|.c 8<|.i 0<|.i 0<|.i 0<|.i 0<|.i 0<|.i 0<|.po (.mk 42 3 [])<|.po (.mk 9 1 [])<|.po (.mk 9 1 [])<|.po (.mk 9 1 [])<|.c 24<|.c 19<|.c 18<|.ret [(true,[24,3,17,2,13,10,19,18])])<|.po (.e 9 1)<|.po (.flat 7)<|.po (.app 9 1 16 0 7)<|.po (.emp 7)<|.ite 0 (.po (.emp 7)<|.ite 0 (.c 7<|.c 6<|.i 0<|.i 0<|.i 0<|.i 0<|.i 0<|.i 0<|.po (.mk 42 3 [])<|.po (.mk 9 1 [])<|.po (.mk 9 1 [])<|.po (.mk 9 1 [])<|.c 22<|.c 17<|.c 16<|.ret [(true,[22,3,15,12,1,0,17,16])])<|.po (.e 9 1)<|.po (.flat 9)<|.po (.app 9 1 16 0 9)<|.c 9<|.c 8<|.i 0<|.i 0<|.i 0<|.i 0<|.i 0<|.i 0<|.po (.mk 42 3 [])<|.po (.mk 9 1 [])<|.po (.mk 9 1 [])<|.po (.mk 9 1 [])<|.c 24<|.c 19<|.c 18<|.ret [(true,[24,3,17,14,1,10,19,18])])<|.po (.e 9 1)<|.po (.flat 9)<|.po (.app 9 1 16 0 9)<|.po (.emp 9)<|.ite 0 (.c 9<|.c 8<|.i 0<|.i 0<|.i 0<|.i 0<|.i 0<|.i 0<|.po (.mk 42 3 [])<|.po (.mk 9 1 [])<|.po (.mk 9 1 [])<|.po (.mk 9 1 [])<|.c 24<|.c 19<|.c 18<|.ret [(true,[24,3,17,14,11,0,19,18])])<|.po (.e 9 1)<|.po (.flat 11)<|.po (.app 9 1 16 0 11)<|.c 11<|.c 10<|.i 0<|.i 0<|.i 0<|.i 0<|.i 0<|.i 0<|.po (.mk 42 3 [])<|.po (.mk 9 1 [])<|.po (.mk 9 1 [])<|.po (.mk 9 1 [])<|.c 26<|.c 21<|.c 20<|.ret [(true,[26,3,19,16,13,10,21,20])])<|.po (.e 42 3)<|.po (.flat 11)<|.po (.app 42 3 32 0 11)<|.sel [0,6,7,8,9,10,11,13]<|.cl 63 [(false,[6])] [(false,[some (28,8)],true)]<|.po (.emp 6)<|.ite 0 (.po (.emp 6)<|.ite 0 (.po (.emp 6)<|.ite 0 (.c 6<|.c 5<|.i 0<|.i 0<|.i 0<|.i 0<|.i 0<|.i 0<|.po (.mk 42 3 [])<|.po (.mk 9 1 [])<|.po (.mk 9 1 [])<|.po (.mk 9 1 [])<|.c 21<|.c 16<|.c 15<|.ret [(true,[21,14,13,2,1,0,16,15])])<|.po (.e 9 1)<|.po (.flat 8)<|.po (.app 9 1 16 0 8)<|.c 8<|.c 7<|.i 0<|.i 0<|.i 0<|.i 0<|.i 0<|.i 0<|.po (.mk 42 3 [])<|.po (.mk 9 1 [])<|.po (.mk 9 1 [])<|.po (.mk 9 1 [])<|.c 23<|.c 18<|.c 17<|.ret [(true,[23,16,15,2,1,10,18,17])])<|.po (.e 9 1)<|.po (.flat 8)<|.po (.app 9 1 16 0 8)<|.po (.emp 8)<|.ite 0 (.c 8<|.c 7<|.i 0<|.i 0<|.i 0<|.i 0<|.i 0<|.i 0<|.po (.mk 42 3 [])<|.po (.mk 9 1 [])<|.po (.mk 9 1 [])<|.po (.mk 9 1 [])<|.c 23<|.c 18<|.c 17<|.ret [(true,[23,16,15,2,11,0,18,17])])<|.po (.e 9 1)<|.po (.flat 10)<|.po (.app 9 1 16 0 10)<|.c 10<|.c 9<|.i 0<|.i 0<|.i 0<|.i 0<|.i 0<|.i 0<|.po (.mk 42 3 [])<|.po (.mk 9 1 [])<|.po (.mk 9 1 [])<|.po (.mk 9 1 [])<|.c 25<|.c 20<|.c 19<|.ret [(true,[25,18,17,2,13,10,20,19])])<|.po (.e 9 1)<|.po (.flat 8)<|.po (.app 9 1 16 0 8)<|.po (.emp 8)<|.ite 0 (.po (.emp 8)<|.ite 0 (.c 8<|.c 7<|.i 0<|.i 0<|.i 0<|.i 0<|.i 0<|.i 0<|.po (.mk 42 3 [])<|.po (.mk 9 1 [])<|.po (.mk 9 1 [])<|.po (.mk 9 1 [])<|.c 23<|.c 18<|.c 17<|.ret [(true,[23,16,15,12,1,0,18,17])])<|.po (.e 9 1)<|.po (.flat 10)<|.po (.app 9 1 16 0 10)<|.c 10<|.c 9<|.i 0<|.i 0<|.i 0<|.i 0<|.i 0<|.i 0<|.po (.mk 42 3 [])<|.po (.mk 9 1 [])<|.po (.mk 9 1 [])<|.po (.mk 9 1 [])<|.c 25<|.c 20<|.c 19<|.ret [(true,[25,18,17,14,1,10,20,19])])<|.po (.e 9 1)<|.po (.flat 10)<|.po (.app 9 1 16 0 10)<|.po (.emp 10)<|.ite 0 (.c 10<|.c 9<|.i 0<|.i 0<|.i 0<|.i 0<|.i 0<|.i 0<|.po (.mk 42 3 [])<|.po (.mk 9 1 [])<|.po (.mk 9 1 [])<|.po (.mk 9 1 [])<|.c 25<|.c 20<|.c 19<|.ret [(true,[25,18,17,14,11,0,20,19])])<|.po (.e 9 1)<|.po (.flat 12)<|.po (.app 9 1 16 0 12)<|.c 12<|.c 11<|.i 0<|.i 0<|.i 0<|.i 0<|.i 0<|.i 0<|.po (.mk 42 3 [])<|.po (.mk 9 1 [])<|.po (.mk 9 1 [])<|.po (.mk 9 1 [])<|.c 27<|.c 22<|.c 21<|.ret [(true,[27,20,19,16,13,10,22,21])]
theorem vB:aR Try.prog 28 Try.f28 cV vL wH=some ([(true,8)],mM):=by kernel_rfl
def tl:List aP:=[]
def tY:List (Nat×Nat×Bool×List Nat):=[]
def kb:UP:=.f<|.i 3<|.cl 61 [(true,[9,8,7,6,5,4,3,2]),(false,[0])] aD<|.ite 0 (.cl 62 [(true,[10,9,8,7,6,5,4,3])] aD<|.i 200<|.b .leq 1 0<|.c 0<|.r 0)<|.f<|.c 0<|.r 0
theorem rI:aR Try.prog 24 Try.f24 cV tl tY=some ([(true,8)],kb):=by kernel_rfl
def ud:List aP:=[⟨3000003,2,⟨[aa 4 11,aa 3 12,aa 2 8,al 1 0 0 0,(0,.p true [.d 0,.d 1,.d 2,.d 3,.d 4,.d 5,.d 6,.d 7])],[(0,.var 0 28 [.d 0,.d 1,.d 2,.d 3,.d 4,.d 5,.d 6,.d 7])],1,1,13,[]⟩,[]⟩]
def va:List (Nat×Nat×Bool×List Nat):=[]
def kl:UP:=.l 4<|.b .lss 2 0<|.ite 0 (.z 3<|.x 8 6 3<|.sel [0,1,2,3,4,5,6,7,10,11]<|.cl 62 [(true,[7,6,5,4,3,2,1,0])] aD<|.a 9 0<|.i 1<|.a 12 0<|.jump 0 [0,2])<|.c 2<|.r 2
def lV:UP:=.i 0<|.cl 26 [(true,[8,7,6,5,4,3,2,1])] aD<|.i 0<|.sel [0,1,8]<|.loop [0,1] kl
theorem uz:aR Try.prog 62 Try.f62 cV ud va=some ([(true,8)],lV):=by kernel_rfl
def zB:List aP:=[⟨3000019,1,⟨[aa 8 23,aa 132 21,aa 6 19,aa 127 17,aa 110 16,aa 87 14,aa 84 12,aa 49 11,aa 5 10,aa 4 9,al 2 0 0 0,(0,.p true [.d 0,.d 1,.d 2,.d 3,.d 4,.d 5,.d 6,.d 7]),aa 1 8],[(0,.var 0 28 [.d 0,.d 1,.d 2,.d 3,.d 4,.d 5,.d 6,.d 7])],1,1,24,[(21,false),(17,false),(16,false),(14,false),(12,false),(11,false),(9,false)]⟩,[]⟩,⟨2000001,4,⟨[aa 169 22,al 7 1 1 0,aa 132 21,aa 6 19,aa 127 17,aa 110 16,aa 87 14,aa 84 12,aa 49 11,aa 5 10,aa 4 9,al 2 0 0 0,(0,.p true [.d 0,.d 1,.d 2,.d 3,.d 4,.d 5,.d 6,.d 7]),aa 1 8],[(0,.var 0 28 [.d 0,.d 1,.d 2,.d 3,.d 4,.d 5,.d 6,.d 7]),(1,.var 1 42 [.d 23,.d 24,.d 25])],2,2,26,[(21,true),(17,false),(16,false),(14,false),(12,false),(11,false),(9,false)]⟩,[]⟩,⟨3000013,1,⟨[aa 6 19,aa 127 17,aa 110 16,aa 87 14,aa 84 12,aa 49 11,aa 5 10,aa 4 9,al 2 0 0 0,(0,.p true [.d 0,.d 1,.d 2,.d 3,.d 4,.d 5,.d 6,.d 7]),aa 1 8],[(0,.var 0 28 [.d 0,.d 1,.d 2,.d 3,.d 4,.d 5,.d 6,.d 7])],1,1,20,[(17,false),(16,false),(14,false),(12,false),(11,false),(9,false)]⟩,[]⟩,⟨10,1,⟨[aa 127 17,aa 110 16,aa 87 14,aa 84 12,aa 49 11,aa 5 10,aa 4 9,al 2 0 0 0,(0,.p true [.d 0,.d 1,.d 2,.d 3,.d 4,.d 5,.d 6,.d 7]),aa 1 8],[(0,.var 0 28 [.d 0,.d 1,.d 2,.d 3,.d 4,.d 5,.d 6,.d 7])],1,1,18,[(16,false),(14,false),(12,false),(11,false),(9,false)]⟩,[]⟩,⟨4,1,⟨[aa 84 12,aa 49 11,aa 5 10,aa 4 9,al 2 0 0 0,(0,.p true [.d 0,.d 1,.d 2,.d 3,.d 4,.d 5,.d 6,.d 7]),aa 1 8],[(0,.var 0 28 [.d 0,.d 1,.d 2,.d 3,.d 4,.d 5,.d 6,.d 7])],1,1,13,[(11,false),(9,false)]⟩,[]⟩,⟨2,1,⟨[aa 49 11,aa 5 10,aa 4 9,al 2 0 0 0,(0,.p true [.d 0,.d 1,.d 2,.d 3,.d 4,.d 5,.d 6,.d 7]),aa 1 8],[(0,.var 0 28 [.d 0,.d 1,.d 2,.d 3,.d 4,.d 5,.d 6,.d 7])],1,1,12,[(9,false)]⟩,[]⟩]
def zJ:List (Nat×Nat×Bool×List Nat):=[]
def n8:UP:=.i 1<|.a 5 0<|.jump 0 [0]
def nY:UP:=.l 3<|.b .lss 1 0<|.ite 0 (.i 0<|.e 5 0<|.ite 0 (.t<|.f<|.c 0<|.r 0)<|.z 4<|.x 8 7 4<|.i 1<|.b .sub 15 0<|.sel [0,2,3,4,5,6,7,8,9,14]<|.cl 61 [(true,[8,7,6,5,4,3,2,1]),(false,[0])] aD<|.n 0<|.ite 0 (.f<|.c 0<|.r 0)<|.i 1<|.a 12 0<|.jump 1 [0])<|.t<|.c 0<|.r 0
def nH:UP:=.l 6<|.b .lss 1 0<|.ite 0 (.sel [2,6,8,9]<|.join 4 n8<|.z 0<|.x 3 2 0<|.i 0<|.i 0<|.s #[]<|.sel [3,4,5,7,9]<|.cl 89 [(false,[4]),(true,[2,1,0])] aD<|.n 0<|.ite 0 (.t<|.f<|.c 0<|.r 0)<|.l 5<|.i 0<|.b .gtr 1 0<|.ite 0 (.i 0<|.b .neq 7 0<|.ite 0 (.i 1<|.b .neq 9 0<|.ite 0 (.t<|.f<|.c 0<|.r 0)<|.l 12<|.i 1<|.sel [0,1,11,12,13]<|.cl 36 [(false,[4]),(false,[0]),(false,[1])] aD<|.n 0<|.ite 0 (.f<|.c 0<|.r 0)<|.jump 1 [0,6,5,4])<|.f<|.jump 1 [0,10,9,8])<|.f<|.f<|.jump 1 [0,9,8,7])<|.i 0<|.sel [0,6,8]<|.loop [0] nY
def nT:UP:=.ite 0 (.f<|.c 0<|.r 0)<|.i 0<|.loop [0] nH
def oS:UP:=.ite 0 (.f<|.c 0<|.r 0)<|.i 5<|.e 13 0<|.ite 0 (.l 13<|.i 0<|.e 1 0<|.ite 0 (.l 14<|.i 0<|.e 1 0<|.ite 0 (.i (-999)<|.i 99999<|.sel [0,1,15,16]<|.cl 36 [(false,[3]),(false,[1]),(false,[0])] aD<|.ite 0 (.i 0<|.i 99999<|.sel [0,1,5]<|.cl 36 [(false,[2]),(false,[1]),(false,[0])] aD<|.c 0<|.r 0)<|.f<|.c 0<|.r 0)<|.f<|.f<|.c 0<|.r 0)<|.f<|.f<|.f<|.c 0<|.r 0)<|.i 0<|.e 15 0<|.ite 0 (.i 0<|.e 7 0<|.ite 0 (.l 14<|.i 0<|.e 1 0<|.c 0<|.r 0)<|.f<|.c 0<|.r 0)<|.sel [8,11,14,15,16]<|.join 1 nT<|.i 4<|.e 5 0<|.ite 0 (.l 5<|.i 0<|.b .gtr 1 0<|.jump 0 [0])<|.f<|.jump 0 [0]
def oG:UP:=.ite 0 (.f<|.c 0<|.r 0)<|.join 1 oS<|.i 5<|.b .neq 12 0<|.ite 0 (.i 0<|.b .neq 8 0<|.ite 0 (.t<|.t<|.t<|.jump 0 [0])<|.i 0<|.b .neq 9 0<|.ite 0 (.t<|.t<|.jump 0 [0])<|.i 2<|.b .neq 18 0<|.ite 0 (.l 14<|.i 0<|.b .gtr 1 0<|.ite 0 (.t<|.jump 0 [0])<|.i 4<|.b .neq 23 0<|.ite 0 (.l 22<|.i 0<|.b .gtr 1 0<|.jump 0 [0])<|.f<|.jump 0 [0])<|.f<|.i 4<|.b .neq 21 0<|.ite 0 (.l 20<|.i 0<|.b .gtr 1 0<|.jump 0 [0])<|.f<|.jump 0 [0])<|.f<|.i 2<|.b .neq 15 0<|.ite 0 (.l 11<|.i 0<|.b .gtr 1 0<|.ite 0 (.t<|.jump 0 [0])<|.i 4<|.b .neq 20 0<|.ite 0 (.l 19<|.i 0<|.b .gtr 1 0<|.jump 0 [0])<|.f<|.jump 0 [0])<|.f<|.i 4<|.b .neq 18 0<|.ite 0 (.l 17<|.i 0<|.b .gtr 1 0<|.jump 0 [0])<|.f<|.jump 0 [0]
def qc:UP:=.f<|.cl 26 [(true,[9,8,7,6,5,4,3,2])] aD<|.join 1 oG<|.i 0<|.i 5<|.sel [0,1,2,7,8,9,12]<|.cl 36 [(false,[6]),(false,[1]),(false,[0])] aD<|.n 0<|.ite 0 (.t<|.t<|.t<|.t<|.t<|.jump 0 [0])<|.i 40<|.b .gtr 5 0<|.ite 0 (.t<|.t<|.t<|.t<|.jump 0 [0])<|.l 9<|.i 0<|.b .neq 1 0<|.ite 0 (.l 12<|.b .neq 0 10<|.ite 0 (.t<|.t<|.t<|.jump 0 [0])<|.sel [12,13,14]<|.cl 87 [(false,[2])] aD<|.n 0<|.ite 0 (.t<|.t<|.jump 0 [0])<|.i 3<|.cl 88 [(false,[4]),(false,[0])] aD<|.n 0<|.ite 0 (.t<|.jump 0 [0])<|.i 20<|.sel [0,6]<|.cl 88 [(false,[1]),(false,[0])] aD<|.n 0<|.jump 0 [0])<|.f<|.sel [11,12,13]<|.cl 87 [(false,[2])] aD<|.n 0<|.ite 0 (.t<|.t<|.jump 0 [0])<|.i 3<|.cl 88 [(false,[4]),(false,[0])] aD<|.n 0<|.ite 0 (.t<|.jump 0 [0])<|.i 20<|.sel [0,6]<|.cl 88 [(false,[1]),(false,[0])] aD<|.n 0<|.jump 0 [0]
theorem zq:aR Try.prog 61 Try.f61 cV zB zJ=some ([(true,8),(false,1)],qc):=by kernel_rfl
def xd:List aP:=[]
def yK:List (Nat×Nat×Bool×List Nat):=[]
def nJ:UP:=.i 0<|.i 5<|.e 9 0<|.ite 0 (.i 1<|.c 0<|.r 0)<|.l 9<|.l 9<|.a 1 0<|.c 0<|.r 0
theorem xS:aR Try.prog 26 Try.f26 cV xd yK=some ([(true,8)],nJ):=by kernel_rfl
def tX:List aP:=[⟨3000002,1,⟨[aa 7 4,aa 6 2,aa 5 0,aa 2 1,aa 0 0],[],0,0,5,[(1,false)]⟩,[]⟩]
def rO:List (Nat×Nat×Bool×List Nat):=[]
def jf:UP:=.b .lss 0 2<|.ite 0 (.z 1<|.x 1 5 1<|.s #[]<|.b .neq 1 0<|.ite 0 (.f<|.c 0<|.r 0)<|.i 1<|.a 5 0<|.jump 0 [0])<|.t<|.c 0<|.r 0
def kD:UP:=.f<|.l 1<|.i 0<|.loop [0] jf
theorem sQ:aR Try.prog 84 Try.f84 cV tX rO=some ([(false,1)],kD):=by kernel_rfl
def qH:List aP:=[]
def qD:List (Nat×Nat×Bool×List Nat):=[]
def jh:UP:=.f<|.i 0<|.i 0<|.s #[]<|.po (.eqS false [.i,.i,.s] [6,5,4] [2,1,0])<|.c 0<|.r 0
theorem qA:aR Try.prog 55 Try.f55 cV qH qD=some ([(true,3)],jh):=by kernel_rfl
def qx:List aP:=[]
def rk:List (Nat×Nat×Bool×List Nat):=[]
def jr:UP:=.f<|.cl 55 [(true,[3,2,1])] aD<|.ite 0 (.t<|.c 0<|.r 0)<|.i 1<|.e 6 0<|.ite 0 (.s #[]<|.e 5 0<|.ite 0 (.i 1<|.e 8 0<|.ite 0 (.i 0<|.e 11 0<|.ite 0 (.t<|.c 0<|.r 0)<|.i 1<|.e 13 0<|.c 0<|.r 0)<|.f<|.c 0<|.r 0)<|.f<|.f<|.c 0<|.r 0)<|.i 2<|.e 8 0<|.ite 0 (.sel [6,7,8]<|.cl 96 [(true,[2,1,0])] aD<|.c 0<|.r 0)<|.i 3<|.e 10 0<|.ite 0 (.i 0<|.e 11 0<|.ite 0 (.i 1<|.e 12 0<|.ite 0 (.m 12<|.i 60<|.b .leq 1 0<|.c 0<|.r 0)<|.f<|.c 0<|.r 0)<|.f<|.f<|.c 0<|.r 0)<|.f<|.c 0<|.r 0
theorem qP:aR Try.prog 101 Try.f101 cV qx rk=some ([(false,1),(true,3)],jr):=by kernel_rfl
def ot:List aP:=[⟨3000004,1,⟨[aa 13 7,aa 12 5,aa 11 0,aa 10 4,aa 4 2,aa 0 0,aa 1 1],[],0,0,8,[(4,false),(2,false)]⟩,[]⟩]
def oR:List (Nat×Nat×Bool×List Nat):=[]
def fR:UP:=.b .lss 0 2<|.ite 0 (.z 1<|.x 1 4 1<|.s #[]<|.e 1 0<|.ite 0 (.t<|.t<|.f<|.c 0<|.r 0)<|.m 2<|.i 60<|.b .gtr 1 0<|.ite 0 (.t<|.f<|.c 0<|.r 0)<|.po (.cutL 1 10 none (some 7))<|.sel [0,6,8]<|.cl 103 [(false,[0]),(false,[1])] aD<|.ite 0 (.f<|.c 0<|.r 0)<|.i 1<|.a 4 0<|.jump 0 [0])<|.t<|.c 0<|.r 0
def gT:UP:=.f<|.l 2<|.b .gtr 0 2<|.ite 0 (.f<|.c 0<|.r 0)<|.l 4<|.i 0<|.sel [0,1,6]<|.loop [0] fR
theorem oC:aR Try.prog 100 Try.f100 cV ot oR=some ([(false,1),(false,1)],gT):=by kernel_rfl
def wE:List aP:=[]
def vK:List (Nat×Nat×Bool×List Nat):=[]
def mZ:UP:=.f<|.i 0<|.i 0<|.s #[]<|.po (.eqS false [.i,.i,.s] [6,5,4] [2,1,0])<|.ite 0 (.t<|.c 0<|.r 0)<|.i 1<|.e 9 0<|.ite 0 (.i 1<|.e 9 0<|.ite 0 (.i 0<|.i 1<|.sel [0,1,11,13]<|.cl 36 [(false,[3]),(false,[1]),(false,[0])] aD<|.ite 0 (.s #[]<|.e 4 0<|.c 0<|.r 0)<|.f<|.c 0<|.r 0)<|.f<|.f<|.c 0<|.r 0)<|.i 2<|.e 11 0<|.ite 0 (.sel [9,10,11]<|.cl 98 [(true,[2,1,0])] aD<|.c 0<|.r 0)<|.i 3<|.e 13 0<|.ite 0 (.i 0<|.e 14 0<|.ite 0 (.i 1<|.e 15 0<|.ite 0 (.m 15<|.i 60<|.b .leq 1 0<|.c 0<|.r 0)<|.f<|.c 0<|.r 0)<|.f<|.f<|.c 0<|.r 0)<|.f<|.f<|.f<|.c 0<|.r 0
theorem vJ:aR Try.prog 89 Try.f89 cV wE vK=some ([(false,1),(true,3)],mZ):=by kernel_rfl
def rS:List aP:=[⟨3000002,1,⟨[aa 5 4,aa 4 2,aa 0 0,aa 1 1],[],0,0,5,[(2,false)]⟩,[]⟩]
def tC:List (Nat×Nat×Bool×List Nat):=[]
def jl:UP:=.l 4<|.b .lss 1 0<|.ite 0 (.b .leq 2 5<|.ite 0 (.z 3<|.x 1 7 3<|.s #[]<|.e 1 0<|.ite 0 (.t<|.t<|.f<|.c 0<|.r 0)<|.z 6<|.x 1 10 6<|.m 0<|.i 60<|.b .gtr 1 0<|.ite 0 (.t<|.f<|.c 0<|.r 0)<|.z 10<|.x 1 14 10<|.sel [0,11,15]<|.cl 38 [(false,[2]),(false,[0])] aD<|.b .lss 0 2<|.ite 0 (.f<|.c 0<|.r 0)<|.i 1<|.a 4 0<|.jump 0 [0])<|.l 7<|.b .leq 0 7<|.c 0<|.r 0)<|.f<|.l 7<|.b .leq 0 7<|.c 0<|.r 0
def kv:UP:=.f<|.i 0<|.loop [0] jl
theorem sm:aR Try.prog 88 Try.f88 cV rS tC=some ([(false,1),(false,1)],kv):=by kernel_rfl
def uZ:List aP:=[⟨2000001,2,⟨[aa 3 10,aa 19 11,aa 11 9,aa 4 6,aa 2 1,aa 0 0],[],0,0,12,[(9,true),(1,false)]⟩,[]⟩,⟨3000003,2,⟨[aa 4 6,aa 3 7,aa 2 1,aa 0 0],[],0,0,8,[(1,false)]⟩,[]⟩]
def t9:List (Nat×Nat×Bool×List Nat):=[]
def fi:UP:=.i 1<|.a 4 0<|.jump 0 [0,3]
def ko:UP:=.l 7<|.b .lss 2 0<|.ite 0 (.sel [2,3,9]<|.join 2 fi<|.z 1<|.x 1 2 1<|.m 0<|.i 60<|.b .gtr 1 0<|.ite 0 (.f<|.c 0<|.r 0)<|.ite 4 (.t<|.jump 1 [0,1])<|.z 5<|.x 1 6 5<|.s #[]<|.b .neq 1 0<|.jump 1 [0,3])<|.c 2<|.r 2
def lN:UP:=.f<|.l 1<|.i 0<|.e 1 0<|.i 0<|.loop [0,1] ko
theorem uc:aR Try.prog 87 Try.f87 cV uZ t9=some ([(false,1)],lN):=by kernel_rfl
def nj:List aP:=[⟨3000003,2,⟨[aa 4 13,al 3 1 1 0,al 2 0 0 0,aa 0 0],[(0,.var 0 28 [.d 1,.nil,.nil,.nil,.nil,.nil,.d 2,.d 3]),(1,.var 1 28 [.d 7,.own 2 2,.nil,.nil,.nil,.nil,.d 5,.d 6]),(2,.row 2 42 3 14)],3,3,15,[]⟩,[⟨false,1,1,42,3⟩]⟩]
def nE:List (Nat×Nat×Bool×List Nat):=[(5,8,false,[])]
def fl:UP:=.l 7<|.b .lss 2 0<|.ite 0 (.l 9<|.i 40<|.b .leq 1 0<|.ite 0 (.z 6<|.x 1 12 6<|.c 0<|.i 1<|.sel [0,1,7,8]<|.cl 43 [(false,[1]),(false,[0])] eO<|.po (.mk 42 3 [[2,1,0]])<|.c 3<|.c 2<|.c 1<|.po (.mk 42 3 [[3,2,1]])<|.po (.flat 0)<|.po (.app 42 3 32 7 0)<|.i 1<|.a 10 0<|.jump 0 [0,2])<|.l 12<|.i 40<|.b .gtr 1 0<|.ite 0 (.i 0<|.i 0<|.i 0<|.c 2<|.po (.e 42 3)<|.po (.e 28 8)<|.po (.e 9 1)<|.po (.e 9 1)<|.po (.e 9 1)<|.c 6<|.c 5<|.ret [(true,[7,4,3,2,1,0,6,5])])<|.c 12<|.po (.e 28 8)<|.po (.e 9 1)<|.po (.e 9 1)<|.po (.e 9 1)<|.c 18<|.c 17<|.ret [(true,[16,12,3,2,1,0,18,17])])<|.f<|.l 10<|.i 40<|.b .gtr 1 0<|.ite 0 (.i 0<|.i 0<|.i 0<|.c 2<|.po (.e 42 3)<|.po (.e 28 8)<|.po (.e 9 1)<|.po (.e 9 1)<|.po (.e 9 1)<|.c 6<|.c 5<|.ret [(true,[7,4,3,2,1,0,6,5])])<|.c 10<|.po (.e 28 8)<|.po (.e 9 1)<|.po (.e 9 1)<|.po (.e 9 1)<|.c 16<|.c 15<|.ret [(true,[14,10,3,2,1,0,16,15])]
def fP:UP:=.i 0<|.i 0<|.i 0<|.i 0<|.i 0<|.i 0<|.i 2<|.i 0<|.i 0<|.i 0<|.i 0<|.po (.e 42 3)<|.sel [0,1,5,6,7,12]<|.loop [1,0] fl
theorem nk:aR Try.prog 13 Try.f13 cV nj nE=some ([(false,1)],fP):=by kernel_rfl
def uG:List aP:=[]
def uq:List (Nat×Nat×Bool×List Nat):=[]
def lF:UP:=.f<|.cl 56 [(false,[2]),(false,[1])] aD<|.i 0<|.b .geq 1 0<|.c 0<|.r 0
theorem u7:aR Try.prog 103 Try.f103 cV uG uq=some ([(false,1),(false,1)],lF):=by kernel_rfl
def q7:List aP:=[⟨3000002,1,⟨[aa 9 5,aa 8 3,aa 7 0,aa 4 2,aa 0 0,aa 1 1],[],0,0,6,[]⟩,[]⟩]
def qk:List (Nat×Nat×Bool×List Nat):=[]
def iE:UP:=.b .lss 0 2<|.ite 0 (.z 1<|.x 1 6 1<|.e 0 6<|.ite 0 (.c 3<|.r 3)<|.i 1<|.a 4 0<|.jump 0 [0])<|.i (-1)<|.c 0<|.r 0
def jE:UP:=.i 0<|.l 2<|.i 0<|.loop [0] iE
theorem rb:aR Try.prog 56 Try.f56 cV q7 qk=some ([(false,1),(false,1)],jE):=by kernel_rfl
def wC:List aP:=[⟨3000002,1,⟨[aa 5 4,aa 4 2,aa 0 0,aa 1 1],[],0,0,5,[]⟩,[]⟩]
def vO:List (Nat×Nat×Bool×List Nat):=[]
def lr:UP:=.l 4<|.b .lss 1 0<|.ite 0 (.z 2<|.x 1 6 2<|.e 0 6<|.ite 0 (.c 4<|.r 4)<|.i 1<|.a 5 0<|.jump 0 [0])<|.i (-1)<|.c 0<|.r 0
def mR:UP:=.i 0<|.i 0<|.loop [0] lr
theorem vS:aR Try.prog 38 Try.f38 cV wC vO=some ([(false,1),(false,1)],mR):=by kernel_rfl
section
variable {P:Program}{R:List (Bool×List DV)->Prop}{k:UP}{L:Lbl}{ρ:List DV}
theorem ac{n:Nat}{rest:UP}(hk:V P R k (L++[λvs=>V P R rest L (jZ vs ρ)]) ρ):V P R (.join n rest k) L ρ:=⟨λvs=>V P R rest L (jZ vs ρ),λvs _ h=>h,hk⟩
end
theorem bo{b c:Bool}(h:b=c):mW [(false,[.sc (.bool b)],true)] [(false,[.sc (.bool c)])]:=by subst h;rfl
theorem Lg{k:IntKind}{b c:Int}(h:b=c):mW [(false,[.sc (.int k b)],true)] [(false,[.sc (.int k c)])]:=by subst h;rfl
theorem Fs{b c:ByteArray}(h:b=c):mW [(false,[.sc (.string b)],true)] [(false,[.sc (.string c)])]:=by subst h;rfl
def bP(p:Nat->Bool)(n:Nat):Bool:=(List.range n).all p
theorem zT(p:Nat->Bool):bP p 0=true:=rfl
theorem iW(p:Nat->Bool)(n:Nat):bP p (n+1)=(bP p n&&p n):=by simp[bP,List.range_succ]
theorem aV{p:Nat->Bool}{n:Nat}:bP p n=true↔∀i,i<n->p i=true:=by simp[bP]
theorem df{p:Nat->Bool}{n i:Nat}(h:i<n)(hp:p i=false):bP p n=false:=by
 cases hb:bP p n
 ·rfl
 ·rw[aV.1 hb i h]at hp;cases hp
theorem cz{p:Nat->Bool}{i:Nat}(h:bP p i=true)(hp:p i=true):bP p (i+1)=true:=by rw[iW,h,hp];rfl
def j7:List ByteArray->ByteArray->Nat->Int
 |[],_,_=>-1
 |x::l,s,k=>if x=s then(k:Int)else j7 l s (k+1)
def bV(l:List ByteArray)(s:ByteArray):Int:=j7 l s 0
def M2(l:List ByteArray)(s:ByteArray):Bool:=decide (0<=bV l s)
theorem FU(s:ByteArray):∀(l:List ByteArray) (k m:Nat),(∀j,j<k->l[j]? ≠some s)->l[k]? =some s->j7 l s m=((m+k:Nat):Int):=by
 intro l
 induction l with
 |nil=>intro k m _ hk;simp at hk
 |cons x l ih=>
  intro k m h hk;unfold j7
  cases k with
  |zero=>simp at hk;rw[if_pos hk];simp
  |succ k=>
   rw[if_neg (λe=>h 0 (by omega) (by simp[e])),ih k (m+1) (λj hj=>by have:=h (j+1) (by omega);simpa using this) (by simpa using hk)];omega
theorem uQ(s:ByteArray):∀(l:List ByteArray) (m:Nat),(∀j,j<l.length->l[j]? ≠some s)->j7 l s m= -1:=by
 intro l
 induction l with
 |nil=>intro m _;rfl
 |cons x l ih=>
  intro m h;unfold j7;rw[if_neg (λe=>h 0 (by simp) (by simp[e]))];exact ih _ (λj hj=>by have:=h (j+1) (by simpa using hj);simpa using this)
theorem Ai(s:ByteArray):∀(l:List ByteArray) (m:Nat),(j7 l s m= -1/\s∉l)\/∃k:Nat,j7 l s m=((m+k:Nat):Int)/\l[k]? =some s/\∀j,j<k->l[j]? ≠some s:=by
 intro l
 induction l with
 |nil=>intro m;exact .inl ⟨rfl,by simp⟩
 |cons x l ih=>
  intro m;unfold j7;by_cases e:x=s
  ·rw[if_pos e];exact .inr ⟨0,by simp,by simp[e],λj hj=>by omega⟩
  ·rw[if_neg e];rcases ih (m+1)with⟨h1,h2⟩|⟨k,h1,h2,h3⟩
   ·exact .inl ⟨h1,by simp[h2];exact λh=>e h.symm⟩
   ·refine .inr ⟨k+1,by rw[h1];omega,by simpa using h2,λj hj=>?_⟩
    cases j with
    |zero=>simpa using e
    |succ j=>simpa using h3 j (by omega)
theorem qO(l:List ByteArray)(s:ByteArray):(bV l s= -1/\s∉l)\/∃k:Nat,bV l s=k/\l[k]? =some s/\∀j,j<k->l[j]? ≠some s:=by
 rcases Ai s l 0 with h|⟨k,h1,h2⟩
 ·exact .inl h
 ·exact .inr ⟨k,by unfold bV;rw[h1];simp,h2⟩
theorem en(l:List ByteArray)(s:ByteArray): -1<=bV l s/\bV l s<l.length\/bV l s= -1:=by
 rcases qO l s with⟨h,_⟩|⟨k,h1,h2,_⟩
 ·exact .inr h
 ·have:=(List.getElem?_eq_some_iff.1 h2).1;exact .inl (by omega)
theorem Ib(l:List ByteArray)(s:ByteArray):M2 l s=true↔s∈l:=by
 unfold M2;rcases qO l s with⟨h,h2⟩|⟨k,h1,h2,_⟩
 ·rw[h];simp[h2]
 ·rw[h1];simp;exact List.mem_of_getElem? h2
theorem getD_some{α:Type}[Inhabited α]{l:List α}{i:Nat}(h:i<l.length):l[i]? =some (l.getD i default):=by
 rw[List.getD_eq_getElem?_getD,List.getElem?_eq_getElem h];rfl
theorem zW{l:List ByteArray}{s:ByteArray}{i:Nat}(h:bP (λj=>!decide (l.getD j default=s)) i=true)(hi:i<l.length)(he:l.getD i default=s):bV l s=i:=by
 unfold bV;rw[FU s l i 0 (λj hj hx=>?_) (by rw[getD_some hi,he])]
 ·simp
 ·have:=aV.1 h j hj;rw[List.getD_eq_getElem?_getD,hx]at this;simp at this
theorem yr{l:List ByteArray}{s:ByteArray}(h:bP (λj=>!decide (l.getD j default=s)) l.length=true):bV l s= -1:=by
 refine uQ s l 0 λj hj hx=>?_
 have:=aV.1 h j hj;rw[List.getD_eq_getElem?_getD,hx]at this;simp at this
theorem pk(a:Nat):BitVec.ofInt 64 (a:Int)=BitVec.ofNat 64 a:=by simp
theorem Q5{a b:Nat}(ha:a<2^63):IntKind.i64.wrap ((BitVec.ofInt 64 (a:Int) &&& BitVec.ofInt 64 (b:Int)).toNat:Nat)=((a &&& b:Nat):Int):=by
 have h1:(BitVec.ofInt 64 (a:Int) &&& BitVec.ofInt 64 (b:Int)).toNat=a &&& b:=by
  rw[pk,pk,BitVec.toNat_and,BitVec.toNat_ofNat,BitVec.toNat_ofNat,<-Nat.and_mod_two_pow];have:a &&& b<=a:=Nat.and_le_left;exact Nat.mod_eq_of_lt (by omega)
 rw[h1];have:a &&& b<=a:=Nat.and_le_left;exact gr (by omega) (by omega)
theorem Ty{a b:Nat}(ha:a<2^63)(hb:b<2^63):IntKind.i64.wrap ((BitVec.ofInt 64 (a:Int) ||| BitVec.ofInt 64 (b:Int)).toNat:Nat)=((a ||| b:Nat):Int):=by
 have h0:a ||| b<2^63:=Nat.or_lt_two_pow ha hb
 have h1:(BitVec.ofInt 64 (a:Int) ||| BitVec.ofInt 64 (b:Int)).toNat=a ||| b:=by
  rw[pk,pk,BitVec.toNat_or,BitVec.toNat_ofNat,BitVec.toNat_ofNat,<-Nat.or_mod_two_pow];exact Nat.mod_eq_of_lt (by omega)
 rw[h1];exact gr (by omega) (by omega)
theorem S9{c:Bool}{a b:Nat}(ha:a<2^63):cq .and c (some (.sc (.int .i64 (a:Int)))) (some (.sc (.int .i64 (b:Int))))=some [.sc (.int .i64 ((a &&& b:Nat):Int))]:=by
 simp only[cq,hU,dP,if_true,t6];exact congrArg (λz=>some [DV.sc (.int .i64 z)]) (Q5 ha)
theorem U2{c:Bool}{a b:Nat}(ha:a<2^63)(hb:b<2^63):cq .or c (some (.sc (.int .i64 (a:Int)))) (some (.sc (.int .i64 (b:Int))))=some [.sc (.int .i64 ((a ||| b:Nat):Int))]:=by
 simp only[cq,hU,dP,if_true,t6];exact congrArg (λz=>some [DV.sc (.int .i64 z)]) (Ty ha hb)
theorem Th{c:Bool}{k:IntKind}{a b:Nat}(hb:b<=64):cq .shr c (some (.sc (.int .i64 (a:Int)))) (some (.sc (.int k (b:Int))))=some [.sc (.int .i64 ((a / 2^b:Nat):Int))]:=by
 have h1:¬(b:Int)<0:=by omega
 simp only[cq,hU,dP,if_neg h1,t6,IntKind.bits,Int.toNat_natCast,Nat.min_eq_left hb];have h2:(2:Int)^b=((2^b:Nat):Int):=by simp
 rw[h2,Int.fdiv_eq_ediv_of_nonneg _ (Int.natCast_nonneg _)];rfl
theorem SP{c:Bool}{k:IntKind}{a b:Nat}(hb:b<=64)(h:a*2^b<2^63):cq .shl c (some (.sc (.int .i64 (a:Int)))) (some (.sc (.int k (b:Int))))=some [.sc (.int .i64 ((a*2^b:Nat):Int))]:=by
 have h1:¬(b:Int)<0:=by omega
 have h2:(a:Int)*2^b=((a*2^b:Nat):Int):=by simp
 simp only[cq,hU,dP,if_neg h1,t6,IntKind.bits,Int.toNat_natCast,Nat.min_eq_left hb,h2];rw[gr (by omega) (by omega)]
theorem OL{c:Bool}{k:IntKind}{b:Nat}(hb:b<=62):cq .shl c (some (.sc (.int .i64 1))) (some (.sc (.int k (b:Int))))=some [.sc (.int .i64 ((2^b:Nat):Int))]:=by
 have hp:2^b<=2^62:=Nat.pow_le_pow_right (by decide) hb;have:=@SP c k 1 b (by omega) (by omega)
 rwa [Nat.one_mul]at this
theorem Tj{c:Bool}{a b:Int}(h0:0<=a)(ha:a<9223372036854775808)(h1:0<=b)(hb:b<9223372036854775808):cq .or c (some (.sc (.int .i64 a))) (some (.sc (.int .i64 b)))=some [.sc (.int .i64 ((a.toNat ||| b.toNat:Nat):Int))]:=by
 obtain⟨m,rfl⟩:=Int.eq_ofNat_of_zero_le h0;obtain⟨n,rfl⟩:=Int.eq_ofNat_of_zero_le h1;exact U2 (by omega) (by omega)
theorem Qm{c:Bool}{a b:Int}(h0:0<=a)(ha:a<9223372036854775808)(h1:0<=b):cq .and c (some (.sc (.int .i64 a))) (some (.sc (.int .i64 b)))=some [.sc (.int .i64 ((a.toNat &&& b.toNat:Nat):Int))]:=by
 obtain⟨m,rfl⟩:=Int.eq_ofNat_of_zero_le h0;obtain⟨n,rfl⟩:=Int.eq_ofNat_of_zero_le h1;exact S9 (by omega)
theorem SZ{n:Nat}(h:n<9223372036854775808):IntKind.u64.wrap (n:Int)=n:=by
 simp only[IntKind.wrap,IntKind.bits,IntKind.signed];simp;omega
theorem NV{z:Int}(h:0<=z)(h2:z<256):IntKind.u8.wrap z=z:=by
 simp only[IntKind.wrap,IntKind.bits,IntKind.signed];simp;omega
theorem Vr{i:Nat}:((i:Int)-1).toNat=i-1:=by omega
theorem I4{c:Bool}{s t:ByteArray}:cq .leq c (some (.sc (.string s))) (some (.sc (.string t)))=some [.sc (.bool (Op.bytesLess s.toList t.toList||decide (s=t)))]:=by simp[cq,hU,sA,t6]
theorem IL{c:Bool}{s t:ByteArray}:cq .geq c (some (.sc (.string s))) (some (.sc (.string t)))=some [.sc (.bool (!Op.bytesLess s.toList t.toList))]:=by simp[cq,hU,sA,t6]
end Go.Proofs.Ytgdbmcoamemmaaa
namespace Go.Proofs.Ytgdbmcoamemmaaa
open Go.RowKit
set_option maxRecDepth 100000
def bQ(s:ByteArray):List DV:=[.sc (.string s)]
def dD(n:Int):List DV:=[.sc (.int .i64 n)]
def av(l:List ByteArray):DV:=.sl 9 1 (l.map bQ)
def bC(l:List Int):DV:=.sl 3 1 (l.map dD)
theorem Cd{t:Nat}{l:List ByteArray}{kd:IntKind}{z:Int}(h:0<=z)(h1:z<l.length):d6 1 (some (.sl t 1 (l.map bQ))) (some (.sc (.int kd z)))=some [.sc (.string (l.getD z.toNat default))]:=fc (λ_=>rfl) h h1
theorem sC{t:Nat}{l:List Int}{kd:IntKind}{z:Int}(h:0<=z)(h1:z<l.length):d6 1 (some (.sl t 1 (l.map dD))) (some (.sc (.int kd z)))=some [.sc (.int .i64 (l.getD z.toNat default))]:=fc (λ_=>rfl) h h1
theorem JU{t:Nat}{l:List ByteArray}{kd:IntKind}{z:Int}{s:ByteArray}(h:0<=z)(h1:z<l.length):zv 1 0 (some (.sl t 1 (l.map bQ))) (some (.sc (.int kd z))) (some [.sc (.string s)])=some [.sl t 1 ((l.set z.toNat s).map bQ)]:=by
 rw[gl (e:=bQ) (λ_=>rfl) h h1 rfl,List.map_set];rfl
theorem U7{t:Nat}{l:List Int}{kd:IntKind}{z n:Int}(h:0<=z)(h1:z<l.length):zv 1 0 (some (.sl t 1 (l.map dD))) (some (.sc (.int kd z))) (some [.sc (.int .i64 n)])=some [.sl t 1 ((l.set z.toNat n).map dD)]:=by
 rw[gl (e:=dD) (λ_=>rfl) h h1 rfl,List.map_set];rfl
theorem P0{t k:Nat}{l:List ByteArray}:mE (some (.sl t k (l.map bQ)))=some []:=mg λ_=>rfl
theorem QG{t k:Nat}{l:List Int}:mE (some (.sl t k (l.map dD)))=some []:=mg λ_=>rfl
theorem KR{t:Nat}{s:ByteArray}:mE (some (.sl t 1 [[.sc (.string s)]]))=some []:=rfl
theorem Ih{t:Nat}{kd:IntKind}{n:Int}:mE (some (.sl t 1 [[.sc (.int kd n)]]))=some []:=rfl
theorem IR(l:List ByteArray)(s:ByteArray):l.map bQ++[[.sc (.string s)]]=(l++[s]).map bQ:=by rw[List.map_append];rfl
theorem I6(l:List Int)(n:Int):l.map dD++[[.sc (.int .i64 n)]]=(l++[n]).map dD:=by rw[List.map_append];rfl
attribute[go_sem] I4 IL OL Tj Qm Th SZ NV Vr Cd sC JU U7 P0 QG KR Ih IR I6
theorem kj(t:Nat)(l:List ByteArray)(s:ByteArray)(hl:l.length<=100000000000):aI Try.prog 56 [(false,[.sl t 1 (l.map bQ)]),(false,[.sc (.string s)])] [(false,[.sc (.int .i64 (bV l s))],true)]:=by
 refine ah Try.func56 rb rfl ?_;simp only[jE];simp(disch:=first|omega|(simp only[aq];omega)|simp only[ap,Nat.reduceAdd]) only[go_sem,true_and];refine lp (λi:Nat=>[.sc (.int .i64 i)]) (λi=>i<=l.length/\bP (λj=>!decide (l.getD j default=s)) i=true) (λi=>l.length-i) 0 rfl ⟨by omega,rfl⟩ ?_;rintro i ⟨hi,hb⟩;simp only[iE]
 repeat' (first|(with_reducible first|refine ac ?_|refine ab ‹_› rfl ?_|refine ai (λhbr=>?_) λhbr=>?_)|simp(disch:=first|omega|(simp only[aq];omega)|simp only[ap,Nat.reduceAdd]) only[go_sem,Cd,Ff])
 ·rw[zW hb (by omega) ‹_›];rfl
 ·exact⟨i+1,rfl,⟨by omega,cz hb (by simpa using‹¬l.getD i default=s›)⟩,by omega⟩
 ·obtain rfl:i=l.length:=by omega
  rw[yr hb];rfl
theorem HE(t:Nat)(l:List ByteArray)(s:ByteArray)(hl:l.length<=100000000000):aI Try.prog 103 [(false,[.sl t 1 (l.map bQ)]),(false,[.sc (.string s)])] [(false,[.sc (.bool (M2 l s))],true)]:=by
 have h:=kj t l s hl;refine ah Try.func103 u7 rfl ?_;simp only[lF]
 repeat' (first|(with_reducible first|refine ac ?_|refine ab ‹_› rfl ?_|refine ai (λhbr=>?_) λhbr=>?_)|simp(disch:=first|omega|(simp only[aq];omega)|simp only[ap,Nat.reduceAdd]) only[go_sem,true_and])
 rfl
theorem yx(t:Nat)(l:List ByteArray)(s:ByteArray)(hl:l.length<=100000000000):aI Try.prog 38 [(false,[.sl t 1 (l.map bQ)]),(false,[.sc (.string s)])] [(false,[.sc (.int .i64 (bV l s))],true)]:=by
 refine ah Try.func38 vS rfl ?_;simp only[mR];simp(disch:=first|omega|(simp only[aq];omega)|simp only[ap,Nat.reduceAdd]) only[go_sem,true_and];refine lp (λi:Nat=>[.sc (.int .i64 i)]) (λi=>i<=l.length/\bP (λj=>!decide (l.getD j default=s)) i=true) (λi=>l.length-i) 0 rfl ⟨by omega,rfl⟩ ?_;rintro i ⟨hi,hb⟩;simp only[lr]
 repeat' (first|(with_reducible first|refine ac ?_|refine ab ‹_› rfl ?_|refine ai (λhbr=>?_) λhbr=>?_)|simp(disch:=first|omega|(simp only[aq];omega)|simp only[ap,Nat.reduceAdd]) only[go_sem,Cd,Ff])
 ·rw[zW hb (by omega) ‹_›];rfl
 ·exact⟨i+1,rfl,⟨by omega,cz hb (by simpa using‹¬l.getD i default=s›)⟩,by omega⟩
 ·obtain rfl:i=l.length:=by omega
  rw[yr hb];rfl
open Go.RowKit Go.ChangeShapes Go.WideShapes Go.Deep
def Rq{α:Type}(e:α->List DV)(Ok:α->Prop)(P:Program)(t:TypeId):Prop:=
 ∀(H:Type) (enc:TypeId×Value->H) (w:World) (base:Nat) (spare:Nat->Bool) (held:Bool) (fuel:Nat) (cs:List Value) (x:DataW H×List MemPlace),
  DataW.trod enc P w base spare held fuel t cs=some x->∃a:α,aH w (· <w.heap.size) cs (e a)/\Ok a
section
variable {P:Program}{t:TypeId}
theorem Q6(ht:P.underlying t=some (.int .u8)):Rq (λn:Int=>[.sc (.int .u8 n)]) (λn=>0<=n/\n<256) P t:=by
 intro H enc w base spare held fuel cs x h;obtain⟨n,rfl,-,hn⟩:=DataW.trod_int ht h;refine⟨n,.sc trivial .nil,?_⟩;simp[Lit.wf,IntKind.min,IntKind.max,IntKind.bits,IntKind.signed]at hn;omega
theorem Hr{w:World}{A:Nat->Prop}{α:Type}{e:α->List DV}(a:Nat->α)(cs:Nat->List Value):∀n,(∀i,i<n->aH w A (cs i) (e (a i)))->aH w A ((List.range n).map cs).flatten (((List.range n).map a).map e).flatten:=by
 intro n
 induction n with
 |zero=>intro _;exact .nil
 |succ n ih=>
  intro h;simp only[List.range_succ,List.map_append,List.map_cons,List.map_nil,List.flatten_append,List.flatten_cons,List.flatten_nil,List.append_nil];exact(ih λi hi=>h i (by omega)).app (h n (by omega))
theorem EF{w:World}{α:Type}{e:α->List DV}{Ok:α->Prop}{k:Nat}(te:TypeId)(hk:0<k)(hl:∀a,(e a).length=k){a:Addr}{len cap base:Nat}(hle:len<=cap)(hm:cap<=9223372036854775807)
 (hi:∀i,i<len->∃cs',w.cells? base (a.add (i*k)) k=some cs'/\∃y,aH w (· <w.heap.size) cs' (e y)/\Ok y):
 ∃l:List α,aH w (· <w.heap.size) [.slice (some a) len cap] [.sl te k (l.map e)]/\l.length<=9223372036854775807/\∀x∈l,Ok x:=by
 rcases Nat.eq_zero_or_pos len with h0|h0
 ·subst h0;exact⟨[],.sl0 hm .nil,by simp,by simp⟩
 ·have hch:∀i,i<len->∃p:α×List Value,aH w (· <w.heap.size) p.2 (e p.1)/\Ok p.1/\∀j,j<k->w.cell? (a.add (i*k+j))=p.2[j]?:=by
   intro i hil;obtain⟨cs',hcs,y,hR,hOk⟩:=hi i hil;obtain⟨-,hcl,hat⟩:=World.cells?_some hcs;exact⟨(y,cs'),hR,hOk,λj hj=>by rw[<-II];exact hat j hj⟩
  have hdef:∃p:α×List Value,True:=⟨(hch 0 h0).choose,trivial⟩;obtain⟨p0,-⟩:=hdef
  have hch2:∀i,∃p:α×List Value,i<len->aH w (· <w.heap.size) p.2 (e p.1)/\Ok p.1/\∀j,j<k->w.cell? (a.add (i*k+j))=p.2[j]?:=by
   intro i;by_cases h:i<len
   ·obtain⟨p,hp⟩:=hch i h;exact⟨p,λ_=>hp⟩
   ·exact⟨p0,λh'=>(h h').elim⟩
  obtain⟨f,hf⟩:=Classical.axiomOfChoice hch2
  have hspot:a.spot=none:=by
   have hcl:(f 0).2.length=k:=by rw[(hf 0 h0).1.len,hl]
   have hc0:=(hf 0 h0).2.2 0 hk;rw[List.getElem?_eq_getElem (by omega)]at hc0
   cases hs:a.spot with
   |none=>rfl
   |some q=>
    unfold World.cell? Addr.add at hc0;simp[hs]at hc0;split at hc0<;>simp at hc0
  obtain⟨b,off,sp⟩:=a;simp only at hspot;subst hspot
  have hadd:∀j,(⟨b,off,none⟩:Addr).add j=⟨b,off+j,none⟩:=by
   intro j;unfold Addr.add;split
   ·next h=>rw[h];rfl
   ·rfl
  have hlen:∀c∈((List.range len).map λi=>(f i).2),c.length=k:=by
   intro c hc;obtain⟨i,hi,rfl⟩:=List.mem_map.1 hc;rw[(hf i (List.mem_range.1 hi)).1.len,hl]
  have hR:=Hr (w:=w) (A:=(· <w.heap.size)) (e:=e) (λi=>(f i).1) (λi=>(f i).2) len (λi hi=>(hf i hi).1)
  have hat:At w b off ((List.range len).map λi=>(f i).2).flatten:=by
   intro j u hu
   have hjl:j<len*k:=by
    have:=(List.getElem?_eq_some_iff.1 hu).1;rw[fg hlen]at this;simpa using this
   have hi:j / k<len:=Nat.div_lt_of_lt_mul (by rw[Nat.mul_comm];exact hjl);have h3:=(hf _ hi).2.2 (j % k) (Nat.mod_lt _ hk);rw[Nat.mul_comm,Nat.div_add_mod,hadd]at h3;rw[h3];have hg:((List.range len).map λi=>(f i).2)[j / k]? =some (f (j / k)).2:=by simp[List.getElem?_map,List.getElem?_range hi]
   have hfa:=wU hlen hg
   have:((((List.range len).map λi=>(f i).2).flatten.drop (j / k*k)).take k)[j % k]? =some u:=by
    rw[List.getElem?_take,if_pos (Nat.mod_lt _ hk),List.getElem?_drop,Nat.mul_comm,Nat.div_add_mod];exact hu
   rw[hfa]at this;exact this
  have hcell0:w.cell? ⟨b,off,none⟩≠none:=by
   have hcl:(f 0).2.length=k:=by rw[(hf 0 h0).1.len,hl]
   have hc0:=(hf 0 h0).2.2 0 hk;rw[List.getElem?_eq_getElem (by omega),hadd]at hc0;simp only[Nat.zero_mul,Nat.add_zero]at hc0;rw[hc0];simp
  refine⟨(List.range len).map λi=>(f i).1,.sl (A:=(· <w.heap.size)) ?_ (by simp) h0 hle hm hk (by intro c hc;obtain⟨x,_,rfl⟩:=List.mem_map.1 hc;exact hl x) hR hat .nil,?_,?_⟩
  ·apply Classical.byContradiction;intro hb;apply hcell0;have hn:w.heap[b]? =none:=by simp;omega
   simp[World.cell?,hn]
  ·simp;omega
  ·intro x hx;obtain⟨i,hi,rfl⟩:=List.mem_map.1 hx;exact(hf i (List.mem_range.1 hi)).2.1
theorem HL{α:Type}{e:α->List DV}{Ok:α->Prop}{el:TypeId}{k:Nat}(te:TypeId)(ht:P.underlying t=some (.slice el))(hc:P.cellsOf el=k)(hk:0<k)(hl:∀a,(e a).length=k)(ho:Rq e Ok P el):
 Rq (λl:List α=>[.sl te k (l.map e)]) (λl=>l.length<=9223372036854775807/\∀x∈l,Ok x) P t:=by
 intro H enc w base spare held fuel cs x h;rcases open_slice ht h with⟨rfl,-⟩|⟨a,len,cap,m,n,D,Pl,rfl,hb,hle,hm,hmm,hx,hi⟩
 ·exact⟨[],.sl0 (Nat.zero_le _) .nil,by simp,by simp⟩
 ·rw[hc]at hi;have hlm:len<=m:=by rw[hmm];split<;>omega
  exact EF te hk hl hle hm λi hil=>by
   obtain⟨cs',hcs,htr⟩:=hi i (by omega);exact⟨cs',hcs,ho H enc w base spare held n cs' _ htr⟩
theorem Ie{α:Type}{e:α->List DV}{Ok:α->Prop}(ho:Rq e Ok P t){H:Type}{enc:TypeId×Value->H}{w:World}{base b:Nat}{spare:Nat->Bool}{held:Bool}{v:Value}{d:DataW H}{p:List MemPlace}
 (hv:v.cells.toList=[v]) (h:DataW.Trod enc P w b spare held t v d p):∃a,CE w (· <w.heap.size) v (false,e a)/\Ok a:=by
 obtain⟨fuel,hf⟩:=h;obtain⟨a,hr,hk⟩:=ho H enc w b spare held fuel _ _ hf;rw[hv]at hr;exact⟨a,hr,hk⟩
theorem Mt{α:Type}{e:α->List DV}{Ok:α->Prop}(ho:Rq e Ok P t){el:TypeId}(ht:P.underlying t=some (.slice el)){H:Type}{enc:TypeId×Value->H}{w:World}{base b:Nat}{spare:Nat->Bool}{held:Bool}{v:Value}{d:DataW H}{p:List MemPlace}
 (h:DataW.Trod enc P w b spare held t v d p) (ok:Value.okWide P w .any base t v):∃a,CE w (· <w.heap.size) v (false,e a)/\Ok a:=by
 obtain⟨_,_,_,rfl⟩:=okWide_slice ht ok;exact Ie (base:=base) ho rfl h
end
theorem Md{P:Program}{f:FuncId}{args:List (Bool×List DV)}{v:Value}(h:aI P f args [(false,[.sc v],true)]){w:World}{vs:List Value}(ha:eg w (· <w.heap.size) vs args):
 Calls P f vs.toArray w λe w'=>e=.returned v/\Below w.heap.size w w':=by
 refine(h.2 w (· <w.heap.size) vs (λ_ h=>h) ha).mono ?_
 rintro e w' ⟨u,rfl,⟨us,fs,h1,h2,h3,-,h4⟩,hb⟩;refine⟨?_,hb⟩;have h1:us=[u]:=h1;subst h1
 match fs,h3 with
 |[f'],_=>
  obtain⟨vals,e1,e2⟩:=h4 0 u _ f' rfl rfl rfl;have e1:vals=[u]:=e1;subst e1;have e2:bj w' w.heap.size [u] [.sc v] f':=e2;rw[(aH.scOf e2.rep).1]
end Go.Proofs.Ytgdbmcoamemmaaa
namespace Go.Proofs.Ytgdbmcoamemmaaa
open Go.RowKit
set_option maxRecDepth 100000
def C1{α:Type}(f:α->Nat):List α->Nat
 |[]=>0
 |x::l=>f x+C1 f l
theorem aG{α:Type}[Inhabited α]{l:List α}{i:Nat}(h:i<l.length):l.getD i default∈l:=by
 rw[List.getD_eq_getElem?_getD,List.getElem?_eq_getElem h];exact List.getElem_mem h
def qe(l:List ByteArray):Nat:=l.length+C1 ByteArray.size l
theorem ye{l:List ByteArray}{n:Nat}(h:qe l<=n):l.length<=n:=by unfold qe at h;omega
theorem Hi{F:List ByteArray}{i:Nat}(h:i<F.length):M2 (F.take i) (F.getD i default)=decide (bV F (F.getD i default)<i):=by
 have hm:=aG (l:=F) h;rcases qO F (F.getD i default)with⟨_,h2⟩|⟨k,h1,h2,h3⟩
 ·exact absurd hm h2
 ·rw[h1];rw[Bool.eq_iff_iff,Ib,decide_eq_true_eq];constructor
  ·intro hx;obtain⟨j,hj⟩:=List.getElem?_of_mem hx;have hj2:=(List.getElem?_eq_some_iff.1 hj).1;rw[List.length_take]at hj2;rw[List.getElem?_take,if_pos (by omega)]at hj;rcases Nat.lt_or_ge j k with g|g
   ·exact absurd hj (h3 j g)
   ·omega
  ·intro hk;refine List.mem_of_getElem? (i:=k) ?_;rw[List.getElem?_take,if_pos (by omega)];exact h2
theorem K8(x lo hi:Int)(w:World):
 Calls Try.prog 36 #[.int .i64 x,.int .i64 lo,.int .i64 hi] w λe w'=>e=.returned (.bool (decide (lo<=x/\x<=hi)))/\w=w':=by
 by_cases h1:lo<=x
 ·by_cases h2:x<=hi
  ·go_enter Try.func36,Try.ntmps36
   go_wp2
   go_ret
   exact⟨by simp[h1,h2],rfl⟩
  ·go_enter Try.func36,Try.ntmps36
   go_wp2
   go_ret
   exact⟨by simp[h2],rfl⟩
 ·go_enter Try.func36,Try.ntmps36
  go_wp2
  go_ret
  exact⟨by simp;omega,rfl⟩
theorem ua(x lo hi:Int)(b:Bool)(w:World)(h:decide (lo<=x/\x<=hi)=b):
 Calls Try.prog 36 #[.int .i64 x,.int .i64 lo,.int .i64 hi] w λe w'=>e=.returned (.bool b)/\w=w':=by
 subst h;exact K8 x lo hi w
def bg{α:Type}(f:α->Nat)(l:List α):Nat:=(l.map f).sum
structure It where
 num:Int
 den:Int
 text:ByteArray
 deriving DecidableEq
def bA:It:=⟨0,0,ByteArray.empty⟩
def cI(x:It):Bool:=decide (x.text=ByteArray.empty)&&(decide (1<=x.den/\x.den<=999999999)&&(decide (-999999999<=x.num/\x.num<=999999999)&&decide (Int.gcd x.num x.den=1)))
def rr(n:Int):Prop:=-4000000000000000000<=n/\n<=4000000000000000000
instance (n:Int):Decidable (rr n):=inferInstanceAs (Decidable (_/\_))
def kR(n d:Int):It:=⟨(if d<0 then -n else n) / (Int.gcd n d:Int),(if d<0 then -d else d) / (Int.gcd n d:Int),ByteArray.empty⟩
def nA(n d:Int):It:=if d=0\/¬rr n\/¬rr d then bA else if cI (kR n d)=true then kR n d else bA
theorem CY{x:It}:cI x=true↔x.text=ByteArray.empty/\(1<=x.den/\x.den<=999999999)/\(-999999999<=x.num/\x.num<=999999999)/\Int.gcd x.num x.den=1:=by
 simp[cI]
theorem tI{n d:Int}(h:d=0\/¬rr n\/¬rr d):nA n d=bA:=by unfold nA;rw[if_pos h]
theorem FV{n d:Int}(h0:d≠0)(h1:rr n)(h2:rr d):nA n d=if cI (kR n d)=true then kR n d else bA:=by
 unfold nA;rw[if_neg (by simp[h0,h1,h2])]
theorem pj{n d:Int}(h:d≠0):1<=(Int.gcd n d:Int)/\(Int.gcd n d:Int)∣n/\(Int.gcd n d:Int)∣d:=by
 refine⟨?_,Int.gcd_dvd_left ..,Int.gcd_dvd_right ..⟩;have:0<Int.gcd n d:=Nat.pos_of_ne_zero (λe=>h (Int.eq_zero_of_gcd_eq_zero_right e));omega
theorem Ki{n d:Int}(h:d≠0):Int.gcd (kR n d).num (kR n d).den=1:=by
 obtain⟨h1,h2,h3⟩:=pj (n:=n) h;have hg:0<Int.gcd n d:=by omega
 have key:Int.gcd (n / (Int.gcd n d:Int)) (d / (Int.gcd n d:Int))=1:=by
  have:=Int.gcd_ediv_gcd_ediv_gcd (i:=n) (j:=d) hg;exact this
 unfold kR;simp only;split
 ·rw[Int.neg_ediv_of_dvd h2,Int.neg_ediv_of_dvd h3,Int.neg_gcd,Int.gcd_neg];exact key
 ·exact key
theorem Ll{n d:Int}(h:d≠0):1<=(kR n d).den:=by
 obtain⟨h1,h2,h3⟩:=pj (n:=n) h;unfold kR;simp only
 have hd:(Int.gcd n d:Int)∣(if d<0 then -d else d):=by
  split
  ·exact(Int.dvd_neg).2 h3
  ·exact h3
 have hp:0<(if d<0 then -d else d):=by split<;>omega
 obtain⟨q,hq⟩:=hd;rw[hq,Int.mul_ediv_cancel_left _ (by omega)];rw[hq]at hp;have:=Int.pos_of_mul_pos_right hp (by omega);omega
theorem G4{n d:Int}(h:d≠0):cI (kR n d)=decide (-999999999<=(kR n d).num/\(kR n d).num<=999999999/\(kR n d).den<=999999999):=by
 have h1:=Ki (n:=n) h;have h2:=Ll (n:=n) h;rw[Bool.eq_iff_iff,CY,decide_eq_true_iff];constructor
 ·rintro⟨_,⟨_,a⟩,⟨b,c⟩,_⟩;exact⟨b,c,a⟩
 ·rintro⟨a,b,c⟩;exact⟨rfl,⟨h2,c⟩,⟨a,b⟩,h1⟩
theorem qI{n g:Int}(h:g∣n):n.tdiv g=n / g:=Int.tdiv_eq_ediv_of_dvd h
theorem J6(n d:Int):nA n d=bA\/cI (nA n d)=true:=by
 unfold nA;split
 ·exact .inl rfl
 ·split
  ·next h=>exact .inr h
  ·exact .inl rfl
theorem Bz(x y:Nat):Nat.gcd y (x % y)=Nat.gcd x y:=by
 rw[Nat.gcd_comm x y,Nat.gcd_rec y x,Nat.gcd_comm]
abbrev fb(x:It):Value:=.agg #[.int .i64 x.num,.int .i64 x.den,.string x.text]
def yE(x:It):Nat:=x.text.size
def iT(l:List It):Nat:=l.length+bg yE l
def Ca(w:World)(G:Nat)(v0 v1:Value)(wr:World):Prop:=∃x y m:Nat,(x:Int)<=4000000000000000000/\(y:Int)<=4000000000000000000/\v0=.int .i64 x/\v1=.int .i64 y/\Nat.gcd x y=G/\wr=w.drewN m
theorem zP{a b:Int}{G:Nat}{p q:Int}{w:World}(h:Int.gcd a b=G)(h1:p=a.natAbs)(h2:q=b.natAbs)(hx:(a.natAbs:Int)<=4000000000000000000)(hy:(b.natAbs:Int)<=4000000000000000000):
 Ca w G (.int .i64 p) (.int .i64 q) w:=
 ⟨a.natAbs,b.natAbs,0,hx,hy,by rw[h1],by rw[h2],by rw[<-h];rfl,rfl⟩
theorem C6{x y G:Nat}{w w':World}(hx:(x:Int)<=4000000000000000000)(hy:(y:Int)<=4000000000000000000)(h0:¬y=0)(h:Nat.gcd x y=G)(hw:∃j,w'=w.drewN j):
 Ca w G (.int .i64 y) (.int .i64 ((x:Int) % y)) w':=by
 obtain⟨j,hj⟩:=hw;have hr:x % y<=x:=Nat.mod_le _ _;exact⟨y,x % y,j,hy,by omega,rfl,by rw[Int.natCast_emod],by rw[Bz];exact h,hj⟩
theorem FR(a:Int)(w:World)(ha: -9223372036854775807<=a/\a<=9223372036854775807):
 Calls Try.prog 81 #[.int .i64 a] w λe w'=>e=.returned (.int .i64 (a.natAbs:Nat))/\w=w':=by
 by_cases h:a<0
 all_goals
  go_enter Try.func81,Try.ntmps81
  go_wp2
  go_ret
  exact⟨La (by omega),rfl⟩
theorem oT(a b:Int)(w:World)(ha:rr a)(hb:rr b):
 Calls Try.prog 95 #[.int .i64 a,.int .i64 b] w λe w'=>e=.returned (.int .i64 (Int.gcd a b:Nat))/\∃m,w'=w.drewN m:=by
 unfold rr at ha hb;generalize hG:Int.gcd a b=G;have HG:=Lib.hid hG;clear hG;rcases(show(0<=a/\0<=b)\/(0<=a/\b<0)\/(a<0/\0<=b)\/(a<0/\b<0)from by omega)with⟨h1,h2⟩|⟨h1,h2⟩|⟨h1,h2⟩|⟨h1,h2⟩
 all_goals
  go_enter Try.func95,Try.ntmps95
  go_wp2
  go_loopw [0,1] (Ca w G) (λ_ b _=>(intOf b).toNat)
  case atStart=>exact zP HG.out (by omega) (by omega) (by omega) (by omega)
  case round=>
   obtain⟨x,y,m,hx,hy,rfl,rfl,hg,rfl⟩:=hrel;have HGG:=Lib.hid hg;clear hg;by_cases hy0:y=0
   ·subst hy0;have hb0:(((0:Nat):Int)!=0)=false:=by simp
    go_wp2
    go_ret
    exact⟨La (by have:=HGG.out;rw[Nat.gcd_zero_right]at this;rw[this]),m,rfl⟩
   ·have hb0:((y:Int)!=0)=true:=by rw[bne_iff_ne];omega
    have hr:x % y<=x:=Nat.mod_le _ _;have hr2:x % y<y:=Nat.mod_lt _ (by omega)
    go_wp2
    go_quiet (fail)
    go_wp2
    go_roundw
    case rel=>exact C6 hx hy hy0 HGG.out (PF _ _ _)
    case measure=>simp[intOf];omega
theorem oB(a b:Int)(w:World)(ha:rr a)(hb:rr b):
 Calls Try.prog 75 #[.int .i64 a,.int .i64 b] w λe w'=>e=.returned (.int .i64 (Int.gcd a b:Nat))/\∃m,w'=w.drewN m:=by
 unfold rr at ha hb;generalize hG:Int.gcd a b=G;have HG:=Lib.hid hG;clear hG;rcases(show(0<=a/\0<=b)\/(0<=a/\b<0)\/(a<0/\0<=b)\/(a<0/\b<0)from by omega)with⟨h1,h2⟩|⟨h1,h2⟩|⟨h1,h2⟩|⟨h1,h2⟩
 all_goals
  go_enter Try.func75,Try.ntmps75
  go_wp2_with fail
  refine(FR _ _ (by omega)).mono ?_;rintro e w' ⟨rfl,rfl⟩
  go_wp2_with fail
  refine(FR _ _ (by omega)).mono ?_;rintro e w' ⟨rfl,rfl⟩
  go_wp2_with fail
  go_loopw [5,6] (Ca w G) (λ_ b _=>(intOf b).toNat)
  case atStart=>exact zP HG.out (by omega) (by omega) (by omega) (by omega)
  case round=>
   obtain⟨x,y,m,hx,hy,rfl,rfl,hg,rfl⟩:=hrel;have HGG:=Lib.hid hg;clear hg;by_cases hy0:y=0
   ·subst hy0;have hb0:(((0:Nat):Int)!=0)=false:=by simp
    go_wp2
    go_ret
    exact⟨La (by have:=HGG.out;rw[Nat.gcd_zero_right]at this;rw[this]),m,rfl⟩
   ·have hb0:((y:Int)!=0)=true:=by rw[bne_iff_ne];omega
    have hr:x % y<=x:=Nat.mod_le _ _;have hr2:x % y<y:=Nat.mod_lt _ (by omega)
    go_wp2
    go_roundw
    case rel=>exact C6 hx hy hy0 HGG.out ⟨_,rfl⟩
    case measure=>simp[intOf];omega
theorem vW{x:It}(h:¬x.text=ByteArray.empty):cI x=false:=by simp[cI,h]
theorem oh{x:It}(h:¬(1<=x.den/\x.den<=999999999)):cI x=false:=by
 unfold cI;rw[decide_eq_false h];simp
theorem oa{x:It}(h:¬(-999999999<=x.num/\x.num<=999999999)):cI x=false:=by
 unfold cI;rw[decide_eq_false h];simp
theorem If{x:It}(h0:x.text=ByteArray.empty)(h1:1<=x.den/\x.den<=999999999)(h2: -999999999<=x.num/\x.num<=999999999):cI x=decide (((Int.gcd x.num x.den:Nat):Int)=1):=by
 unfold cI;rw[decide_eq_true h0,decide_eq_true h1,decide_eq_true h2];simp;omega
theorem PG{x:ByteArray}(h:¬x=ByteArray.empty):¬x.toList=[]:=by
 rw[ByteArray.toList_eq];intro e;apply h
 cases x with
 |mk d=>simp at e;subst e;rfl
theorem CU(x:It):(cI x=false/\¬x.text.toList=[])\/(cI x=false/\x.text=ByteArray.empty/\x.den<1)\/(cI x=false/\x.text=ByteArray.empty/\1<=x.den/\999999999<x.den)\/
 (cI x=false/\x.text=ByteArray.empty/\1<=x.den/\x.den<=999999999/\x.num< -999999999)\/(cI x=false/\x.text=ByteArray.empty/\1<=x.den/\x.den<=999999999/\-999999999<=x.num/\999999999<x.num)\/
 (cI x=decide (((Int.gcd x.num x.den:Nat):Int)=1)/\x.text=ByteArray.empty/\1<=x.den/\x.den<=999999999/\-999999999<=x.num/\x.num<=999999999):=by
 by_cases h0:x.text=ByteArray.empty
 ·by_cases h1:1<=x.den
  ·by_cases h2:x.den<=999999999
   ·by_cases h3: -999999999<=x.num
    ·by_cases h4:x.num<=999999999
     ·exact .inr (.inr (.inr (.inr (.inr ⟨If h0 ⟨h1,h2⟩ ⟨h3,h4⟩,h0,h1,h2,h3,h4⟩))))
     ·exact .inr (.inr (.inr (.inr (.inl ⟨oa (by omega),h0,h1,h2,h3,by omega⟩))))
    ·exact .inr (.inr (.inr (.inl ⟨oa (by omega),h0,h1,h2,by omega⟩)))
   ·exact .inr (.inr (.inl ⟨oh (by omega),h0,h1,by omega⟩))
  ·exact .inr (.inl ⟨oh (by omega),h0,by omega⟩)
 ·exact .inl ⟨vW h0,PG h0⟩
theorem k9(x:It)(w:World):
 Calls Try.prog 96 #[fb x] w λe w'=>e=.returned (.bool (cI x))/\Below w.heap.size w w':=by
 rcases CU x with⟨h,h0⟩|⟨h,h0,h1⟩|⟨h,h0,h1,h2⟩|⟨h,h0,h1,h2,h3⟩|⟨h,h0,h1,h2,h3,h4⟩|⟨h,h0,h1,h2,h3,h4⟩
 all_goals
  have H:=Lib.hid h;clear h;obtain⟨num,den,text⟩:=x;simp only at*
  try subst h0
 iterate 5
  ·go_enter Try.func96,Try.ntmps96
   go_wp2
   go_ret
   exact⟨by rw[H.out];rfl,(Below.refl _ _).alloc (Nat.le_refl _) _⟩
 go_enter Try.func96,Try.ntmps96
 go_wp2_with fail
 refine(oT _ _ _ (by unfold rr;omega) (by unfold rr;omega)).mono ?_;rintro e w' ⟨rfl,m,rfl⟩
 go_wp2
 go_ret
 exact⟨by rw[H.out];rfl,bL ((Below.refl _ _).alloc (Nat.le_refl _) _) m⟩
theorem zn(x:It)(w:World):
 Calls Try.prog 98 #[fb x] w λe w'=>e=.returned (.bool (cI x))/\Below w.heap.size w w':=by
 rcases CU x with⟨h,h0⟩|⟨h,h0,h1⟩|⟨h,h0,h1,h2⟩|⟨h,h0,h1,h2,h3⟩|⟨h,h0,h1,h2,h3,h4⟩|⟨h,h0,h1,h2,h3,h4⟩
 all_goals
  have H:=Lib.hid h;clear h;obtain⟨num,den,text⟩:=x;simp only at*
  try subst h0
 ·go_enter Try.func98,Try.ntmps98
  go_wp2
  go_ret
  exact⟨by rw[H.out];rfl,(Below.refl _ _).alloc (Nat.le_refl _) _⟩
 iterate 2
  ·go_enter Try.func98,Try.ntmps98
   go_wp2_with (go_at_call 36;refine(ua _ _ _ false _ (by simp;omega)).mono ?_;rintro e w' ⟨rfl,rfl⟩)
   go_ret
   exact⟨by rw[H.out];rfl,(Below.refl _ _).alloc (Nat.le_refl _) _⟩
 iterate 2
  ·go_enter Try.func98,Try.ntmps98
   go_wp2_with fail
   refine(ua _ _ _ true _ (by simp;omega)).mono ?_;rintro e w' ⟨rfl,rfl⟩
   go_wp2_with fail
   refine(ua _ _ _ false _ (by simp;omega)).mono ?_;rintro e w' ⟨rfl,rfl⟩
   go_wp2
   go_ret
   exact⟨by rw[H.out];rfl,(Below.refl _ _).alloc (Nat.le_refl _) _⟩
 go_enter Try.func98,Try.ntmps98
 go_wp2_with (go_at_call 36;refine(ua _ _ _ true _ (by simp;omega)).mono ?_;rintro e w' ⟨rfl,rfl⟩)
 refine(oB _ _ _ (by unfold rr;omega) (by unfold rr;omega)).mono ?_;rintro e w' ⟨rfl,m,rfl⟩
 go_wp2
 go_ret
 exact⟨by rw[H.out];rfl,bL ((Below.refl _ _).alloc (Nat.le_refl _) _) m⟩
def Gp(x:It)(w:World)(e:Ending)(w':World):Prop:=e=.returned (fb x)/\Below w.heap.size w w'
theorem Aa(n d:Int):(nA n d=bA/\d=0)\/(nA n d=bA/\d≠0/\n< -4000000000000000000)\/(nA n d=bA/\d≠0/\-4000000000000000000<=n/\4000000000000000000<n)\/
 (nA n d=bA/\d≠0/\-4000000000000000000<=n/\n<=4000000000000000000/\d< -4000000000000000000)\/(nA n d=bA/\d≠0/\-4000000000000000000<=n/\n<=4000000000000000000/\-4000000000000000000<=d/\4000000000000000000<d)\/
 (nA n d=(if cI (kR n d)=true then kR n d else bA)/\d≠0/\-4000000000000000000<=n/\n<=4000000000000000000/\-4000000000000000000<=d/\d<=4000000000000000000):=by
 by_cases h0:d=0
 ·exact .inl ⟨tI (.inl h0),h0⟩
 ·by_cases h1: -4000000000000000000<=n
  ·by_cases h2:n<=4000000000000000000
   ·by_cases h3: -4000000000000000000<=d
    ·by_cases h4:d<=4000000000000000000
     ·exact .inr (.inr (.inr (.inr (.inr ⟨FV h0 ⟨h1,h2⟩ ⟨h3,h4⟩,h0,h1,h2,h3,h4⟩))))
     ·exact .inr (.inr (.inr (.inr (.inl ⟨tI (.inr (.inr (by unfold rr;omega))),h0,h1,h2,h3,by omega⟩))))
    ·exact .inr (.inr (.inr (.inl ⟨tI (.inr (.inr (by unfold rr;omega))),h0,h1,h2,by omega⟩)))
   ·exact .inr (.inr (.inl ⟨tI (.inr (.inl (by unfold rr;omega))),h0,h1,by omega⟩))
  ·exact .inr (.inl ⟨tI (.inr (.inl (by unfold rr;omega))),h0,by omega⟩)
theorem wK{n g:Int}(h1: -4000000000000000000<=n)(h2:n<=4000000000000000000)(hg:1<=g): -4000000000000000000<=n.tdiv g/\n.tdiv g<=4000000000000000000:=by
 have h:(n.tdiv g).natAbs<=n.natAbs:=by rw[Int.natAbs_tdiv];exact Nat.div_le_self _ _
 omega
theorem FB{n d P Q:Int}(hd:d<0)(h1: -4000000000000000000<=n)(h2:n<=4000000000000000000)(h3: -4000000000000000000<=d)(h4:d<=4000000000000000000)
 (hP:wrap64 (-n.tdiv (Int.gcd n d:Int))=P) (hQ:wrap64 (-d.tdiv (Int.gcd n d:Int))=Q):kR n d=⟨P,Q,ByteArray.empty⟩:=by
 obtain⟨hg,hgn,hgd⟩:=pj (n:=n) (d:=d) (by omega);have b1:=wK h1 h2 hg;have b2:=wK h3 h4 hg;rw[IntWalk.wrap64_in _ ⟨by omega,by omega⟩]at hP hQ;unfold kR;rw[if_pos hd,if_pos hd,<-hP,<-hQ,qI hgn,qI hgd,Int.neg_ediv_of_dvd hgn,Int.neg_ediv_of_dvd hgd]
theorem Gz{n d P Q:Int}(hd:0<d)(hP:n.tdiv (Int.gcd n d:Int)=P)(hQ:d / (Int.gcd n d:Int)=Q):kR n d=⟨P,Q,ByteArray.empty⟩:=by
 obtain⟨hg,hgn,hgd⟩:=pj (n:=n) (d:=d) (by omega);unfold kR;rw[if_neg (by omega),if_neg (by omega),<-hP,<-hQ,qI hgn]
theorem A9(n d:Int)(w:World):
 Calls Try.prog 85 #[.int .i64 n,.int .i64 d] w (Gp (nA n d) w):=by
 rcases Aa n d with⟨h,h0⟩|⟨h,h0,h1⟩|⟨h,h0,h1,h2⟩|⟨h,h0,h1,h2,h3⟩|⟨h,h0,h1,h2,h3,h4⟩|⟨h,h0,h1,h2,h3,h4⟩
 ·have H:=Lib.hid h;clear h;have b0:(d==0)=true:=beq_iff_eq.2 h0;clear h0
  go_enter Try.func85,Try.ntmps85
  go_wp2
  exact bodyPost_ret (v:=fb bA) (by simp[results,Try.results85,go_sem];exact⟨rfl,rfl,rfl⟩) rfl ⟨by rw[H.out],(Below.refl _ _).alloc (Nat.le_refl _) _⟩
 iterate 4
  ·have H:=Lib.hid h;clear h;have b0:(d==0)=false:=beq_eq_false_iff_ne.2 h0
   go_enter Try.func85,Try.ntmps85
   go_wp2
   exact bodyPost_ret (v:=fb bA) (by simp[results,Try.results85,go_sem];exact⟨rfl,rfl,rfl⟩) rfl ⟨by rw[H.out],(Below.refl _ _).alloc (Nat.le_refl _) _⟩
 have H:=Lib.hid h;clear h;have b0:(d==0)=false:=beq_eq_false_iff_ne.2 h0;obtain⟨hg,hgn,hgd⟩:=pj (n:=n) h0;rcases(show d<0\/0<d from by omega)with hd|hd
 ·have e1:=Lib.hid (show Int.gcd (-n) (-d)=Int.gcd n d from by rw[Int.neg_gcd,Int.gcd_neg]);obtain⟨P,hP⟩:∃P,wrap64 (-n.tdiv (Int.gcd n d:Int))=P:=⟨_,rfl⟩;obtain⟨Q,hQ⟩:∃Q,wrap64 (-d.tdiv (Int.gcd n d:Int))=Q:=⟨_,rfl⟩;have e2:=Lib.hid (FB hd h1 h2 h3 h4 hP hQ)
  go_enter Try.func85,Try.ntmps85
  go_wp2_with fail
  refine(oT _ _ _ (by unfold rr;omega) (by unfold rr;omega)).mono ?_;rw[e1.out];generalize hG:((Int.gcd n d:Nat):Int)=G at *;clear hG;rintro e w' ⟨rfl,m,rfl⟩
  go_wp2
  go_region
  go_wp2_with fail
  refine(k9 ⟨P,Q,ByteArray.empty⟩ _).mono ?_;rintro e w1 ⟨rfl,hb⟩;obtain⟨hc,hf⟩:=KI hb;have hz:w.heap.size+1<w1.heap.size:=by have:=hb.size;simp at this;omega
  have g0:w1.cell? ⟨w.heap.size,0,none⟩=some (.int .i64 0):=(hc _ _ (by simp<;>omega)).trans (by simp[go_sem]);have g1:w1.cell? ⟨w.heap.size,1,none⟩=some (.int .i64 0):=(hc _ _ (by simp<;>omega)).trans (by simp[go_sem]);have g2:w1.cell? ⟨w.heap.size,2,none⟩=some (.string ByteArray.empty):=(hc _ _ (by simp<;>omega)).trans (by simp[go_sem];rfl);have HB:=Lib.hid hb;clear hb hP hQ hgn hgd;by_cases hn:cI ⟨P,Q,ByteArray.empty⟩=true
  ·have HM:=Lib.hid (show nA n d=⟨P,Q,ByteArray.empty⟩from by rw[H.out,e2.out,if_pos hn])
   go_wp2
   refine bodyPost_ret (v:=fb ⟨P,Q,ByteArray.empty⟩) (by simp[results,Try.results85,go_sem,g0,g1,g2,hz];rfl) rfl ⟨by rw[HM.out],?_⟩
   repeat (refine Below.setCell ?_ (by simp<;>omega) _)
   exact((bL ((Below.refl _ _).alloc (Nat.le_refl _) _) _).alloc (by simp) _).trans (HB.out.mono (by simp;omega))
  ·have hn:cI ⟨P,Q,ByteArray.empty⟩=false:=by simpa using hn
   have HM:=Lib.hid (show nA n d=bA from by rw[H.out,e2.out,if_neg (by simp[hn])])
   go_wp2
   refine bodyPost_ret (v:=fb bA) (by simp[results,Try.results85,go_sem,g0,g1,g2,hz];exact⟨rfl,rfl,rfl⟩) rfl ⟨by rw[HM.out],?_⟩
   repeat (refine Below.setCell ?_ (by simp<;>omega) _)
   exact((bL ((Below.refl _ _).alloc (Nat.le_refl _) _) _).alloc (by simp) _).trans (HB.out.mono (by simp;omega))
 ·obtain⟨P,hP⟩:∃P,n.tdiv (Int.gcd n d:Int)=P:=⟨_,rfl⟩;obtain⟨Q,hQ⟩:∃Q,d / (Int.gcd n d:Int)=Q:=⟨_,rfl⟩;have e2:=Lib.hid (Gz hd hP hQ);have hPb:=wK h1 h2 hg;rw[hP]at hPb
  go_enter Try.func85,Try.ntmps85
  go_wp2_with fail
  refine(oT _ _ _ (by unfold rr;omega) (by unfold rr;omega)).mono ?_;generalize hG:((Int.gcd n d:Nat):Int)=G at *;clear hG;rintro e w' ⟨rfl,m,rfl⟩
  go_wp2
  go_region
  go_wp2_with fail
  refine(k9 ⟨P,Q,ByteArray.empty⟩ _).mono ?_;rintro e w1 ⟨rfl,hb⟩;obtain⟨hc,hf⟩:=KI hb;have hz:w.heap.size+1<w1.heap.size:=by have:=hb.size;simp at this;omega
  have g0:w1.cell? ⟨w.heap.size,0,none⟩=some (.int .i64 0):=(hc _ _ (by simp<;>omega)).trans (by simp[go_sem]);have g1:w1.cell? ⟨w.heap.size,1,none⟩=some (.int .i64 0):=(hc _ _ (by simp<;>omega)).trans (by simp[go_sem]);have g2:w1.cell? ⟨w.heap.size,2,none⟩=some (.string ByteArray.empty):=(hc _ _ (by simp<;>omega)).trans (by simp[go_sem];rfl);have HB:=Lib.hid hb;clear hb hP hQ hgn hgd;by_cases hn:cI ⟨P,Q,ByteArray.empty⟩=true
  ·have HM:=Lib.hid (show nA n d=⟨P,Q,ByteArray.empty⟩from by rw[H.out,e2.out,if_pos hn])
   go_wp2
   refine bodyPost_ret (v:=fb ⟨P,Q,ByteArray.empty⟩) (by simp[results,Try.results85,go_sem,g0,g1,g2,hz];rfl) rfl ⟨by rw[HM.out],?_⟩
   repeat (refine Below.setCell ?_ (by simp<;>omega) _)
   exact((bL ((Below.refl _ _).alloc (Nat.le_refl _) _) _).alloc (by simp) _).trans (HB.out.mono (by simp;omega))
  ·have hn:cI ⟨P,Q,ByteArray.empty⟩=false:=by simpa using hn
   have HM:=Lib.hid (show nA n d=bA from by rw[H.out,e2.out,if_neg (by simp[hn])])
   go_wp2
   refine bodyPost_ret (v:=fb bA) (by simp[results,Try.results85,go_sem,g0,g1,g2,hz];exact⟨rfl,rfl,rfl⟩) rfl ⟨by rw[HM.out],?_⟩
   repeat (refine Below.setCell ?_ (by simp<;>omega) _)
   exact((bL ((Below.refl _ _).alloc (Nat.le_refl _) _) _).alloc (by simp) _).trans (HB.out.mono (by simp;omega))
theorem PA{n d:Int}(h0:d≠0)(h3: -4000000000000000000<=d)(h4:d<=4000000000000000000):(Int.gcd n d:Int)<=4000000000000000000:=by
 have h:=Nat.le_of_dvd (by omega:0<d.natAbs) (Int.natAbs_dvd_natAbs.2 (Int.gcd_dvd_right (a:=n) (b:=d)));simp at h;omega
set_option maxHeartbeats 1000000 in
theorem rD(n d:Int)(w:World):
 Calls Try.prog 43 #[.int .i64 n,.int .i64 d] w (Gp (nA n d) w):=by
 rcases Aa n d with⟨h,h0⟩|⟨h,h0,h1⟩|⟨h,h0,h1,h2⟩|⟨h,h0,h1,h2,h3⟩|⟨h,h0,h1,h2,h3,h4⟩|⟨h,h0,h1,h2,h3,h4⟩
 ·have H:=Lib.hid h;clear h;have b0:(d==0)=true:=beq_iff_eq.2 h0;clear h0
  go_enter Try.func43,Try.ntmps43
  go_wp2_with fail
  exact bodyPost_ret (v:=fb bA) (by simp[results,Try.results43,go_sem];exact⟨rfl,rfl,rfl⟩) rfl ⟨by rw[H.out],(Below.refl _ _).alloc (Nat.le_refl _) _⟩
 iterate 2
  ·have H:=Lib.hid h;clear h;have b0:(d==0)=false:=beq_eq_false_iff_ne.2 h0
   go_enter Try.func43,Try.ntmps43
   go_wp2_with (go_at_call 36;refine(ua _ _ _ false _ (by simp;omega)).mono ?_;rintro e w' ⟨rfl,rfl⟩)
   exact bodyPost_ret (v:=fb bA) (by simp[results,Try.results43,go_sem];exact⟨rfl,rfl,rfl⟩) rfl ⟨by rw[H.out],(Below.refl _ _).alloc (Nat.le_refl _) _⟩
 iterate 2
  ·have H:=Lib.hid h;clear h;have b0:(d==0)=false:=beq_eq_false_iff_ne.2 h0
   go_enter Try.func43,Try.ntmps43
   go_wp2_with fail
   refine(ua _ _ _ true _ (by simp;omega)).mono ?_;rintro e w' ⟨rfl,rfl⟩
   go_wp2_with fail
   refine(ua _ _ _ false _ (by simp;omega)).mono ?_;rintro e w' ⟨rfl,rfl⟩
   go_wp2
   exact bodyPost_ret (v:=fb bA) (by simp[results,Try.results43,go_sem];exact⟨rfl,rfl,rfl⟩) rfl ⟨by rw[H.out],(Below.refl _ _).alloc (Nat.le_refl _) _⟩
 have H:=Lib.hid h;clear h;have b0:(d==0)=false:=beq_eq_false_iff_ne.2 h0;obtain⟨hg,hgn,hgd⟩:=pj (n:=n) h0;have N:=Lib.hid (G4 (n:=n) h0);have hgl:=PA (n:=n) h0 h3 h4;rcases(show d<0\/0<d from by omega)with hd|hd
 ·obtain⟨P,hP⟩:∃P,wrap64 (-n.tdiv (Int.gcd n d:Int))=P:=⟨_,rfl⟩;obtain⟨Q,hQ⟩:∃Q,wrap64 (-d.tdiv (Int.gcd n d:Int))=Q:=⟨_,rfl⟩;have e2:=Lib.hid (FB hd h1 h2 h3 h4 hP hQ)
  go_enter Try.func43,Try.ntmps43
  go_wp2_with (go_at_call 36;refine(ua _ _ _ true _ (by simp;omega)).mono ?_;rintro e w' ⟨rfl,rfl⟩)
  refine(oB _ _ _ (by unfold rr;omega) (by unfold rr;omega)).mono ?_;generalize hG:((Int.gcd n d:Nat):Int)=G at *;clear hG;rintro e w' ⟨rfl,m,rfl⟩
  go_wp2
  go_region
  go_wp2_with fail
  by_cases c1: -999999999<=P/\P<=999999999
  ·refine(ua _ _ _ true _ (by simp;omega)).mono ?_;rintro e w' ⟨rfl,rfl⟩;by_cases c2:999999999<Q
   ·have HM:=Lib.hid (show nA n d=bA from by rw[H.out,if_neg (by rw[N.out,e2.out];simp;omega)]);clear hP hQ hgn hgd
    go_wp2
    refine bodyPost_ret (v:=fb bA) (by simp[results,Try.results43,go_sem];exact⟨rfl,rfl,rfl⟩) rfl ⟨by rw[HM.out],?_⟩
    repeat (first|exact Below.refl _ _|refine Below.setCell ?_ (by simp<;>omega) _|refine Below.alloc ?_ (by simp<;>omega) _|refine bL ?_ _|refine Below.drew ?_)
   ·have HM:=Lib.hid (show nA n d=⟨P,Q,ByteArray.empty⟩from by rw[H.out,if_pos (by rw[N.out,e2.out];simp;omega),e2.out]);clear hP hQ hgn hgd
    go_wp2
    refine bodyPost_ret (v:=fb ⟨P,Q,ByteArray.empty⟩) (by simp[results,Try.results43,go_sem];rfl) rfl ⟨by rw[HM.out],?_⟩
    repeat (first|exact Below.refl _ _|refine Below.setCell ?_ (by simp<;>omega) _|refine Below.alloc ?_ (by simp<;>omega) _|refine bL ?_ _|refine Below.drew ?_)
  ·refine(ua _ _ _ false _ (by simp;omega)).mono ?_;rintro e w' ⟨rfl,rfl⟩;have HM:=Lib.hid (show nA n d=bA from by rw[H.out,if_neg (by rw[N.out,e2.out];simp;omega)]);clear hP hQ hgn hgd
   go_wp2
   refine bodyPost_ret (v:=fb bA) (by simp[results,Try.results43,go_sem];exact⟨rfl,rfl,rfl⟩) rfl ⟨by rw[HM.out],?_⟩
   repeat (first|exact Below.refl _ _|refine Below.setCell ?_ (by simp<;>omega) _|refine Below.alloc ?_ (by simp<;>omega) _|refine bL ?_ _|refine Below.drew ?_)
 ·obtain⟨P,hP⟩:∃P,n.tdiv (Int.gcd n d:Int)=P:=⟨_,rfl⟩;obtain⟨Q,hQ⟩:∃Q,d / (Int.gcd n d:Int)=Q:=⟨_,rfl⟩;have e2:=Lib.hid (Gz hd hP hQ);have hPb:=wK h1 h2 hg;rw[hP]at hPb
  go_enter Try.func43,Try.ntmps43
  go_wp2_with (go_at_call 36;refine(ua _ _ _ true _ (by simp;omega)).mono ?_;rintro e w' ⟨rfl,rfl⟩)
  refine(oB _ _ _ (by unfold rr;omega) (by unfold rr;omega)).mono ?_;generalize hG:((Int.gcd n d:Nat):Int)=G at *;clear hG;rintro e w' ⟨rfl,m,rfl⟩
  go_wp2
  go_region
  go_wp2_with fail
  by_cases c1: -999999999<=P/\P<=999999999
  ·refine(ua _ _ _ true _ (by simp;omega)).mono ?_;rintro e w' ⟨rfl,rfl⟩;by_cases c2:999999999<Q
   ·have HM:=Lib.hid (show nA n d=bA from by rw[H.out,if_neg (by rw[N.out,e2.out];simp;omega)]);clear hP hQ hgn hgd
    go_wp2
    refine bodyPost_ret (v:=fb bA) (by simp[results,Try.results43,go_sem];exact⟨rfl,rfl,rfl⟩) rfl ⟨by rw[HM.out],?_⟩
    repeat (first|exact Below.refl _ _|refine Below.setCell ?_ (by simp<;>omega) _|refine Below.alloc ?_ (by simp<;>omega) _|refine bL ?_ _|refine Below.drew ?_)
   ·have HM:=Lib.hid (show nA n d=⟨P,Q,ByteArray.empty⟩from by rw[H.out,if_pos (by rw[N.out,e2.out];simp;omega),e2.out]);clear hP hQ hgn hgd
    go_wp2
    refine bodyPost_ret (v:=fb ⟨P,Q,ByteArray.empty⟩) (by simp[results,Try.results43,go_sem];rfl) rfl ⟨by rw[HM.out],?_⟩
    repeat (first|exact Below.refl _ _|refine Below.setCell ?_ (by simp<;>omega) _|refine Below.alloc ?_ (by simp<;>omega) _|refine bL ?_ _|refine Below.drew ?_)
  ·refine(ua _ _ _ false _ (by simp;omega)).mono ?_;rintro e w' ⟨rfl,rfl⟩;have HM:=Lib.hid (show nA n d=bA from by rw[H.out,if_neg (by rw[N.out,e2.out];simp;omega)]);clear hP hQ hgn hgd
   go_wp2
   refine bodyPost_ret (v:=fb bA) (by simp[results,Try.results43,go_sem];exact⟨rfl,rfl,rfl⟩) rfl ⟨by rw[HM.out],?_⟩
   repeat (first|exact Below.refl _ _|refine Below.setCell ?_ (by simp<;>omega) _|refine Below.alloc ?_ (by simp<;>omega) _|refine bL ?_ _|refine Below.drew ?_)
def IP(n:Int):It:=nA n 1
theorem Dy(n:Int)(w:World):Calls Try.prog 57 #[.int .i64 n] w (Gp (IP n) w):=by
 go_enter Try.func57,Try.ntmps57
 go_wp2_with fail
 refine(A9 n 1 _).mono ?_;rintro e w1 ⟨rfl,hb1⟩;obtain⟨hc,hf⟩:=KI hb1;have HB1:=Lib.hid hb1;clear hb1
 go_wp2
 refine bodyPost_ret (v:=fb (nA n 1)) (by simp[results,Try.results57,go_sem,hc]) rfl ⟨rfl,?_⟩
 repeat (refine Below.setCell ?_ (by simp<;>omega) _)
 refine Below.trans ?_ (HB1.out.mono (by simp))
 repeat (first|exact Below.refl _ _|refine Below.setCell ?_ (by simp<;>omega) _|refine Below.alloc ?_ (by simp<;>omega) _|refine bL ?_ _|refine Below.drew ?_)
def Dp(n:Int):It:=⟨n,1,ByteArray.empty⟩
theorem x9{n:Int}(h: -999999999<=n/\n<=999999999):cI (Dp n)=true:=by
 rw[CY];exact⟨rfl,⟨by show(1:Int)<=1;omega,by show(1:Int)<=999999999;omega⟩,h,by simp[Dp]⟩
theorem F7{n:Int}(h: -999999999<=n/\n<=999999999):IP n=Dp n:=by
 have e:kR n 1=Dp n:=by simp[kR,Dp]
 unfold IP;rw[FV (by decide) (by unfold rr;omega) (by decide),e,if_pos (x9 h)]
theorem G9(n:Int)(w:World):Calls Try.prog 65 #[.int .i64 n] w (Gp (Dp n) w):=by
 go_enter Try.func65,Try.ntmps65
 go_wp2
 refine bodyPost_ret (v:=fb (Dp n)) (by simp[results,Try.results65,go_sem,Dp];try rfl) rfl ⟨rfl,?_⟩
 repeat (first|exact Below.refl _ _|refine Below.setCell ?_ (by simp<;>omega) _|refine Below.alloc ?_ (by simp<;>omega) _|refine bL ?_ _|refine Below.drew ?_)
instance:Inhabited It:=⟨⟨0,0,ByteArray.empty⟩⟩
def au(x:It):List DV:=[.sc (.int .i64 x.num),.sc (.int .i64 x.den),.sc (.string x.text)]
def Ui(vs:List Value):List DV:=vs.map .sc
theorem Fx{w:World}{A:Nat->Prop}{vals vs:List Value}(h:aH w A vals (Ui vs)):vals=vs:=by
 induction vs generalizing vals with
 |nil=>cases h;rfl
 |cons v vs ih=>cases h with|sc h1 h2=>rw[ih h2]
theorem LL{w:World}{base:Nat}{vs:List Value}(h:∀v∈vs,Sc v):bj w base vs (Ui vs) []:=by
 induction vs with
 |nil=>exact .nil
 |cons v vs ih=>exact .sc (h v (List.mem_cons_self ..)) (ih λv hv=>h v (List.mem_cons_of_mem _ hv))
def Ay(x:Bool×List Value):Value:=if x.1 then .agg x.2.toArray else x.2.headD undef
theorem ja{P:Program}{f:FuncId}(args:List (Bool×List Value))(res:Bool×List Value)(hc:a9 P f=true)(ha:∀x∈args,x.1=false->x.2.length=1)(hr:∀v∈res.2,Sc v)(hr1:res.1=false->res.2.length=1)
 (h:∀w,Calls P f (args.map Ay).toArray w λe w'=>e=.returned (Ay res)/\Below w.heap.size w w'):aI P f (args.map λx=>(x.1,Ui x.2)) [(res.1,Ui res.2,true)]:=by
 refine⟨hc,λw B vs hB har=>?_⟩
 have hvs:vs=args.map Ay:=by
  apply List.ext_getElem?;intro j;by_cases hj:j<args.length
  ·have hl:=har.1;simp at hl;have h1:=har.2 j vs[j] _ (List.getElem?_eq_getElem (by omega)) (by rw[List.getElem?_map,List.getElem?_eq_getElem hj];rfl);rw[List.getElem?_eq_getElem (by omega),List.getElem?_map,List.getElem?_eq_getElem hj];simp only[Option.map_some,Option.some.injEq];unfold CE at h1;unfold Ay;split at h1
   ·rename_i hb;obtain⟨vals,e1,e2⟩:=h1;rw[if_pos hb,e1,Fx e2]
   ·rename_i hb;have:=Fx h1;rw[if_neg hb];rw[<-this];rfl
  ·have hl:=har.1;simp at hl;rw[List.getElem?_eq_none (by omega),List.getElem?_eq_none (by simp;omega)]
 subst hvs;refine(h w).mono ?_;rintro e w' ⟨rfl,hb⟩;refine⟨_,rfl,⟨[Ay res],[[]],by simp,rfl,rfl,by simp,λj u r f' h1 h2 h3=>?_⟩,hb⟩
 cases j with
 |zero=>
  simp at h1 h2 h3;subst h1 h2 h3;refine⟨res.2,?_,LL hr⟩;unfold Ay;simp only;split
  ·rfl
  ·rename_i hb;have:=hr1 (by simpa using hb)
   match hx:res.2,this with
   |[v],_=>rfl
 |succ j=>simp at h1
def Ou(x:It):List Value:=[.int .i64 x.num,.int .i64 x.den,.string x.text]
theorem BC(x:It):∀v∈Ou x,Sc v:=by simp[Ou,Sc]
theorem xg(x:It):aI Try.prog 96 [(true,au x)] [(false,[.sc (.bool (cI x))],true)]:=ja [(true,Ou x)] (false,[.bool (cI x)]) (by kernel_rfl) (by simp) (by simp[Sc]) (by simp) (λw=>k9 x w)
theorem xB(x:It):aI Try.prog 98 [(true,au x)] [(false,[.sc (.bool (cI x))],true)]:=ja [(true,Ou x)] (false,[.bool (cI x)]) (by kernel_rfl) (by simp) (by simp[Sc]) (by simp) (λw=>zn x w)
theorem HW(n:Int):aI Try.prog 57 [(false,[.sc (.int .i64 n)])] [(true,au (IP n),true)]:=ja [(false,[.int .i64 n])] (true,Ou (IP n)) (by kernel_rfl) (by simp) (BC _) (by simp) (λw=>Dy n w)
theorem Bq(n:Int):aI Try.prog 65 [(false,[.sc (.int .i64 n)])] [(true,au (Dp n),true)]:=ja [(false,[.int .i64 n])] (true,Ou (Dp n)) (by kernel_rfl) (by simp) (BC _) (by simp) (λw=>G9 n w)
theorem L8(x lo hi:Int):aI Try.prog 36 [(false,[.sc (.int .i64 x)]),(false,[.sc (.int .i64 lo)]),(false,[.sc (.int .i64 hi)])] [(false,[.sc (.bool (decide (lo<=x/\x<=hi)))],true)]:=
 ja [(false,[.int .i64 x]),(false,[.int .i64 lo]),(false,[.int .i64 hi])] (false,[.bool (decide (lo<=x/\x<=hi))]) (by kernel_rfl) (by simp) (by simp[Sc]) (by simp) (λw=>(K8 x lo hi w).mono λe w' ⟨h1,h2⟩=>⟨h1,by subst h2;exact Below.refl _ _⟩)
inductive aX where
 |mk (kind:Int) (items:List It) (parts:List aX) (names cls levels:List ByteArray) (code env:Int)
def iB(ti tv:Nat):aX->List DV
 |.mk k its ps ns cl lv c e=>[.sc (.int .i64 k),.sl ti 3 (its.map au),.sl tv 8 (ps.map λp=>iB ti tv p),av ns,av cl,av lv,.sc (.int .i64 c),.sc (.int .i64 e)]
abbrev aj:aX->List DV:=iB 42 28
def fV(k:Int)(its:List It):aX:=.mk k its [] [] [] [] 0 0
def eF(k:Int)(its:List It):List DV:=[.sc (.int .i64 k),.sl 42 3 (its.map au),.sl 28 8 [],.sl 9 1 [],.sl 9 1 [],.sl 9 1 [],.sc (.int .i64 0),.sc (.int .i64 0)]
theorem af(ti tv:Nat)(k:Int)(its:List It)(ps:List aX)(ns cl lv:List ByteArray)(c e:Int):iB ti tv (.mk k its ps ns cl lv c e)=[.sc (.int .i64 k),.sl ti 3 (its.map au),.sl tv 8 (ps.map (iB ti tv)),av ns,av cl,av lv,.sc (.int .i64 c),.sc (.int .i64 e)]:=by rw[iB]
theorem aX.ind{Q:aX->Prop}(h:∀k its ps ns cl lv c e,(∀p∈ps,Q p)->Q (.mk k its ps ns cl lv c e))(v:aX):Q v:=
 aX.rec (motive_1:=Q) (motive_2:=λl=>∀p∈l,Q p) (λk its ps ns cl lv c e ih=>h k its ps ns cl lv c e ih) (λp hp=>by cases hp) (λa l ha hl p hp=>by
  rcases List.mem_cons.1 hp with rfl|hp
  ·exact ha
  ·exact hl p hp) v
theorem mn(k:Int)(its:List It):aj (fV k its)=eF k its:=by
 simp only[aj,fV,iB,eF,av];rfl
theorem cM{t:Nat}{l:List It}{kd:IntKind}{z:Int}(h:0<=z)(h1:z<l.length):d6 3 (some (.sl t 3 (l.map au))) (some (.sc (.int kd z)))=some (au (l.getD z.toNat default)):=fc (λ_=>rfl) h h1
theorem gn{t k:Nat}{k1 k2:IntKind}{a b:Int}{s:ByteArray}:mE (some (.sl t k [[.sc (.int k1 a),.sc (.int k2 b),.sc (.string s)]]))=some []:=rfl
theorem PE{l:List It}{x:It}:l.map au++[[.sc (.int .i64 x.num),.sc (.int .i64 x.den),.sc (.string x.text)]]=(l++[x]).map au:=by rw[List.map_append];rfl
theorem Hy(n d:Int):aI Try.prog 43 [(false,[.sc (.int .i64 n)]),(false,[.sc (.int .i64 d)])] [(true,au (nA n d),true)]:=
 ja [(false,[.int .i64 n]),(false,[.int .i64 d])] (true,Ou (nA n d)) (by kernel_rfl) (by simp) (BC _) (by simp) (λw=>rD n d w)
theorem bm{α:Type}[Inhabited α]{l:List α}{i:Nat}(h:i<l.length):l.take (i+1)=l.take i++[l.getD i default]:=by
 rw[List.take_succ_eq_append_getElem h,List.getD_eq_getElem?_getD,List.getElem?_eq_getElem h];rfl
def la(l:List Int):Int×List It:=if 40<l.length then(0,[])else(2,l.map λn=>nA n 1)
set_option maxHeartbeats 1000000 in
theorem yX(t:Nat)(l:List Int)(hl:l.length<=100000):aI Try.prog 13 [(false,[.sl t 1 (l.map dD)])] [(true,eF (la l).1 (la l).2,true)]:=by
 refine ah Try.func13 nk rfl ?_;simp only[fP];unfold la eF;simp(disch:=first|omega|(simp only[aq];omega)|simp only[ap,Nat.reduceAdd]) only[go_sem,true_and];refine lp (λi:Nat=>[.sc (.int .i64 i),.sl 42 3 (((l.take i).map λn=>nA n 1).map au)]) (λi=>i<=l.length) (λi=>l.length-i) 0 rfl (Nat.zero_le _) ?_;intro i hi;simp only[fl];simp(disch:=first|omega|(simp only[aq];omega)|simp only[ap,Nat.reduceAdd]) only[go_sem,true_and];refine di (λhlt=>?_) (λhlt=>?_)
 ·simp(disch:=first|omega|(simp only[aq];omega)|simp only[ap,Nat.reduceAdd]) only[go_sem,true_and];refine di (λh40=>?_) (λh40=>?_)
  ·simp(disch:=first|omega|(simp only[aq];omega)|simp only[ap,Nat.reduceAdd]) only[go_sem,true_and];refine ab (Hy _ _) rfl ?_;simp(disch:=first|omega|(simp only[aq];omega)|simp only[ap,Nat.reduceAdd]) only[go_sem,au,gn,PE,Ff];exact⟨i+1,by rw[bm (by omega)];simp only[List.map_append,List.map_cons,List.map_nil],by omega,by omega⟩
  ·simp(disch:=first|omega|(simp only[aq];omega)|simp only[ap,Nat.reduceAdd]) only[go_sem,true_and];refine di (λh41=>?_) (λh41=>absurd h41 (by omega));rw[if_pos (by omega)];simp(disch:=first|omega|(simp only[aq];omega)|simp only[ap,Nat.reduceAdd]) only[go_sem,true_and];rfl
 ·obtain rfl:i=l.length:=by omega
  rw[List.take_length];simp(disch:=first|omega|(simp only[aq];omega)|simp only[ap,Nat.reduceAdd]) only[go_sem,true_and];refine di (λh41=>?_) (λh41=>?_)
  ·rw[if_pos (by omega)];simp(disch:=first|omega|(simp only[aq];omega)|simp only[ap,Nat.reduceAdd]) only[go_sem,true_and];rfl
  ·rw[if_neg (by omega)];simp(disch:=first|omega|(simp only[aq];omega)|simp only[ap,Nat.reduceAdd]) only[go_sem,true_and];rfl
@[go_sem] theorem tagg_2:cm Try.prog 2=some false:=by kernel_rfl
@[go_sem] theorem tsz_2:dV Try.prog 2=some 1:=by kernel_rfl
@[go_sem] theorem tby_2:fT Try.prog 2=some 8:=by kernel_rfl
@[go_sem] theorem und_2:Try.prog.underlying 2=some (.int .i64):=by kernel_rfl
@[go_sem] theorem zac_2:aW Try.prog 2=some [.d (.sc (.int .i64 0))]:=by kernel_rfl
@[go_sem] theorem tzero_2:aU Try.prog 2=some [.int .i64 0]:=by kernel_rfl
@[go_sem] theorem tagg_3:cm Try.prog 3=some false:=by kernel_rfl
@[go_sem] theorem tsz_3:dV Try.prog 3=some 1:=by kernel_rfl
@[go_sem] theorem tby_3:fT Try.prog 3=some 8:=by kernel_rfl
@[go_sem] theorem und_3:Try.prog.underlying 3=some (.int .i64):=by kernel_rfl
@[go_sem] theorem zac_3:aW Try.prog 3=some [.d (.sc (.int .i64 0))]:=by kernel_rfl
@[go_sem] theorem tzero_3:aU Try.prog 3=some [.int .i64 0]:=by kernel_rfl
@[go_sem] theorem tagg_4:cm Try.prog 4=some false:=by kernel_rfl
@[go_sem] theorem tsz_4:dV Try.prog 4=some 1:=by kernel_rfl
@[go_sem] theorem tby_4:fT Try.prog 4=some 1:=by kernel_rfl
@[go_sem] theorem und_4:Try.prog.underlying 4=some .bool:=by kernel_rfl
@[go_sem] theorem zac_4:aW Try.prog 4=some [.d (.sc (.bool false))]:=by kernel_rfl
@[go_sem] theorem tzero_4:aU Try.prog 4=some [.bool false]:=by kernel_rfl
@[go_sem] theorem tagg_5:cm Try.prog 5=some false:=by kernel_rfl
@[go_sem] theorem tsz_5:dV Try.prog 5=some 1:=by kernel_rfl
@[go_sem] theorem tby_5:fT Try.prog 5=some 1:=by kernel_rfl
@[go_sem] theorem und_5:Try.prog.underlying 5=some (.int .u8):=by kernel_rfl
@[go_sem] theorem zac_5:aW Try.prog 5=some [.d (.sc (.int .u8 0))]:=by kernel_rfl
@[go_sem] theorem tzero_5:aU Try.prog 5=some [.int .u8 0]:=by kernel_rfl
@[go_sem] theorem tagg_6:cm Try.prog 6=some false:=by kernel_rfl
@[go_sem] theorem tsz_6:dV Try.prog 6=some 1:=by kernel_rfl
@[go_sem] theorem tby_6:fT Try.prog 6=some 1:=by kernel_rfl
@[go_sem] theorem und_6:Try.prog.underlying 6=some (.int .u8):=by kernel_rfl
@[go_sem] theorem zac_6:aW Try.prog 6=some [.d (.sc (.int .u8 0))]:=by kernel_rfl
@[go_sem] theorem tzero_6:aU Try.prog 6=some [.int .u8 0]:=by kernel_rfl
@[go_sem] theorem tagg_7:cm Try.prog 7=some true:=by kernel_rfl
@[go_sem] theorem tsz_7:dV Try.prog 7=some 4:=by kernel_rfl
@[go_sem] theorem tby_7:fT Try.prog 7=some 24:=by kernel_rfl
@[go_sem] theorem zac_7:aW Try.prog 7=some [.d (.sc (.int .i64 0)),.d (.sc (.int .i64 0)),.d (.sc (.bool false)),.d (.sc (.int .u8 0))]:=by kernel_rfl
@[go_sem] theorem tzero_7:aU Try.prog 7=some [.int .i64 0,.int .i64 0,.bool false,.int .u8 0]:=by kernel_rfl
@[go_sem] theorem tpl_7:DL Try.prog 7=true:=by kernel_rfl
@[go_sem] theorem tfl_7_0:gW Try.prog 7 0=some (0,1,false):=by kernel_rfl
@[go_sem] theorem tfl_7_1:gW Try.prog 7 1=some (1,1,false):=by kernel_rfl
@[go_sem] theorem tfl_7_2:gW Try.prog 7 2=some (2,1,false):=by kernel_rfl
@[go_sem] theorem tfl_7_3:gW Try.prog 7 3=some (3,1,false):=by kernel_rfl
@[go_sem] theorem tagg_8:cm Try.prog 8=some true:=by kernel_rfl
@[go_sem] theorem tsz_8:dV Try.prog 8=some 4:=by kernel_rfl
@[go_sem] theorem tby_8:fT Try.prog 8=some 24:=by kernel_rfl
@[go_sem] theorem zac_8:aW Try.prog 8=some [.d (.sc (.int .i64 0)),.d (.sc (.int .i64 0)),.d (.sc (.bool false)),.d (.sc (.int .u8 0))]:=by kernel_rfl
@[go_sem] theorem tzero_8:aU Try.prog 8=some [.int .i64 0,.int .i64 0,.bool false,.int .u8 0]:=by kernel_rfl
@[go_sem] theorem tpl_8:DL Try.prog 8=true:=by kernel_rfl
@[go_sem] theorem tfl_8_0:gW Try.prog 8 0=some (0,1,false):=by kernel_rfl
@[go_sem] theorem tfl_8_1:gW Try.prog 8 1=some (1,1,false):=by kernel_rfl
@[go_sem] theorem tfl_8_2:gW Try.prog 8 2=some (2,1,false):=by kernel_rfl
@[go_sem] theorem tfl_8_3:gW Try.prog 8 3=some (3,1,false):=by kernel_rfl
@[go_sem] theorem tagg_9:cm Try.prog 9=some false:=by kernel_rfl
@[go_sem] theorem tsz_9:dV Try.prog 9=some 1:=by kernel_rfl
@[go_sem] theorem tby_9:fT Try.prog 9=some 16:=by kernel_rfl
@[go_sem] theorem und_9:Try.prog.underlying 9=some .string:=by kernel_rfl
@[go_sem] theorem zac_9:aW Try.prog 9=some [.d (.sc (.string ByteArray.empty))]:=by kernel_rfl
@[go_sem] theorem tzero_9:aU Try.prog 9=some [.string ByteArray.empty]:=by kernel_rfl
@[go_sem] theorem tagg_10:cm Try.prog 10=some false:=by kernel_rfl
@[go_sem] theorem tsz_10:dV Try.prog 10=some 1:=by kernel_rfl
@[go_sem] theorem tby_10:fT Try.prog 10=some 16:=by kernel_rfl
@[go_sem] theorem und_10:Try.prog.underlying 10=some .string:=by kernel_rfl
@[go_sem] theorem zac_10:aW Try.prog 10=some [.d (.sc (.string ByteArray.empty))]:=by kernel_rfl
@[go_sem] theorem tzero_10:aU Try.prog 10=some [.string ByteArray.empty]:=by kernel_rfl
@[go_sem] theorem tagg_11:cm Try.prog 11=some false:=by kernel_rfl
@[go_sem] theorem tsz_11:dV Try.prog 11=some 1:=by kernel_rfl
@[go_sem] theorem tby_11:fT Try.prog 11=some 16:=by kernel_rfl
@[go_sem] theorem und_11:Try.prog.underlying 11=some .string:=by kernel_rfl
@[go_sem] theorem zac_11:aW Try.prog 11=some [.d (.sc (.string ByteArray.empty))]:=by kernel_rfl
@[go_sem] theorem tzero_11:aU Try.prog 11=some [.string ByteArray.empty]:=by kernel_rfl
@[go_sem] theorem tagg_12:cm Try.prog 12=some false:=by kernel_rfl
@[go_sem] theorem tsz_12:dV Try.prog 12=some 1:=by kernel_rfl
@[go_sem] theorem tby_12:fT Try.prog 12=some 8:=by kernel_rfl
@[go_sem] theorem und_12:Try.prog.underlying 12=some (.int .u64):=by kernel_rfl
@[go_sem] theorem zac_12:aW Try.prog 12=some [.d (.sc (.int .u64 0))]:=by kernel_rfl
@[go_sem] theorem tzero_12:aU Try.prog 12=some [.int .u64 0]:=by kernel_rfl
@[go_sem] theorem tagg_13:cm Try.prog 13=some true:=by kernel_rfl
@[go_sem] theorem tsz_13:dV Try.prog 13=some 2:=by kernel_rfl
@[go_sem] theorem tby_13:fT Try.prog 13=some 24:=by kernel_rfl
@[go_sem] theorem zac_13:aW Try.prog 13=some [.d (.sc (.string ByteArray.empty)),.d (.sc (.int .u64 0))]:=by kernel_rfl
@[go_sem] theorem tzero_13:aU Try.prog 13=some [.string ByteArray.empty,.int .u64 0]:=by kernel_rfl
@[go_sem] theorem tpl_13:DL Try.prog 13=true:=by kernel_rfl
@[go_sem] theorem tfl_13_0:gW Try.prog 13 0=some (0,1,false):=by kernel_rfl
@[go_sem] theorem tfl_13_1:gW Try.prog 13 1=some (1,1,false):=by kernel_rfl
@[go_sem] theorem tagg_14:cm Try.prog 14=some true:=by kernel_rfl
@[go_sem] theorem tsz_14:dV Try.prog 14=some 2:=by kernel_rfl
@[go_sem] theorem tby_14:fT Try.prog 14=some 24:=by kernel_rfl
@[go_sem] theorem zac_14:aW Try.prog 14=some [.d (.sc (.string ByteArray.empty)),.d (.sc (.int .u64 0))]:=by kernel_rfl
@[go_sem] theorem tzero_14:aU Try.prog 14=some [.string ByteArray.empty,.int .u64 0]:=by kernel_rfl
@[go_sem] theorem tpl_14:DL Try.prog 14=true:=by kernel_rfl
@[go_sem] theorem tfl_14_0:gW Try.prog 14 0=some (0,1,false):=by kernel_rfl
@[go_sem] theorem tfl_14_1:gW Try.prog 14 1=some (1,1,false):=by kernel_rfl
@[go_sem] theorem tagg_18:cm Try.prog 18=some true:=by kernel_rfl
@[go_sem] theorem tsz_18:dV Try.prog 18=some 1:=by kernel_rfl
@[go_sem] theorem tby_18:fT Try.prog 18=some 8:=by kernel_rfl
@[go_sem] theorem tagg_19:cm Try.prog 19=some true:=by kernel_rfl
@[go_sem] theorem tsz_19:dV Try.prog 19=some 1:=by kernel_rfl
@[go_sem] theorem tby_19:fT Try.prog 19=some 8:=by kernel_rfl
@[go_sem] theorem tagg_21:cm Try.prog 21=some false:=by kernel_rfl
@[go_sem] theorem tsz_21:dV Try.prog 21=some 1:=by kernel_rfl
@[go_sem] theorem tby_21:fT Try.prog 21=some 4:=by kernel_rfl
@[go_sem] theorem und_21:Try.prog.underlying 21=some (.int .i32):=by kernel_rfl
@[go_sem] theorem zac_21:aW Try.prog 21=some [.d (.sc (.int .i32 0))]:=by kernel_rfl
@[go_sem] theorem tzero_21:aU Try.prog 21=some [.int .i32 0]:=by kernel_rfl
@[go_sem] theorem tagg_22:cm Try.prog 22=some false:=by kernel_rfl
@[go_sem] theorem tsz_22:dV Try.prog 22=some 1:=by kernel_rfl
@[go_sem] theorem tby_22:fT Try.prog 22=some 24:=by kernel_rfl
@[go_sem] theorem zac_22:aW Try.prog 22=some [.nil]:=by kernel_rfl
@[go_sem] theorem tzero_22:aU Try.prog 22=some [.slice none 0 0]:=by kernel_rfl
@[go_sem] theorem tel_22:fL Try.prog 22=some (5,1):=by kernel_rfl
@[go_sem] theorem tagg_24:cm Try.prog 24=some false:=by kernel_rfl
@[go_sem] theorem tsz_24:dV Try.prog 24=some 1:=by kernel_rfl
@[go_sem] theorem tby_24:fT Try.prog 24=some 24:=by kernel_rfl
@[go_sem] theorem zac_24:aW Try.prog 24=some [.nil]:=by kernel_rfl
@[go_sem] theorem tzero_24:aU Try.prog 24=some [.slice none 0 0]:=by kernel_rfl
@[go_sem] theorem tel_24:fL Try.prog 24=some (42,3):=by kernel_rfl
@[go_sem] theorem tagg_25:cm Try.prog 25=some false:=by kernel_rfl
@[go_sem] theorem tsz_25:dV Try.prog 25=some 1:=by kernel_rfl
@[go_sem] theorem tby_25:fT Try.prog 25=some 24:=by kernel_rfl
@[go_sem] theorem zac_25:aW Try.prog 25=some [.nil]:=by kernel_rfl
@[go_sem] theorem tzero_25:aU Try.prog 25=some [.slice none 0 0]:=by kernel_rfl
@[go_sem] theorem tel_25:fL Try.prog 25=some (28,8):=by kernel_rfl
@[go_sem] theorem tagg_26:cm Try.prog 26=some false:=by kernel_rfl
@[go_sem] theorem tsz_26:dV Try.prog 26=some 1:=by kernel_rfl
@[go_sem] theorem tby_26:fT Try.prog 26=some 24:=by kernel_rfl
@[go_sem] theorem zac_26:aW Try.prog 26=some [.nil]:=by kernel_rfl
@[go_sem] theorem tzero_26:aU Try.prog 26=some [.slice none 0 0]:=by kernel_rfl
@[go_sem] theorem tel_26:fL Try.prog 26=some (9,1):=by kernel_rfl
@[go_sem] theorem tagg_27:cm Try.prog 27=some true:=by kernel_rfl
@[go_sem] theorem tsz_27:dV Try.prog 27=some 8:=by kernel_rfl
@[go_sem] theorem tby_27:fT Try.prog 27=some 144:=by kernel_rfl
@[go_sem] theorem zac_27:aW Try.prog 27=some [.d (.sc (.int .i64 0)),.nil,.nil,.nil,.nil,.nil,.d (.sc (.int .i64 0)),.d (.sc (.int .i64 0))]:=by kernel_rfl
@[go_sem] theorem tzero_27:aU Try.prog 27=some [.int .i64 0,.slice none 0 0,.slice none 0 0,.slice none 0 0,.slice none 0 0,.slice none 0 0,.int .i64 0,.int .i64 0]:=by kernel_rfl
@[go_sem] theorem tpl_27:DL Try.prog 27=true:=by kernel_rfl
@[go_sem] theorem tfl_27_0:gW Try.prog 27 0=some (0,1,false):=by kernel_rfl
@[go_sem] theorem tfl_27_1:gW Try.prog 27 1=some (1,1,false):=by kernel_rfl
@[go_sem] theorem tfl_27_2:gW Try.prog 27 2=some (2,1,false):=by kernel_rfl
@[go_sem] theorem tfl_27_3:gW Try.prog 27 3=some (3,1,false):=by kernel_rfl
@[go_sem] theorem tfl_27_4:gW Try.prog 27 4=some (4,1,false):=by kernel_rfl
@[go_sem] theorem tfl_27_5:gW Try.prog 27 5=some (5,1,false):=by kernel_rfl
@[go_sem] theorem tfl_27_6:gW Try.prog 27 6=some (6,1,false):=by kernel_rfl
@[go_sem] theorem tfl_27_7:gW Try.prog 27 7=some (7,1,false):=by kernel_rfl
@[go_sem] theorem tagg_28:cm Try.prog 28=some true:=by kernel_rfl
@[go_sem] theorem tsz_28:dV Try.prog 28=some 8:=by kernel_rfl
@[go_sem] theorem tby_28:fT Try.prog 28=some 144:=by kernel_rfl
@[go_sem] theorem zac_28:aW Try.prog 28=some [.d (.sc (.int .i64 0)),.nil,.nil,.nil,.nil,.nil,.d (.sc (.int .i64 0)),.d (.sc (.int .i64 0))]:=by kernel_rfl
@[go_sem] theorem tzero_28:aU Try.prog 28=some [.int .i64 0,.slice none 0 0,.slice none 0 0,.slice none 0 0,.slice none 0 0,.slice none 0 0,.int .i64 0,.int .i64 0]:=by kernel_rfl
@[go_sem] theorem tpl_28:DL Try.prog 28=true:=by kernel_rfl
@[go_sem] theorem tfl_28_0:gW Try.prog 28 0=some (0,1,false):=by kernel_rfl
@[go_sem] theorem tfl_28_1:gW Try.prog 28 1=some (1,1,false):=by kernel_rfl
@[go_sem] theorem tfl_28_2:gW Try.prog 28 2=some (2,1,false):=by kernel_rfl
@[go_sem] theorem tfl_28_3:gW Try.prog 28 3=some (3,1,false):=by kernel_rfl
@[go_sem] theorem tfl_28_4:gW Try.prog 28 4=some (4,1,false):=by kernel_rfl
@[go_sem] theorem tfl_28_5:gW Try.prog 28 5=some (5,1,false):=by kernel_rfl
@[go_sem] theorem tfl_28_6:gW Try.prog 28 6=some (6,1,false):=by kernel_rfl
@[go_sem] theorem tfl_28_7:gW Try.prog 28 7=some (7,1,false):=by kernel_rfl
@[go_sem] theorem tagg_34:cm Try.prog 34=some false:=by kernel_rfl
@[go_sem] theorem tsz_34:dV Try.prog 34=some 1:=by kernel_rfl
@[go_sem] theorem tby_34:fT Try.prog 34=some 24:=by kernel_rfl
@[go_sem] theorem zac_34:aW Try.prog 34=some [.nil]:=by kernel_rfl
@[go_sem] theorem tzero_34:aU Try.prog 34=some [.slice none 0 0]:=by kernel_rfl
@[go_sem] theorem tel_34:fL Try.prog 34=some (3,1):=by kernel_rfl
@[go_sem] theorem tagg_41:cm Try.prog 41=some true:=by kernel_rfl
@[go_sem] theorem tsz_41:dV Try.prog 41=some 3:=by kernel_rfl
@[go_sem] theorem tby_41:fT Try.prog 41=some 32:=by kernel_rfl
@[go_sem] theorem zac_41:aW Try.prog 41=some [.d (.sc (.int .i64 0)),.d (.sc (.int .i64 0)),.d (.sc (.string ByteArray.empty))]:=by kernel_rfl
@[go_sem] theorem tzero_41:aU Try.prog 41=some [.int .i64 0,.int .i64 0,.string ByteArray.empty]:=by kernel_rfl
@[go_sem] theorem tpl_41:DL Try.prog 41=true:=by kernel_rfl
@[go_sem] theorem tfl_41_0:gW Try.prog 41 0=some (0,1,false):=by kernel_rfl
@[go_sem] theorem tfl_41_1:gW Try.prog 41 1=some (1,1,false):=by kernel_rfl
@[go_sem] theorem tfl_41_2:gW Try.prog 41 2=some (2,1,false):=by kernel_rfl
@[go_sem] theorem tagg_42:cm Try.prog 42=some true:=by kernel_rfl
@[go_sem] theorem tsz_42:dV Try.prog 42=some 3:=by kernel_rfl
@[go_sem] theorem tby_42:fT Try.prog 42=some 32:=by kernel_rfl
@[go_sem] theorem zac_42:aW Try.prog 42=some [.d (.sc (.int .i64 0)),.d (.sc (.int .i64 0)),.d (.sc (.string ByteArray.empty))]:=by kernel_rfl
@[go_sem] theorem tzero_42:aU Try.prog 42=some [.int .i64 0,.int .i64 0,.string ByteArray.empty]:=by kernel_rfl
@[go_sem] theorem tpl_42:DL Try.prog 42=true:=by kernel_rfl
@[go_sem] theorem tfl_42_0:gW Try.prog 42 0=some (0,1,false):=by kernel_rfl
@[go_sem] theorem tfl_42_1:gW Try.prog 42 1=some (1,1,false):=by kernel_rfl
@[go_sem] theorem tfl_42_2:gW Try.prog 42 2=some (2,1,false):=by kernel_rfl
@[go_sem] theorem tagg_67:cm Try.prog 67=some false:=by kernel_rfl
@[go_sem] theorem tsz_67:dV Try.prog 67=some 1:=by kernel_rfl
@[go_sem] theorem tby_67:fT Try.prog 67=some 24:=by kernel_rfl
@[go_sem] theorem zac_67:aW Try.prog 67=some [.nil]:=by kernel_rfl
@[go_sem] theorem tzero_67:aU Try.prog 67=some [.slice none 0 0]:=by kernel_rfl
@[go_sem] theorem tel_67:fL Try.prog 67=some (4,1):=by kernel_rfl
@[go_sem] theorem tagg_84:cm Try.prog 84=some true:=by kernel_rfl
@[go_sem] theorem tsz_84:dV Try.prog 84=some 3:=by kernel_rfl
@[go_sem] theorem tby_84:fT Try.prog 84=some 40:=by kernel_rfl
@[go_sem] theorem zac_84:aW Try.prog 84=some [.nil,.d (.sc (.int .i64 0)),.d (.sc (.int .i64 0))]:=by kernel_rfl
@[go_sem] theorem tzero_84:aU Try.prog 84=some [.slice none 0 0,.int .i64 0,.int .i64 0]:=by kernel_rfl
@[go_sem] theorem tpl_84:DL Try.prog 84=true:=by kernel_rfl
@[go_sem] theorem tfl_84_0:gW Try.prog 84 0=some (0,1,false):=by kernel_rfl
@[go_sem] theorem tfl_84_1:gW Try.prog 84 1=some (1,1,false):=by kernel_rfl
@[go_sem] theorem tfl_84_2:gW Try.prog 84 2=some (2,1,false):=by kernel_rfl
@[go_sem] theorem tagg_85:cm Try.prog 85=some true:=by kernel_rfl
@[go_sem] theorem tsz_85:dV Try.prog 85=some 3:=by kernel_rfl
@[go_sem] theorem tby_85:fT Try.prog 85=some 40:=by kernel_rfl
@[go_sem] theorem zac_85:aW Try.prog 85=some [.nil,.d (.sc (.int .i64 0)),.d (.sc (.int .i64 0))]:=by kernel_rfl
@[go_sem] theorem tzero_85:aU Try.prog 85=some [.slice none 0 0,.int .i64 0,.int .i64 0]:=by kernel_rfl
@[go_sem] theorem tpl_85:DL Try.prog 85=true:=by kernel_rfl
@[go_sem] theorem tfl_85_0:gW Try.prog 85 0=some (0,1,false):=by kernel_rfl
@[go_sem] theorem tfl_85_1:gW Try.prog 85 1=some (1,1,false):=by kernel_rfl
@[go_sem] theorem tfl_85_2:gW Try.prog 85 2=some (2,1,false):=by kernel_rfl
@[go_sem] theorem tagg_97:cm Try.prog 97=some false:=by kernel_rfl
@[go_sem] theorem tsz_97:dV Try.prog 97=some 1:=by kernel_rfl
@[go_sem] theorem tby_97:fT Try.prog 97=some 8:=by kernel_rfl
@[go_sem] theorem und_97:Try.prog.underlying 97=some (.int .u64):=by kernel_rfl
@[go_sem] theorem zac_97:aW Try.prog 97=some [.d (.sc (.int .u64 0))]:=by kernel_rfl
@[go_sem] theorem tzero_97:aU Try.prog 97=some [.int .u64 0]:=by kernel_rfl
@[go_sem] theorem tagg_101:cm Try.prog 101=some true:=by kernel_rfl
@[go_sem] theorem tsz_101:dV Try.prog 101=some 4:=by kernel_rfl
@[go_sem] theorem tby_101:fT Try.prog 101=some 40:=by kernel_rfl
@[go_sem] theorem tagg_102:cm Try.prog 102=some true:=by kernel_rfl
@[go_sem] theorem tsz_102:dV Try.prog 102=some 4:=by kernel_rfl
@[go_sem] theorem tby_102:fT Try.prog 102=some 40:=by kernel_rfl
@[go_sem] theorem tagg_104:cm Try.prog 104=some true:=by kernel_rfl
@[go_sem] theorem tsz_104:dV Try.prog 104=some 0:=by kernel_rfl
@[go_sem] theorem tby_104:fT Try.prog 104=some 0:=by kernel_rfl
@[go_sem] theorem zac_104:aW Try.prog 104=some []:=by kernel_rfl
@[go_sem] theorem tzero_104:aU Try.prog 104=some []:=by kernel_rfl
@[go_sem] theorem tagg_105:cm Try.prog 105=some true:=by kernel_rfl
@[go_sem] theorem tsz_105:dV Try.prog 105=some 0:=by kernel_rfl
@[go_sem] theorem tby_105:fT Try.prog 105=some 0:=by kernel_rfl
@[go_sem] theorem zac_105:aW Try.prog 105=some []:=by kernel_rfl
@[go_sem] theorem tzero_105:aU Try.prog 105=some []:=by kernel_rfl
@[go_sem] theorem tagg_107:cm Try.prog 107=some false:=by kernel_rfl
@[go_sem] theorem tsz_107:dV Try.prog 107=some 1:=by kernel_rfl
@[go_sem] theorem tby_107:fT Try.prog 107=some 4:=by kernel_rfl
@[go_sem] theorem und_107:Try.prog.underlying 107=some (.int .u32):=by kernel_rfl
@[go_sem] theorem zac_107:aW Try.prog 107=some [.d (.sc (.int .u32 0))]:=by kernel_rfl
@[go_sem] theorem tzero_107:aU Try.prog 107=some [.int .u32 0]:=by kernel_rfl
@[go_sem] theorem tagg_108:cm Try.prog 108=some false:=by kernel_rfl
@[go_sem] theorem tsz_108:dV Try.prog 108=some 1:=by kernel_rfl
@[go_sem] theorem tby_108:fT Try.prog 108=some 1:=by kernel_rfl
@[go_sem] theorem und_108:Try.prog.underlying 108=some (.int .u8):=by kernel_rfl
@[go_sem] theorem zac_108:aW Try.prog 108=some [.d (.sc (.int .u8 0))]:=by kernel_rfl
@[go_sem] theorem tzero_108:aU Try.prog 108=some [.int .u8 0]:=by kernel_rfl
@[go_sem] theorem tagg_109:cm Try.prog 109=some false:=by kernel_rfl
@[go_sem] theorem tsz_109:dV Try.prog 109=some 1:=by kernel_rfl
@[go_sem] theorem tby_109:fT Try.prog 109=some 1:=by kernel_rfl
@[go_sem] theorem und_109:Try.prog.underlying 109=some (.int .u8):=by kernel_rfl
@[go_sem] theorem zac_109:aW Try.prog 109=some [.d (.sc (.int .u8 0))]:=by kernel_rfl
@[go_sem] theorem tzero_109:aU Try.prog 109=some [.int .u8 0]:=by kernel_rfl
@[go_sem] theorem tagg_112:cm Try.prog 112=some false:=by kernel_rfl
@[go_sem] theorem tsz_112:dV Try.prog 112=some 1:=by kernel_rfl
@[go_sem] theorem tby_112:fT Try.prog 112=some 4:=by kernel_rfl
@[go_sem] theorem und_112:Try.prog.underlying 112=some (.int .i32):=by kernel_rfl
@[go_sem] theorem zac_112:aW Try.prog 112=some [.d (.sc (.int .i32 0))]:=by kernel_rfl
@[go_sem] theorem tzero_112:aU Try.prog 112=some [.int .i32 0]:=by kernel_rfl
@[go_sem] theorem tagg_113:cm Try.prog 113=some false:=by kernel_rfl
@[go_sem] theorem tsz_113:dV Try.prog 113=some 1:=by kernel_rfl
@[go_sem] theorem tby_113:fT Try.prog 113=some 4:=by kernel_rfl
@[go_sem] theorem und_113:Try.prog.underlying 113=some (.int .i32):=by kernel_rfl
@[go_sem] theorem zac_113:aW Try.prog 113=some [.d (.sc (.int .i32 0))]:=by kernel_rfl
@[go_sem] theorem tzero_113:aU Try.prog 113=some [.int .i32 0]:=by kernel_rfl
@[go_sem] theorem tagg_114:cm Try.prog 114=some true:=by kernel_rfl
@[go_sem] theorem tsz_114:dV Try.prog 114=some 11:=by kernel_rfl
@[go_sem] theorem tby_114:fT Try.prog 114=some 48:=by kernel_rfl
@[go_sem] theorem tagg_115:cm Try.prog 115=some true:=by kernel_rfl
@[go_sem] theorem tsz_115:dV Try.prog 115=some 11:=by kernel_rfl
@[go_sem] theorem tby_115:fT Try.prog 115=some 48:=by kernel_rfl
open Go.RowKit Go.ChangeShapes Go.WideShapes Go.Deep
instance:Inhabited aX:=⟨fV 0 []⟩
theorem Hf(ti tv:Nat)(v:aX):(iB ti tv v).length=8:=by cases v;rw[af];rfl
def ck:aX->Nat
 |.mk k its ps ns cl lv c e=>iT its+(ps.length+(ps.map λp=>ck p).sum)+qe ns+qe cl+qe lv
theorem eV(k:Int)(its:List It)(ps:List aX)(ns cl lv:List ByteArray)(c e:Int):ck (.mk k its ps ns cl lv c e)=iT its+(ps.length+bg ck ps)+qe ns+qe cl+qe lv:=by rw[ck];rfl
theorem xT{α:Type}[Inhabited α](f:α->Nat){l:List α}{i:Nat}(h:i<l.length):bg f (l.take (i+1))=bg f (l.take i)+f (l.getD i default):=by
 rw[bm h];unfold bg;simp
theorem tR{α:Type}(f:α->Nat)(l:List α)(i:Nat):bg f (l.take i)<=bg f l:=by
 have:bg f l=bg f (l.take i)+bg f (l.drop i):=by unfold bg;rw[<-List.sum_append,<-List.map_append,List.take_append_drop]
 omega
theorem Ak{α:Type}(f:α->Nat){l:List α}{x:α}(h:x∈l):f x<=bg f l:=by
 unfold bg
 induction l with
 |nil=>cases h
 |cons y l ih=>
  rw[List.map_cons,List.sum_cons];rcases List.mem_cons.1 h with rfl|h
  ·omega
  ·have:=ih h;omega
theorem py{ti tv t:Nat}{l:List aX}{kd:IntKind}{z:Int}(h:0<=z)(h1:z<l.length):d6 8 (some (.sl t 8 (l.map (iB ti tv)))) (some (.sc (.int kd z)))=some (iB ti tv (l.getD z.toNat default)):=fc (Hf ti tv) h h1
theorem bb{a b:Bool}(h:a=b):[DV.sc (.bool a)]=[.sc (.bool b)]:=by rw[h]
def dX(k:Int)(a b:Nat):Int:=if k=5 then 1 else(a:Int)+(b:Int)
theorem AN{k:Int}{a b:Nat}(h1:a<=1000000000)(h2:b<=1000000000):0<=dX k a b/\dX k a b<=2000000000:=by unfold dX;split<;>omega
def lQ(l:List ByteArray)(j:Nat):Bool:=!decide (l.getD j default=⟨#[]⟩)&&(decide (((l.getD j default).size:Int)<=60)&& !decide (bV l (l.getD j default)<(j:Int)))
def iR(l:List ByteArray)(m:Int):Bool:=decide ((l.length:Int)<=m)&&bP (lQ l) l.length
def pi(l:List ByteArray)(j:Nat):Bool:=decide (((l.getD j default).size:Int)<=60)
def yg(l:List ByteArray)(j:Nat):Bool:=decide (l.getD j default=⟨#[]⟩)
def GM(l:List ByteArray):Bool:=(decide (l.length=0)|| !bP (yg l) l.length)&&bP (pi l) l.length
def ry(k:Int)(x:It):Bool:=decide (x=bA)||(if k=1 then decide (x.den=1)&&(decide (0<=x.num/\x.num<=1)&&decide (x.text=⟨#[]⟩))else if k=2 then cI x else decide (k=3)&&(decide (x.num=0)&&(decide (x.den=1)&&decide ((x.text.size:Int)<=60))))
theorem AT(x y:It):zy [.i,.i,.s] (au x) (au y)=some (decide (x=y)):=by
 obtain⟨a,b,c⟩:=x;obtain⟨a',b',c'⟩:=y;simp only[au,zy,PL,if_true,It.mk.injEq,Bool.and_true];congr 1;rw[<-Bool.decide_and,<-Bool.decide_and]
theorem dY(x:It):HJ false [.i,.i,.s] (some [.sc (.int .i64 x.num),.sc (.int .i64 x.den),.sc (.string x.text)]) (some [.sc (.int .i64 0),.sc (.int .i64 0),.sc (.string ⟨#[]⟩)])=some [.sc (.bool (decide (x=bA)))]:=ST (AT x bA)
theorem ke(x:It):aI Try.prog 55 [(true,au x)] [(false,[.sc (.bool (decide (x=bA)))],true)]:=by
 refine ah Try.func55 qA rfl ?_;simp only[jh];unfold au
 repeat' (first|(with_reducible first|refine ac ?_|refine ab ‹_› rfl ?_|refine ai (λhbr=>?_) λhbr=>?_)|simp(disch:=first|omega|(simp only[aq];omega)|simp only[ap,Nat.reduceAdd]) only[go_sem,dY])
 exact bo rfl
theorem Me(k:Int)(x:It):aI Try.prog 101 [(false,[.sc (.int .i64 k)]),(true,au x)] [(false,[.sc (.bool (ry k x))],true)]:=by
 have h1:=ke x;have h2:=xg x;refine ah Try.func101 qP rfl ?_;simp only[jr];unfold au at*
 repeat' (first|(with_reducible first|refine ac ?_|refine ab ‹_› rfl ?_|refine ai (λhbr=>?_) λhbr=>?_)|simp(disch:=first|omega|(simp only[aq];omega)|simp only[ap,Nat.reduceAdd]) only[go_sem,true_and])
 all_goals refine bo ?_
 all_goals unfold ry
 all_goals first
  |(simp[*];done)
  |(simp_all;done)
  |(rw[Bool.eq_iff_iff];simp[*];omega)
theorem LB(k:Int)(x:It):aI Try.prog 89 [(false,[.sc (.int .i64 k)]),(true,au x)] [(false,[.sc (.bool (ry k x))],true)]:=by
 have h1:=L8 x.num 0 1;have h2:=xB x;refine ah Try.func89 vJ rfl ?_;simp only[mZ];unfold au at*
 repeat' (first|(with_reducible first|refine ac ?_|refine ab ‹_› rfl ?_|refine ai (λhbr=>?_) λhbr=>?_)|simp(disch:=first|omega|(simp only[aq];omega)|simp only[ap,Nat.reduceAdd]) only[go_sem,dY])
 all_goals refine bo ?_
 all_goals unfold ry
 all_goals first
  |(simp[*];done)
  |(simp_all;done)
  |(rw[Bool.eq_iff_iff];simp[*];omega)
set_option maxHeartbeats 1000000 in
theorem IJ(t:Nat)(l:List ByteArray)(m:Int)(hl:l.length<=1000000000):aI Try.prog 100 [(false,[.sl t 1 (l.map bQ)]),(false,[.sc (.int .i64 m)])] [(false,[.sc (.bool (iR l m))],true)]:=by
 have hH:=λi=>HE t (l.take i) (l.getD i default) (by rw[List.length_take];omega)
 refine ah Try.func100 oC rfl ?_;simp only[gT];unfold iR;simp(disch:=first|omega|(simp only[aq];omega)|simp only[ap,Nat.reduceAdd]) only[go_sem,true_and];refine di (λhbr=>?_) (λhbr=>?_)
 ·simp(disch:=first|omega|(simp only[aq];omega)|simp only[ap,Nat.reduceAdd]) only[go_sem,true_and];exact bo (by rw[decide_eq_false (by omega)];rfl)
 rw[decide_eq_true (by omega),Bool.true_and];simp(disch:=first|omega|(simp only[aq];omega)|simp only[ap,Nat.reduceAdd]) only[go_sem,true_and];refine lp (λi:Nat=>[.sc (.int .i64 i)]) (λi=>i<=l.length/\bP (lQ l) i=true) (λi=>l.length-i) 0 rfl ⟨by omega,rfl⟩ ?_;rintro i ⟨hi,hb⟩;simp only[fR];by_cases hlt:i<l.length
 ·have hHi:=hH i;rw[Hi hlt]at hHi
  repeat' (first|(with_reducible first|refine ac ?_|refine ab ‹_› rfl ?_|refine ai (λhbr=>?_) λhbr=>?_)|simp(disch:=first|omega|(simp only[aq];omega)|simp only[ap,Nat.reduceAdd]) only[go_sem,true_and])
  all_goals first
   |omega
   |exact bo (by rw[df hlt (by(first|(simp[-List.getD_eq_getElem?_getD,lQ, *];done)|(simp_all[-List.getD_eq_getElem?_getD,lQ];done)|(simp[-List.getD_eq_getElem?_getD,lQ, *];omega)|(simp_all[-List.getD_eq_getElem?_getD,lQ];omega)|omega))])
   |exact⟨i+1,rfl,⟨by omega,cz hb (by(first|(simp[-List.getD_eq_getElem?_getD,lQ, *];done)|(simp_all[-List.getD_eq_getElem?_getD,lQ];done)|(simp[-List.getD_eq_getElem?_getD,lQ, *];omega)|(simp_all[-List.getD_eq_getElem?_getD,lQ];omega)|omega))⟩,by omega⟩
   |skip
 ·obtain rfl:i=l.length:=by omega
  repeat' (first|(with_reducible first|refine ac ?_|refine ab ‹_› rfl ?_|refine ai (λhbr=>?_) λhbr=>?_)|simp(disch:=first|omega|(simp only[aq];omega)|simp only[ap,Nat.reduceAdd]) only[go_sem,true_and])
  all_goals first|omega|exact bo hb|skip
set_option maxHeartbeats 1000000 in
theorem Jl(t:Nat)(l:List ByteArray)(m:Int)(hl:l.length<=1000000000):aI Try.prog 88 [(false,[.sl t 1 (l.map bQ)]),(false,[.sc (.int .i64 m)])] [(false,[.sc (.bool (iR l m))],true)]:=by
 have hH:=λs=>yx t l s (by omega)
 refine ah Try.func88 sm rfl ?_;simp only[kv];unfold iR;simp(disch:=first|omega|(simp only[aq];omega)|simp only[ap,Nat.reduceAdd]) only[go_sem,true_and];refine lp (λi:Nat=>[.sc (.int .i64 i)]) (λi=>i<=l.length/\bP (lQ l) i=true) (λi=>l.length-i) 0 rfl ⟨by omega,rfl⟩ ?_;rintro i ⟨hi,hb⟩;simp only[jl];by_cases hlt:i<l.length
 ·have hHi:=hH (l.getD i default)
  repeat' (first|(with_reducible first|refine ac ?_|refine ab ‹_› rfl ?_|refine ai (λhbr=>?_) λhbr=>?_)|simp(disch:=first|omega|(simp only[aq];omega)|simp only[ap,Nat.reduceAdd]) only[go_sem,true_and])
  all_goals first
   |omega
   |exact bo (by rw[df hlt (by(first|(simp[-List.getD_eq_getElem?_getD,lQ, *];done)|(simp_all[-List.getD_eq_getElem?_getD,lQ];done)|(simp[-List.getD_eq_getElem?_getD,lQ, *];omega)|(simp_all[-List.getD_eq_getElem?_getD,lQ];omega)|omega)),Bool.and_false])
   |exact bo (by rw[decide_eq_false (show¬(l.length:Int)<=m by omega),Bool.false_and])
   |exact⟨i+1,rfl,⟨by omega,cz hb (by(first|(simp[-List.getD_eq_getElem?_getD,lQ, *];done)|(simp_all[-List.getD_eq_getElem?_getD,lQ];done)|(simp[-List.getD_eq_getElem?_getD,lQ, *];omega)|(simp_all[-List.getD_eq_getElem?_getD,lQ];omega)|omega))⟩,by omega⟩
   |skip
 ·obtain rfl:i=l.length:=by omega
  repeat' (first|(with_reducible first|refine ac ?_|refine ab ‹_› rfl ?_|refine ai (λhbr=>?_) λhbr=>?_)|simp(disch:=first|omega|(simp only[aq];omega)|simp only[ap,Nat.reduceAdd]) only[go_sem,true_and])
  all_goals first|omega|exact bo (by rw[hb,Bool.and_true])|skip
theorem Jg(t:Nat)(l:List ByteArray)(hl:l.length<=1000000000):aI Try.prog 84 [(false,[.sl t 1 (l.map bQ)])] [(false,[.sc (.bool (bP (yg l) l.length))],true)]:=by
 refine ah Try.func84 sQ rfl ?_;simp only[kD];simp(disch:=first|omega|(simp only[aq];omega)|simp only[ap,Nat.reduceAdd]) only[go_sem,true_and];refine lp (λi:Nat=>[.sc (.int .i64 i)]) (λi=>i<=l.length/\bP (yg l) i=true) (λi=>l.length-i) 0 rfl ⟨by omega,rfl⟩ ?_;rintro i ⟨hi,hb⟩;simp only[jf];by_cases hlt:i<l.length
 ·repeat' (first|(with_reducible first|refine ac ?_|refine ab ‹_› rfl ?_|refine ai (λhbr=>?_) λhbr=>?_)|simp(disch:=first|omega|(simp only[aq];omega)|simp only[ap,Nat.reduceAdd]) only[go_sem,true_and])
  all_goals first
   |omega
   |exact bo (by rw[df hlt (by(first|(simp[-List.getD_eq_getElem?_getD,yg, *];done)|(simp_all[-List.getD_eq_getElem?_getD,yg];done)|(simp[-List.getD_eq_getElem?_getD,yg, *];omega)|(simp_all[-List.getD_eq_getElem?_getD,yg];omega)|omega))])
   |exact⟨i+1,rfl,⟨by omega,cz hb (by(first|(simp[-List.getD_eq_getElem?_getD,yg, *];done)|(simp_all[-List.getD_eq_getElem?_getD,yg];done)|(simp[-List.getD_eq_getElem?_getD,yg, *];omega)|(simp_all[-List.getD_eq_getElem?_getD,yg];omega)|omega))⟩,by omega⟩
   |skip
 ·obtain rfl:i=l.length:=by omega
  repeat' (first|(with_reducible first|refine ac ?_|refine ab ‹_› rfl ?_|refine ai (λhbr=>?_) λhbr=>?_)|simp(disch:=first|omega|(simp only[aq];omega)|simp only[ap,Nat.reduceAdd]) only[go_sem,true_and])
  all_goals first|omega|exact bo hb|skip
set_option maxHeartbeats 1000000 in
theorem QZ(t:Nat)(l:List ByteArray)(hl:l.length<=1000000000):aI Try.prog 87 [(false,[.sl t 1 (l.map bQ)])] [(false,[.sc (.bool (GM l))],true)]:=by
 refine ah Try.func87 uc rfl ?_;simp only[lN];unfold GM;simp(disch:=first|omega|(simp only[aq];omega)|simp only[ap,Nat.reduceAdd]) only[go_sem,true_and];refine lp (λi:Nat=>[.sc (.int .i64 i),.sc (.bool (decide (l.length=0)|| !bP (yg l) i))]) (λi=>i<=l.length/\bP (pi l) i=true) (λi=>l.length-i) 0 (by simp[gL,zT]) ⟨by omega,rfl⟩ ?_;rintro i ⟨hi,hb⟩;simp only[ko];by_cases hlt:i<l.length
 ·have h0:¬l.length=0:=by omega
  rw[decide_eq_false h0,Bool.false_or,Bool.false_or];cases he:bP (yg l) i
  ·repeat' (first|(with_reducible first|refine ac ?_|refine ab ‹_› rfl ?_|refine ai (λhbr=>?_) λhbr=>?_)|simp(disch:=first|omega|(simp only[aq];omega)|simp only[ap,Nat.reduceAdd]) only[go_sem,fi])
   all_goals first
    |omega
    |exact bo (by rw[df (p:=pi l) hlt (by(first|(simp[-List.getD_eq_getElem?_getD,pi, *];done)|(simp_all[-List.getD_eq_getElem?_getD,pi];done)|(simp[-List.getD_eq_getElem?_getD,pi, *];omega)|(simp_all[-List.getD_eq_getElem?_getD,pi];omega)|omega)),Bool.and_false])
    |exact⟨i+1,by rw[iW,he];rfl,⟨by omega,cz hb (by(first|(simp[-List.getD_eq_getElem?_getD,pi, *];done)|(simp_all[-List.getD_eq_getElem?_getD,pi];done)|(simp[-List.getD_eq_getElem?_getD,pi, *];omega)|(simp_all[-List.getD_eq_getElem?_getD,pi];omega)|omega))⟩,by omega⟩
    |skip
  ·repeat' (first|(with_reducible first|refine ac ?_|refine ab ‹_› rfl ?_|refine ai (λhbr=>?_) λhbr=>?_)|simp(disch:=first|omega|(simp only[aq];omega)|simp only[ap,Nat.reduceAdd]) only[go_sem,fi])
   all_goals first
    |omega
    |exact bo (by rw[df (p:=pi l) hlt (by(first|(simp[-List.getD_eq_getElem?_getD,pi, *];done)|(simp_all[-List.getD_eq_getElem?_getD,pi];done)|(simp[-List.getD_eq_getElem?_getD,pi, *];omega)|(simp_all[-List.getD_eq_getElem?_getD,pi];omega)|omega)),Bool.and_false])
    |exact⟨i+1,by rw[iW,he];simp[yg],⟨by omega,cz hb (by(first|(simp[-List.getD_eq_getElem?_getD,pi, *];done)|(simp_all[-List.getD_eq_getElem?_getD,pi];done)|(simp[-List.getD_eq_getElem?_getD,pi, *];omega)|(simp_all[-List.getD_eq_getElem?_getD,pi];omega)|omega))⟩,by omega⟩
    |skip
 ·obtain rfl:i=l.length:=by omega
  repeat' (first|(with_reducible first|refine ac ?_|refine ab ‹_› rfl ?_|refine ai (λhbr=>?_) λhbr=>?_)|simp(disch:=first|omega|(simp only[aq];omega)|simp only[ap,Nat.reduceAdd]) only[go_sem,true_and])
  all_goals first|omega|exact bo (by rw[hb,Bool.and_true])|skip
def dd(k:Int)(m:Nat)(x:It):Bool:=ry k x&&(decide (m=0)||(decide (x.den=0)||(decide (x.den=1)&&decide (1<=x.num/\x.num<=(m:Int)))))
theorem sH{k:Int}{x:It}(h:ry k x=true):x=bA↔x.den=0:=by
 constructor
 ·rintro rfl;rfl
 ·intro hd;unfold ry at h;rcases Bool.or_eq_true _ _▸h with h|h
  ·exact of_decide_eq_true h
  ·exfalso;split at h
   ·simp[hd]at h
   ·split at h
    ·simp[cI,hd]at h
    ·simp[hd]at h
def gA(k n:Int)(ns cl lv:List ByteArray):Bool:=decide (0<=k/\k<=5)&&(decide (n<=40)&&((decide (ns.length=0)||decide ((ns.length:Int)=n))&&(GM ns&&(iR cl 3&&iR lv 20))))
def gB(k c e:Int)(np nl:Nat):Bool:=(decide (k=5)||(decide (c=0)&&decide (e=0)))&&((decide (k=2)||decide (nl=0))&&(decide (k=4)||decide (np=0)))
def gC(k n c e:Int)(its:List It)(nn nc nl:Nat):Bool:=
 if k=5 then decide (its.length=0)&&(decide (nn=0)&&(decide (-999<=c/\c<=99999)&&decide (0<=e/\e<=99999)))
 else if k=0 then decide (n=0)&&decide (nc=0)
 else if k=4 then decide (its.length=0)else bP (λj=>dd k nl (its.getD j default)) its.length
def ur(k:Int)(its:List It)(np:Nat)(ns cl lv:List ByteArray)(c e:Int):Bool:=
 gA k (dX k its.length np) ns cl lv&&(gB k c e np lv.length&&gC k (dX k its.length np) c e its ns.length cl.length lv.length)
def gZ:Nat->aX->Bool
 |0,.mk k its ps ns cl lv c e=>ur k its ps.length ns cl lv c e&&bP (λ_=>false) ps.length
 |n+1,.mk k its ps ns cl lv c e=>ur k its ps.length ns cl lv c e&&bP (λj=>gZ n (ps.getD j default)) ps.length
def tJ(n:Nat)(ps:List aX)(j:Nat):Bool:=match n with|0=>false|n+1=>gZ n (ps.getD j default)
theorem eI(n:Nat)(k:Int)(its:List It)(ps:List aX)(ns cl lv:List ByteArray)(c e:Int):gZ n (.mk k its ps ns cl lv c e)=(ur k its ps.length ns cl lv c e&&bP (tJ n ps) ps.length):=by
 cases n<;>rw[gZ]<;>rfl
structure RI(its:List It)(ps:List aX)(ns cl lv:List ByteArray):Prop where
 b1:its.length<=1000000000
 b2:ps.length<=1000000000
 b3:ns.length<=1000000000
 b4:cl.length<=1000000000
 b5:lv.length<=1000000000
 kid:∀p∈ps,ck p<=1000000000
theorem rU{k c e:Int}{its:List It}{ps:List aX}{ns cl lv:List ByteArray}(h:ck (.mk k its ps ns cl lv c e)<=1000000000):RI its ps ns cl lv:=by
 rw[eV]at h;exact⟨by unfold iT at h;omega,by omega,ye (n:=1000000000) (by omega),ye (n:=1000000000) (by omega),ye (n:=1000000000) (by omega),λp hp=>by have:=Ak ck hp;omega⟩
def rG:Nat->aX->Nat
 |0,.mk k its ps ns cl lv c e=>(dX k its.length ps.length).toNat+bg (λ_=>0) ps
 |n+1,.mk k its ps ns cl lv c e=>(dX k its.length ps.length).toNat+bg (λp=>rG n p) ps
def jY(n:Nat)(p:aX):Nat:=match n with|0=>0|n+1=>rG n p
theorem gp(n:Nat)(k:Int)(its:List It)(ps:List aX)(ns cl lv:List ByteArray)(c e:Int):rG n (.mk k its ps ns cl lv c e)=(dX k its.length ps.length).toNat+bg (jY n) ps:=by
 cases n<;>rw[rG]<;>rfl
theorem qZ(k:Int)(a b:Nat):0<=dX k a b:=by unfold dX;split<;>omega
theorem Ii(n:Nat)(k:Int)(its:List It)(ps:List aX)(ns cl lv:List ByteArray)(c e:Int):((rG n (.mk k its ps ns cl lv c e):Nat):Int)=dX k its.length ps.length+(bg (jY n) ps:Nat):=by
 have:=qZ k its.length ps.length;rw[gp];omega
def O6:Nat->Nat
 |0=>40
 |n+1=>40+40*O6 n
theorem fG{α:Type}(f:α->Nat)(m:Nat):∀l:List α,(∀x∈l,f x<=m)->bg f l<=l.length*m
 |[],_=>by simp[bg]
 |x::l,h=>by
  have h1:=h x (List.mem_cons_self ..);have h2:=fG f m l λy hy=>h y (List.mem_cons_of_mem _ hy)
  have:bg f (x::l)=f x+bg f l:=by simp[bg]
  rw[this,List.length_cons,Nat.succ_mul];omega
theorem D9{k:Int}{its:List It}{np:Nat}{ns cl lv:List ByteArray}{c e:Int}(h:ur k its np ns cl lv c e=true):dX k its.length np<=40/\np<=40:=by
 unfold ur gA gB at h;simp only[Bool.and_eq_true,Bool.or_eq_true,decide_eq_true_eq]at h;have h1:=h.1.2.1;have h2:=h.2.1.2.2;refine⟨h1,?_⟩;rcases h2 with h2|h2
 ·unfold dX at h1;rw[if_neg (by omega)]at h1;omega
 ·omega
theorem Ql:∀n v,gZ n v=true->rG n v<=O6 n:=by
 intro n
 induction n with
 |zero=>
  rintro⟨k,its,ps,ns,cl,lv,c,e⟩ h;rw[eI,Bool.and_eq_true]at h;have hb:=D9 h.1;have:=qZ k its.length ps.length;rw[gp];have h2:=fG (jY 0) 0 ps λx _=>Nat.le_refl 0
  show _<=40
  omega
 |succ n ih=>
  rintro⟨k,its,ps,ns,cl,lv,c,e⟩ h;rw[eI,Bool.and_eq_true]at h;have hb:=D9 h.1;have:=qZ k its.length ps.length;rw[gp]
  have h2:=fG (jY (n+1)) (O6 n) ps λx hx=>ih x (by
   obtain⟨j,hj,rfl⟩:=List.getElem_of_mem hx;have:=aV.1 h.2 j hj;have e:tJ (n+1) ps j=gZ n (ps.getD j default):=rfl;rw[e,List.getD_eq_getElem?_getD,List.getElem?_eq_getElem hj]at this
   exact this)
  show _<=40+40*O6 n;have h3:ps.length*O6 n<=40*O6 n:=Nat.mul_le_mul_right _ hb.2;omega
theorem Lh(n:Nat)(hn:n<=3)(v:aX)(h:gZ n v=true):rG n v<=3000000:=by
 have h1:=Ql n v h
 have h2:O6 n<=3000000:=by
  rcases n with _|_|_|_|n
  ·decide
  ·decide
  ·decide
  ·decide
  ·omega
 omega
def cd(v:aX):Bool:=gZ 3 v&&decide ((rG 3 v:Int)<=200)
def Ji:Nat->aX->Bool
 |0,.mk k its ps ns cl lv c e=>bP (λ_=>false) ps.length
 |n+1,.mk k its ps ns cl lv c e=>bP (λj=>Ji n (ps.getD j default)) ps.length
def zl:Nat->aX->Nat
 |0,_=>1
 |n+1,.mk k its ps ns cl lv c e=>(ps.map λp=>zl n p+1).foldl max 0
theorem MX:∀n v,gZ n v=true->Ji n v=true:=by
 intro n
 induction n with
 |zero=>
  rintro⟨k,its,ps,ns,cl,lv,c,e⟩ h;rw[gZ,Bool.and_eq_true]at h
  rw[Ji];exact h.2
 |succ n ih=>
  rintro⟨k,its,ps,ns,cl,lv,c,e⟩ h;rw[gZ,Bool.and_eq_true]at h;rw[Ji];exact aV.2 λi hi=>ih _ (aV.1 h.2 i hi)
theorem fx(m:Nat):∀(l:List Nat) (a:Nat),l.foldl max a<=m↔a<=m/\∀x∈l,x<=m
 |[],a=>by simp
 |x::l,a=>by
  rw[List.foldl_cons,fx m l];simp only[List.mem_cons,forall_eq_or_imp,Nat.max_le,and_assoc]
theorem OB:∀n v,zl (n+1) v<=n↔Ji n v=true:=by
 intro n
 induction n with
 |zero=>
  rintro⟨k,its,ps,ns,cl,lv,c,e⟩;rw[zl,Ji,fx]
  cases ps with
  |nil=>simp[bP]
  |cons p l=>
   constructor
   ·intro h;have:=h.2 (zl 0 p+1) (by simp);omega
   ·intro h;have:=aV.1 h 0 (by simp);exact absurd this (by decide)
 |succ n ih=>
  rintro⟨k,its,ps,ns,cl,lv,c,e⟩;rw[zl,Ji,fx];constructor
  ·intro h;exact aV.2 λi hi=>(ih _).1 (by have:=h.2 (zl (n+1) (ps.getD i default)+1) (List.mem_map.2 ⟨_,aG hi,rfl⟩);omega)
  ·intro h;refine⟨by omega,λx hx=>?_⟩;obtain⟨p,hp,rfl⟩:=List.mem_map.1 hx;obtain⟨j,hj,rfl⟩:=List.getElem_of_mem hp;have h1:=aV.1 h j hj;have e:ps.getD j default=ps[j]:=by rw[List.getD_eq_getElem?_getD,List.getElem?_eq_getElem hj];rfl
   rw[e]at h1;have:=(ih _).2 h1;omega
theorem KQ:∀n v,zl n v<=n+1:=by
 intro n
 induction n with
 |zero=>intro v;unfold zl;omega
 |succ n ih=>
  rintro⟨k,its,ps,ns,cl,lv,c,e⟩;rw[zl,fx];refine⟨by omega,λx hx=>?_⟩;obtain⟨p,hp,rfl⟩:=List.mem_map.1 hx;have:=ih p;omega
theorem gX(k:Int)(its:List It)(ps:List aX)(ns cl lv:List ByteArray)(c e:Int)(hb:RI its ps ns cl lv):aI Try.prog 26 [(true,aj (.mk k its ps ns cl lv c e))] [(false,[.sc (.int .i64 (dX k its.length ps.length))],true)]:=by
 obtain⟨b1,b2,-,-,-,-⟩:=hb;simp only[aj,af,av];refine ah Try.func26 xS rfl ?_;simp only[nJ];unfold dX
 repeat' (first|(with_reducible first|refine ac ?_|refine ab ‹_› rfl ?_|refine ai (λhbr=>?_) λhbr=>?_)|simp(disch:=first|omega|(simp only[aq];omega)|simp only[ap,Nat.reduceAdd]) only[go_sem,true_and])
 ·rw[if_pos ‹_›];rfl
 ·rw[if_neg ‹_›];rfl
theorem QD(n:Nat):decide (0<(n:Int))= !decide (n=0):=by rw[Bool.eq_iff_iff];simp;omega
def U1(n:Nat):Prop:=∀v,ck v<=1000000000->aI Try.prog 61 [(true,aj v),(false,[.sc (.int .i64 n)])] [(false,[.sc (.bool (gZ n v))],true)]
set_option maxHeartbeats 4000000 in
theorem Db(n:Nat)(hn:n<=1000)(ih:∀m,n=m+1->U1 m):U1 n:=by
 rintro⟨k,its,ps,ns,cl,lv,c,e⟩ hw;have hb:=rU hw;have h1:=gX k its ps ns cl lv c e hb;obtain⟨b1,b2,b3,b4,b5,b6⟩:=hb;have h2:=QZ 9 ns b3;have h3:=Jl 9 cl 3 b4;have h4:=Jl 9 lv 20 b5;have h5:=L8 k 0 5;have h6:=L8 c (-999) 99999;have h7:=L8 e 0 99999;have h8:=λi=>LB k (its.getD i default)
 have h9:=λi=>L8 (its.getD i default).num 1 lv.length
 simp only[au]at h8;rw[eI];have hlen:=AN (k:=k) b1 b2;unfold ur;generalize hln:dX k its.length ps.length=ln at *;simp only[aj,af,av]at h1 ⊢;refine ah Try.func61 zq rfl ?_;simp only[qc];simp(disch:=first|omega|(simp only[aq];omega)|simp only[ap,Nat.reduceAdd]) only[go_sem,true_and];refine ab h1 rfl ?_;simp(disch:=first|omega|(simp only[aq];omega)|simp only[ap,Nat.reduceAdd]) only[go_sem,true_and];refine vq [.sc (.bool (!gA k ln ns cl lv))] ?_ ?_
 ·unfold gA
  repeat' (first|(with_reducible first|refine ac ?_|refine ab ‹_› rfl ?_|refine ai (λhbr=>?_) λhbr=>?_)|simp(disch:=first|omega|(simp only[aq];omega)|simp only[ap,Nat.reduceAdd]) only[go_sem,true_and])
  all_goals first
   |(refine bb ?_;simp[*];done)
   |(refine bb ?_;simp_all;done)
   |(refine bb ?_;have hz:lv.length=0:=by omega
     rw[QD,hz];simp[*];done)
   |(refine bb ?_;grind)
   |skip
 simp only[oG];cases hA:gA k ln ns cl lv
 ·repeat' (first|(with_reducible first|refine ac ?_|refine ab ‹_› rfl ?_|refine ai (λhbr=>?_) λhbr=>?_)|simp(disch:=first|omega|(simp only[aq];omega)|simp only[ap,Nat.reduceAdd]) only[go_sem,true_and])
  all_goals exact bo rfl
 rw[Bool.true_and];simp(disch:=first|omega|(simp only[aq];omega)|simp only[ap,Nat.reduceAdd]) only[go_sem,true_and];refine vq [.sc (.bool (!gB k c e ps.length lv.length))] ?_ ?_
 ·unfold gB
  repeat' (first|(with_reducible first|refine ac ?_|refine ab ‹_› rfl ?_|refine ai (λhbr=>?_) λhbr=>?_)|simp(disch:=first|omega|(simp only[aq];omega)|simp only[ap,Nat.reduceAdd]) only[go_sem,true_and])
  all_goals first
   |(refine bb ?_;simp[*];done)
   |(refine bb ?_;simp_all;done)
   |(refine bb ?_;have hz:lv.length=0:=by omega
     rw[QD,hz];simp[*];done)
   |(refine bb ?_;grind)
   |skip
 simp only[oS];cases hB:gB k c e ps.length lv.length
 ·repeat' (first|(with_reducible first|refine ac ?_|refine ab ‹_› rfl ?_|refine ai (λhbr=>?_) λhbr=>?_)|simp(disch:=first|omega|(simp only[aq];omega)|simp only[ap,Nat.reduceAdd]) only[go_sem,true_and])
  all_goals exact bo rfl
 rw[Bool.true_and]
 have hp0:k≠4->ps.length=0:=by
  intro h4;unfold gB at hB;simp only[Bool.and_eq_true,Bool.or_eq_true,decide_eq_true_eq]at hB;exact hB.2.2.resolve_left h4
 have hp1:k≠4->bP (tJ n ps) ps.length=true:=λh=>by rw[hp0 h];rfl
 simp(disch:=first|omega|(simp only[aq];omega)|simp only[ap,Nat.reduceAdd]) only[go_sem,true_and];refine di (λhk5=>?_) (λhk5=>?_)
 ·rw[hp1 (by omega),Bool.and_true];unfold gC;rw[if_pos hk5]
  repeat' (first|(with_reducible first|refine ac ?_|refine ab ‹_› rfl ?_|refine ai (λhbr=>?_) λhbr=>?_)|simp(disch:=first|omega|(simp only[aq];omega)|simp only[ap,Nat.reduceAdd]) only[go_sem,true_and])
  all_goals first
   |(refine bo ?_;simp[*];done)
   |(refine bo ?_;simp_all;done)
   |(refine bo ?_;grind)
   |skip
 simp(disch:=first|omega|(simp only[aq];omega)|simp only[ap,Nat.reduceAdd]) only[go_sem,true_and];refine di (λhk0=>?_) (λhk0=>?_)
 ·rw[hp1 (by omega),Bool.and_true];unfold gC;rw[if_neg hk5,if_pos hk0]
  repeat' (first|(with_reducible first|refine ac ?_|refine ab ‹_› rfl ?_|refine ai (λhbr=>?_) λhbr=>?_)|simp(disch:=first|omega|(simp only[aq];omega)|simp only[ap,Nat.reduceAdd]) only[go_sem,true_and])
  all_goals first
   |(refine bo ?_;simp[*];done)
   |(refine bo ?_;simp_all;done)
   |(refine bo ?_;grind)
   |skip
 unfold gC;rw[if_neg hk5,if_neg hk0];simp(disch:=first|omega|(simp only[aq];omega)|simp only[ap,Nat.reduceAdd]) only[go_sem,true_and];refine vq [.sc (.bool (decide (k=4)&&decide (0<its.length)))] ?_ ?_
 ·repeat' (first|(with_reducible first|refine ac ?_|refine ab ‹_› rfl ?_|refine ai (λhbr=>?_) λhbr=>?_)|simp(disch:=first|omega|(simp only[aq];omega)|simp only[ap,Nat.reduceAdd]) only[go_sem,true_and])
  all_goals first
   |(refine bb ?_;simp[*];done)
   |(refine bb ?_;simp_all;done)
   |(refine bb ?_;have hz:lv.length=0:=by omega
     rw[QD,hz];simp[*];done)
   |(refine bb ?_;grind)
   |skip
 simp only[nT];by_cases hk4:k=4/\0<its.length
 ·rw[if_pos hk4.1,decide_eq_true hk4.1,decide_eq_true hk4.2,decide_eq_false (show¬its.length=0 by omega)]
  repeat' (first|(with_reducible first|refine ac ?_|refine ab ‹_› rfl ?_|refine ai (λhbr=>?_) λhbr=>?_)|simp(disch:=first|omega|(simp only[aq];omega)|simp only[ap,Nat.reduceAdd]) only[go_sem,true_and])
  all_goals exact bo rfl
 have e4:(decide (k=4)&&decide (0<its.length))=false:=by rw[<-Bool.decide_and,decide_eq_false hk4]
 have e5:(if k=4 then decide (its.length=0)else bP (λj=>dd k lv.length (its.getD j default)) its.length)=bP (λj=>dd k lv.length (its.getD j default)) its.length:=by
  split
  ·have:its.length=0:=by omega
   rw[this];rfl
  ·rfl
 rw[e4,e5];simp(disch:=first|omega|(simp only[aq];omega)|simp only[ap,Nat.reduceAdd]) only[go_sem,true_and];refine lp (λi:Nat=>[.sc (.int .i64 i)]) (λi=>i<=its.length/\bP (λj=>dd k lv.length (its.getD j default)) i=true) (λi=>its.length-i) 0 rfl ⟨Nat.zero_le _,rfl⟩ ?_;rintro i ⟨hi,ha⟩;simp only[nH];by_cases hlt:i<its.length
 ·have h8i:=h8 i;have h9i:=h9 i
  repeat' (first|(with_reducible first|refine ac ?_|refine ab ‹_› rfl ?_|refine ai (λhbr=>?_) λhbr=>?_)|simp(disch:=first|omega|(simp only[aq];omega)|simp only[ap,Nat.reduceAdd]) only[go_sem,n8,cM,au])
  all_goals first
   |omega
   |exact bo (by rw[df (p:=λj=>dd k lv.length (its.getD j default)) hlt (by(first|(simp[-List.getD_eq_getElem?_getD,dd, *];done)|(simp_all[-List.getD_eq_getElem?_getD,dd];done)|(simp[-List.getD_eq_getElem?_getD,dd, *];omega)|(simp_all[-List.getD_eq_getElem?_getD,dd];omega)|omega)),Bool.false_and])
   |exact bo (by rw[df (p:=λj=>dd k lv.length (its.getD j default)) hlt (by grind [dd]),Bool.false_and])
   |exact⟨i+1,rfl,⟨by omega,cz ha (by(first|(simp[-List.getD_eq_getElem?_getD,dd, *];done)|(simp_all[-List.getD_eq_getElem?_getD,dd];done)|(simp[-List.getD_eq_getElem?_getD,dd, *];omega)|(simp_all[-List.getD_eq_getElem?_getD,dd];omega)|omega))⟩,by omega⟩
   |skip
 obtain rfl:i=its.length:=by omega
 rw[ha,Bool.true_and];simp(disch:=first|omega|(simp only[aq];omega)|simp only[ap,Nat.reduceAdd]) only[go_sem,true_and];refine di (λhx=>absurd hx (by omega)) (λ_=>?_);simp(disch:=first|omega|(simp only[aq];omega)|simp only[ap,Nat.reduceAdd]) only[go_sem,true_and];refine lp (λi:Nat=>[.sc (.int .i64 i)]) (λi=>i<=ps.length/\bP (tJ n ps) i=true) (λi=>ps.length-i) 0 rfl ⟨Nat.zero_le _,rfl⟩ ?_;rintro i ⟨hi2,ha2⟩;simp only[nY];by_cases hlt2:i<ps.length
 ·rcases n with _|m
  ·repeat' (first|(with_reducible first|refine ac ?_|refine ab ‹_› rfl ?_|refine ai (λhbr=>?_) λhbr=>?_)|simp(disch:=first|omega|(simp only[aq];omega)|simp only[ap,Nat.reduceAdd]) only[go_sem,true_and])
   all_goals first
    |omega
    |exact bo (by rw[df (p:=tJ 0 ps) hlt2 rfl])
    |skip
  ·have hm:=aG hlt2;have hc:=ih m rfl _ (b6 _ hm);have hk:tJ (m+1) ps i=gZ m (ps.getD i default):=rfl;have hix:d6 8 (some (.sl 28 8 (ps.map aj))) (some (.sc (.int .i64 (i:Int))))=some (aj (ps.getD i default)):=by rw[py (by omega) (by omega),Int.toNat_natCast]
   have hs:((m+1:Nat):Int)-1=(m:Int):=by omega
   generalize ps.getD i default=x at hc hix hk;generalize gZ m x=b at hc hk;obtain⟨x0,x1,x2,x3,x4,x5,x6,x7⟩:=x;simp only[aj,af,av]at hc hix;cases b
   ·repeat' (first|(with_reducible first|refine ac ?_|refine ab ‹_› rfl ?_|refine ai (λhbr=>?_) λhbr=>?_)|simp(disch:=first|omega|(simp only[aq];omega)|simp only[ap,Nat.reduceAdd]) only[go_sem,hix,hs])
    all_goals first
     |omega
     |exact bo (by rw[df (p:=tJ (m+1) ps) hlt2 hk])
     |skip
   ·repeat' (first|(with_reducible first|refine ac ?_|refine ab ‹_› rfl ?_|refine ai (λhbr=>?_) λhbr=>?_)|simp(disch:=first|omega|(simp only[aq];omega)|simp only[ap,Nat.reduceAdd]) only[go_sem,hix,hs])
    all_goals first
     |omega
     |exact⟨i+1,rfl,⟨by omega,cz ha2 hk⟩,by omega⟩
     |skip
 ·obtain rfl:i=ps.length:=by omega
  repeat' (first|(with_reducible first|refine ac ?_|refine ab ‹_› rfl ?_|refine ai (λhbr=>?_) λhbr=>?_)|simp(disch:=first|omega|(simp only[aq];omega)|simp only[ap,Nat.reduceAdd]) only[go_sem,true_and])
  all_goals first|omega|exact bo ha2|skip
theorem JO:∀n,n<=1000->U1 n
 |0,h=>Db 0 h λm e=>by omega
 |n+1,h=>Db (n+1) h λm e=>by obtain rfl:n=m:=by omega
                             exact JO n (by omega)
def Pd(n:Nat):Prop:=∀v,ck v<=1000000000->gZ n v=true->aI Try.prog 62 [(true,aj v)] [(false,[.sc (.int .i64 (rG n v))],true)]
theorem Au(n:Nat)(hn:n<=3)(ih:∀m,n=m+1->Pd m):Pd n:=by
 rintro⟨k,its,ps,ns,cl,lv,c,e⟩ hw hv;have hb:=rU hw;have hbd:((rG n (.mk k its ps ns cl lv c e):Nat):Int)<=3000000:=by have:=Lh n hn _ hv;omega
 have h1:=gX k its ps ns cl lv c e hb;obtain⟨b1,b2,b3,b4,b5,b6⟩:=hb;have hlen:=AN (k:=k) b1 b2;rw[Ii]at hbd ⊢;rw[eI]at hv;have hkid:=(Bool.and_eq_true _ _▸hv).2;generalize hln:dX k its.length ps.length=ln at *;simp only[aj,af,av]at h1 ⊢;refine ah Try.func62 uz rfl ?_;simp only[lV];simp(disch:=first|omega|(simp only[aq];omega)|simp only[ap,Nat.reduceAdd]) only[go_sem,true_and];refine ab h1 rfl ?_;simp(disch:=first|omega|(simp only[aq];omega)|simp only[ap,Nat.reduceAdd]) only[go_sem,true_and];refine lp (λi:Nat=>[.sc (.int .i64 i),.sc (.int .i64 (ln+(bg (jY n) (ps.take i):Nat)))]) (λi=>i<=ps.length) (λi=>ps.length-i) 0 (by simp[gL,bg]) (Nat.zero_le _) ?_;intro i hi;simp only[kl];have hs1:=tR (jY n) ps i;by_cases hlt:i<ps.length
 ·have hs2:=tR (jY n) ps (i+1);have hm:=aG hlt;rcases n with _|m
  ·exact absurd (aV.1 hkid i hlt) (by show¬false=true;decide)
  ·have hk:gZ m (ps.getD i default)=true:=aV.1 hkid i hlt;have hc:=ih m rfl _ (b6 _ hm) hk;have hq:jY (m+1) (ps.getD i default)=rG m (ps.getD i default):=rfl;have hs3:=xT (jY (m+1)) hlt;have hix:d6 8 (some (.sl 28 8 (ps.map aj))) (some (.sc (.int .i64 (i:Int))))=some (aj (ps.getD i default)):=by rw[py (by omega) (by omega),Int.toNat_natCast]
   generalize ps.getD i default=x at hc hix hq hs3;rw[hq]at hs3;generalize rG m x=y at hc hs3;obtain⟨x0,x1,x2,x3,x4,x5,x6,x7⟩:=x;simp only[aj,af,av]at hc hix
   repeat' (first|(with_reducible first|refine ac ?_|refine ab ‹_› rfl ?_|refine ai (λhbr=>?_) λhbr=>?_)|simp(disch:=first|omega|(simp only[aq];omega)|simp only[ap,Nat.reduceAdd]) only[go_sem,hix])
   all_goals first
    |omega
    |exact⟨i+1,by congr 4;omega,by omega,by omega⟩
    |skip
 ·obtain rfl:i=ps.length:=by omega
  rw[List.take_length]at*
  repeat' (first|(with_reducible first|refine ac ?_|refine ab ‹_› rfl ?_|refine ai (λhbr=>?_) λhbr=>?_)|simp(disch:=first|omega|(simp only[aq];omega)|simp only[ap,Nat.reduceAdd]) only[go_sem,true_and])
  all_goals first|omega|exact Lg (by omega)|skip
theorem J4:∀n,n<=3->Pd n
 |0,h=>Au 0 h λm e=>by omega
 |n+1,h=>Au (n+1) h λm e=>by obtain rfl:n=m:=by omega
                             exact J4 n (by omega)
theorem eN(v:aX)(hw:ck v<=1000000000):aI Try.prog 24 [(true,aj v)] [(false,[.sc (.bool (cd v))],true)]:=by
 have h1:=JO 3 (by omega) v hw;rw[show((3:Nat):Int)=3 from rfl]at h1;have h2:=J4 3 (by omega) v hw;unfold cd;generalize rG 3 v=y at *;generalize gZ 3 v=b at *;obtain⟨k,its,ps,ns,cl,lv,c,e⟩:=v;simp only[aj,af,av]at h1 h2 ⊢;refine ah Try.func24 rI rfl ?_;simp only[kb];cases b
 ·repeat' (first|(with_reducible first|refine ac ?_|refine ab ‹_› rfl ?_|refine ai (λhbr=>?_) λhbr=>?_)|simp(disch:=first|omega|(simp only[aq];omega)|simp only[ap,Nat.reduceAdd]) only[go_sem,true_and])
  all_goals exact bo rfl
 ·have h3:=h2 rfl
  repeat' (first|(with_reducible first|refine ac ?_|refine ab ‹_› rfl ?_|refine ai (λhbr=>?_) λhbr=>?_)|simp(disch:=first|omega|(simp only[aq];omega)|simp only[ap,Nat.reduceAdd]) only[go_sem,true_and])
  all_goals exact bo rfl
def rK:List aP:=[]
def sY:List (Nat×Nat×Bool×List Nat):=[]
def kM:UP:=.f<|.i 4<|.cl 68 [(true,[9,8,7,6,5,4,3,2]),(false,[0])] aD<|.i 3<|.b .leq 1 0<|.ite 0 (.sel [5,6,7,8,9,10,11,12]<|.cl 69 [(true,[7,6,5,4,3,2,1,0])] aD<|.ite 0 (.cl 70 [(true,[8,7,6,5,4,3,2,1])] aD<|.i 200<|.b .leq 1 0<|.c 0<|.r 0)<|.f<|.c 0<|.r 0)<|.f<|.f<|.c 0<|.r 0
theorem rP:aR Try.prog 39 Try.f39 cV rK sY=some ([(true,8)],kM):=by kernel_rfl
def zb:List aP:=[⟨3000003,2,⟨[aa 11 12,aa 10 10,aa 9 2,aa 3 13,aa 2 8,al 1 0 0 0,(0,.p true [.d 0,.d 1,.d 2,.d 3,.d 4,.d 5,.d 6,.d 7])],[(0,.var 0 28 [.d 0,.d 1,.d 2,.d 3,.d 4,.d 5,.d 6,.d 7])],1,1,14,[]⟩,[]⟩]
def zj:List (Nat×Nat×Bool×List Nat):=[]
def m9:UP:=.b .lss 1 3<|.ite 0 (.z 2<|.x 8 6 2<|.i 0<|.i 0<|.i 0<|.sel [3,4,5,6,7,8,9,10,12,13]<|.cl 70 [(true,[7,6,5,4,3,2,1,0])] aD<|.a 9 0<|.i 1<|.a 12 0<|.jump 0 [0,2])<|.c 1<|.r 1
def nL:UP:=.i 0<|.cl 19 [(true,[8,7,6,5,4,3,2,1])] aD<|.l 7<|.i 0<|.sel [0,1,2,9]<|.loop [0,2] m9
theorem xC:aR Try.prog 70 Try.f70 cV zb zj=some ([(true,8)],nL):=by kernel_rfl
def rR:List aP:=[]
def sL:List (Nat×Nat×Bool×List Nat):=[]
def ka:UP:=.f<|.i 1<|.e 9 0<|.ite 0 (.t<|.t<|.c 0<|.r 0)<|.i 2<|.e 11 0<|.ite 0 (.t<|.c 0<|.r 0)<|.i 3<|.e 13 0<|.c 0<|.r 0
theorem rB:aR Try.prog 21 Try.f21 cV rR sL=some ([(true,8)],ka):=by kernel_rfl
def wd:List aP:=[]
def wD:List (Nat×Nat×Bool×List Nat):=[]
def mJ:UP:=.i 0<|.i 5<|.e 9 0<|.ite 0 (.i 1<|.c 0<|.r 0)<|.l 9<|.l 9<|.a 1 0<|.c 0<|.r 0
theorem wJ:aR Try.prog 19 Try.f19 cV wd wD=some ([(true,8)],mJ):=by kernel_rfl
def zG:List aP:=[⟨3000005,2,⟨[aa 13 15,aa 12 13,aa 11 2,aa 9 12,aa 5 16,aa 4 9,al 2 0 0 0,(0,.p true [.d 0,.d 1,.d 2,.d 3,.d 4,.d 5,.d 6,.d 7]),aa 1 8],[(0,.var 0 28 [.d 0,.d 1,.d 2,.d 3,.d 4,.d 5,.d 6,.d 7])],1,1,17,[(12,false)]⟩,[]⟩]
def zt:List (Nat×Nat×Bool×List Nat):=[]
def ol:UP:=.b .lss 1 3<|.ite 0 (.z 2<|.x 8 7 2<|.i 0<|.i 0<|.i 0<|.i 1<|.b .sub 18 0<|.sel [0,5,6,7,8,9,10,11,12,14,15]<|.cl 68 [(true,[8,7,6,5,4,3,2,1]),(false,[0])] aD<|.i 1<|.a 0 1<|.po (.mm true 12 0)<|.i 1<|.a 15 0<|.jump 0 [0,2])<|.c 1<|.r 1
def k8:UP:=.i 0<|.i 0<|.i 0<|.e 3 0<|.ite 0 (.i 1<|.c 0<|.r 0)<|.l 10<|.i 0<|.sel [0,1,4,6,12]<|.loop [0,2] ol
theorem pZ:aR Try.prog 68 Try.f68 cV zG zt=some ([(true,8),(false,1)],k8):=by kernel_rfl
def px:List aP:=[⟨3000004,1,⟨[aa 11 13,aa 10 11,aa 9 2,aa 7 10,aa 2 8,al 1 0 0 0,(0,.p true [.d 0,.d 1,.d 2,.d 3,.d 4,.d 5,.d 6,.d 7])],[(0,.var 0 28 [.d 0,.d 1,.d 2,.d 3,.d 4,.d 5,.d 6,.d 7])],1,1,14,[(10,false),(8,false)]⟩,[]⟩]
def pD:List (Nat×Nat×Bool×List Nat):=[]
def gM:UP:=.b .lss 0 2<|.ite 0 (.z 1<|.x 8 4 1<|.i 0<|.i 0<|.i 0<|.sel [3,4,5,6,7,8,9,10,12]<|.cl 69 [(true,[7,6,5,4,3,2,1,0])] aD<|.n 0<|.ite 0 (.f<|.c 0<|.r 0)<|.i 1<|.a 11 0<|.jump 0 [0])<|.t<|.c 0<|.r 0
def iF:UP:=.f<|.cl 91 [(true,[8,7,6,5,4,3,2,1])] aD<|.n 0<|.ite 0 (.f<|.c 0<|.r 0)<|.l 8<|.i 0<|.sel [0,1,10]<|.loop [0] gM
theorem pP:aR Try.prog 69 Try.f69 cV px pD=some ([(true,8)],iF):=by kernel_rfl
def pq:List aP:=[⟨2000003,5,⟨[aa 187 35,aa 160 36,al 7 1 1 0,aa 148 34,aa 147 33,aa 146 31,aa 145 1,aa 143 30,aa 128 29,aa 93 28,aa 80 27,aa 54 26,aa 53 25,aa 52 23,aa 51 3,aa 49 22,aa 33 21,aa 3 9,aa 2 8,al 1 0 0 0,(0,.p true [.d 0,.d 1,.d 2,.d 3,.d 4,.d 5,.d 6,.d 7])],[(0,.var 0 28 [.d 0,.d 1,.d 2,.d 3,.d 4,.d 5,.d 6,.d 7]),(1,.var 1 42 [.d 37,.d 38,.d 39])],2,2,40,[(34,true),(30,false),(29,false),(28,false),(27,false),(26,false),(22,false),(21,false),(18,false),(15,false),(13,false),(11,false),(8,false)]⟩,[]⟩,⟨3000021,1,⟨[aa 147 33,aa 146 31,aa 145 1,aa 143 30,aa 128 29,aa 93 28,aa 80 27,aa 54 26,aa 53 25,aa 52 23,aa 51 3,aa 49 22,aa 33 21,aa 3 9,aa 2 8,al 1 0 0 0,(0,.p true [.d 0,.d 1,.d 2,.d 3,.d 4,.d 5,.d 6,.d 7])],[(0,.var 0 28 [.d 0,.d 1,.d 2,.d 3,.d 4,.d 5,.d 6,.d 7])],1,1,34,[(30,false),(29,false),(28,false),(27,false),(26,false),(22,false),(21,false),(18,false),(15,false),(13,false),(11,false),(8,false)]⟩,[]⟩,⟨18,1,⟨[aa 143 30,aa 128 29,aa 93 28,aa 80 27,aa 54 26,aa 53 25,aa 52 23,aa 51 3,aa 49 22,aa 33 21,aa 3 9,aa 2 8,al 1 0 0 0,(0,.p true [.d 0,.d 1,.d 2,.d 3,.d 4,.d 5,.d 6,.d 7])],[(0,.var 0 28 [.d 0,.d 1,.d 2,.d 3,.d 4,.d 5,.d 6,.d 7])],1,1,31,[(29,false),(28,false),(27,false),(26,false),(22,false),(21,false),(18,false),(15,false),(13,false),(11,false),(8,false)]⟩,[]⟩,⟨16,1,⟨[aa 128 29,aa 93 28,aa 80 27,aa 54 26,aa 53 25,aa 52 23,aa 51 3,aa 49 22,aa 33 21,aa 3 9,aa 2 8,al 1 0 0 0,(0,.p true [.d 0,.d 1,.d 2,.d 3,.d 4,.d 5,.d 6,.d 7])],[(0,.var 0 28 [.d 0,.d 1,.d 2,.d 3,.d 4,.d 5,.d 6,.d 7])],1,1,30,[(28,false),(27,false),(26,false),(22,false),(21,false),(18,false),(15,false),(13,false),(11,false),(8,false)]⟩,[]⟩,⟨14,1,⟨[aa 93 28,aa 80 27,aa 54 26,aa 53 25,aa 52 23,aa 51 3,aa 49 22,aa 33 21,aa 3 9,aa 2 8,al 1 0 0 0,(0,.p true [.d 0,.d 1,.d 2,.d 3,.d 4,.d 5,.d 6,.d 7])],[(0,.var 0 28 [.d 0,.d 1,.d 2,.d 3,.d 4,.d 5,.d 6,.d 7])],1,1,29,[(27,false),(26,false),(22,false),(21,false),(18,false),(15,false),(13,false),(11,false),(8,false)]⟩,[]⟩,⟨12,1,⟨[aa 80 27,aa 54 26,aa 53 25,aa 52 23,aa 51 3,aa 49 22,aa 33 21,aa 3 9,aa 2 8,al 1 0 0 0,(0,.p true [.d 0,.d 1,.d 2,.d 3,.d 4,.d 5,.d 6,.d 7])],[(0,.var 0 28 [.d 0,.d 1,.d 2,.d 3,.d 4,.d 5,.d 6,.d 7])],1,1,28,[(26,false),(22,false),(21,false),(18,false),(15,false),(13,false),(11,false),(8,false)]⟩,[]⟩,⟨3000007,1,⟨[aa 53 25,aa 52 23,aa 51 3,aa 49 22,aa 33 21,aa 3 9,aa 2 8,al 1 0 0 0,(0,.p true [.d 0,.d 1,.d 2,.d 3,.d 4,.d 5,.d 6,.d 7])],[(0,.var 0 28 [.d 0,.d 1,.d 2,.d 3,.d 4,.d 5,.d 6,.d 7])],1,1,26,[(22,false),(21,false),(18,false),(15,false),(13,false),(11,false),(8,false)]⟩,[]⟩,⟨4,1,⟨[aa 49 22,aa 33 21,aa 3 9,aa 2 8,al 1 0 0 0,(0,.p true [.d 0,.d 1,.d 2,.d 3,.d 4,.d 5,.d 6,.d 7])],[(0,.var 0 28 [.d 0,.d 1,.d 2,.d 3,.d 4,.d 5,.d 6,.d 7])],1,1,23,[(21,false),(18,false),(15,false),(13,false),(11,false),(8,false)]⟩,[]⟩]
def pJ:List (Nat×Nat×Bool×List Nat):=[]
def ef:UP:=.i 1<|.a 7 0<|.jump 1 [0]
def gR:UP:=.b .lss 0 2<|.ite 0 (.join 5 ef<|.z 1<|.x 3 10 1<|.i 0<|.i 0<|.s #[]<|.sel [3,4,5,10,11,12,13,14,15,16,17]<|.cl 21 [(true,[10,9,8,7,6,5,4,3])] aD<|.n 0<|.ite 0 (.t<|.f<|.c 0<|.r 0)<|.sel [2,3,4,7,12]<|.cl 101 [(false,[4]),(true,[2,1,0])] aD<|.n 0<|.ite 0 (.f<|.c 0<|.r 0)<|.l 5<|.i 0<|.b .gtr 1 0<|.ite 0 (.sel [3,5,6,7,8]<|.cl 55 [(true,[3,2,1])] aD<|.n 0<|.ite 0 (.i 1<|.b .neq 5 0<|.ite 0 (.t<|.t<|.f<|.c 0<|.r 0)<|.i 1<|.b .lss 8 0<|.ite 0 (.t<|.f<|.c 0<|.r 0)<|.l 10<|.b .gtr 10 0<|.ite 0 (.f<|.c 0<|.r 0)<|.jump 2 [0,8,11,10,9])<|.f<|.jump 2 [0,3,6,5,4])<|.f<|.f<|.jump 2 [0,5,9,8,7])<|.t<|.c 0<|.r 0
def gz:UP:=.ite 0 (.f<|.c 0<|.r 0)<|.l 10<|.i 0<|.sel [0,1,6,7,8,9,10,11,12,13]<|.loop [0] gR
def gE:UP:=.ite 0 (.f<|.c 0<|.r 0)<|.join 1 gz<|.i 0<|.e 11 0<|.ite 0 (.l 11<|.i 0<|.b .gtr 1 0<|.ite 0 (.t<|.jump 1 [0])<|.l 11<|.i 0<|.b .gtr 1 0<|.jump 1 [0])<|.f<|.jump 1 [0]
def gH:UP:=.ite 0 (.f<|.c 0<|.r 0)<|.join 1 gE<|.i 5<|.e 10 0<|.ite 0 (.l 10<|.i 0<|.b .gtr 1 0<|.ite 0 (.t<|.t<|.t<|.t<|.t<|.jump 1 [0])<|.l 11<|.i 0<|.b .gtr 1 0<|.ite 0 (.t<|.t<|.t<|.t<|.jump 1 [0])<|.i (-999)<|.b .lss 12 0<|.ite 0 (.t<|.t<|.t<|.jump 1 [0])<|.i 99999<|.b .gtr 14 0<|.ite 0 (.t<|.t<|.jump 1 [0])<|.i 0<|.b .lss 15 0<|.ite 0 (.t<|.jump 1 [0])<|.i 99999<|.b .gtr 17 0<|.jump 1 [0])<|.f<|.jump 1 [0]
def gP:UP:=.ite 0 (.f<|.c 0<|.r 0)<|.join 1 gH<|.i 5<|.b .neq 9 0<|.ite 0 (.i 0<|.b .neq 5 0<|.ite 0 (.t<|.jump 1 [0])<|.i 0<|.b .neq 6 0<|.jump 1 [0])<|.f<|.jump 1 [0]
def gN:UP:=.b .lss 0 2<|.ite 0 (.z 1<|.x 1 10 1<|.m 0<|.i 60<|.b .gtr 1 0<|.ite 0 (.f<|.c 0<|.r 0)<|.i 1<|.a 6 0<|.jump 0 [0])<|.sel [6,7,8,9,10,11,12,13]<|.join 1 gP<|.l 2<|.i 0<|.b .gtr 1 0<|.ite 0 (.i 2<|.b .neq 11 0<|.ite 0 (.t<|.jump 1 [0])<|.l 10<|.i 0<|.b .gtr 1 0<|.ite 0 (.i 4<|.b .neq 16 0<|.jump 1 [0])<|.f<|.jump 1 [0])<|.f<|.l 9<|.i 0<|.b .gtr 1 0<|.ite 0 (.i 4<|.b .neq 15 0<|.jump 1 [0])<|.f<|.jump 1 [0]
def gS:UP:=.ite 0 (.f<|.c 0<|.r 0)<|.l 6<|.i 0<|.loop [0] gN
def ii:UP:=.f<|.cl 19 [(true,[8,7,6,5,4,3,2,1])] aD<|.i 0<|.b .lss 10 0<|.ite 0 (.t<|.t<|.t<|.t<|.f<|.c 0<|.r 0)<|.i 5<|.b .gtr 12 0<|.ite 0 (.t<|.t<|.t<|.f<|.c 0<|.r 0)<|.i 40<|.b .gtr 5 0<|.ite 0 (.t<|.t<|.f<|.c 0<|.r 0)<|.i 3<|.sel [0,7,9,10,11,12,13,14,15,16]<|.cl 100 [(false,[5]),(false,[0])] aD<|.n 0<|.ite 0 (.t<|.f<|.c 0<|.r 0)<|.i 20<|.cl 100 [(false,[7]),(false,[0])] aD<|.n 0<|.ite 0 (.f<|.c 0<|.r 0)<|.sel [6,7,8,9,10,11,12,13,14]<|.join 1 gS<|.l 5<|.i 0<|.b .gtr 1 0<|.ite 0 (.l 8<|.b .neq 0 4<|.ite 0 (.t<|.jump 0 [0])<|.sel [10]<|.cl 84 [(false,[0])] aD<|.jump 0 [0])<|.f<|.jump 0 [0]
theorem pC:aR Try.prog 91 Try.f91 cV pq pJ=some ([(true,8)],ii):=by kernel_rfl
theorem jM(k:Int)(its:List It)(ps:List aX)(ns cl lv:List ByteArray)(c e:Int)(hb:RI its ps ns cl lv):aI Try.prog 19 [(true,aj (.mk k its ps ns cl lv c e))] [(false,[.sc (.int .i64 (dX k its.length ps.length))],true)]:=by
 obtain⟨b1,b2,-,-,-,-⟩:=hb;simp only[aj,af,av];refine ah Try.func19 wJ rfl ?_;simp only[mJ];unfold dX
 repeat' (first|(with_reducible first|refine ac ?_|refine ab ‹_› rfl ?_|refine ai (λhbr=>?_) λhbr=>?_)|simp(disch:=first|omega|(simp only[aq];omega)|simp only[ap,Nat.reduceAdd]) only[go_sem,true_and])
 ·rw[if_pos ‹_›];rfl
 ·rw[if_neg ‹_›];rfl
def LO(k:Int):Bool:=decide (k=1)||(decide (k=2)||decide (k=3))
theorem Ja(v:aX)(k:Int)(hk:∃its ps ns cl lv c e,v=.mk k its ps ns cl lv c e):aI Try.prog 21 [(true,aj v)] [(false,[.sc (.bool (LO k))],true)]:=by
 obtain⟨its,ps,ns,cl,lv,c,e,rfl⟩:=hk;simp only[aj,af,av];refine ah Try.func21 rB rfl ?_;simp only[ka];unfold LO
 repeat' (first|(with_reducible first|refine ac ?_|refine ab ‹_› rfl ?_|refine ai (λhbr=>?_) λhbr=>?_)|simp(disch:=first|omega|(simp only[aq];omega)|simp only[ap,Nat.reduceAdd]) only[go_sem,true_and])
 all_goals exact bo (by simp[*])
theorem UT(n:Nat):decide (0<(n:Int))= !decide (n=0):=by rw[Bool.eq_iff_iff];simp;omega
def hA(k n:Int)(cl lv:List ByteArray):Bool:=decide (0<=k/\k<=5)&&(decide (n<=40)&&(iR cl 3&&iR lv 20))
def hB(n:Int)(ns:List ByteArray):Bool:=decide (ns.length=0)||(decide ((ns.length:Int)=n)&& !bP (yg ns) ns.length)
def hC(k:Int)(np nl:Nat):Bool:=(decide (nl=0)||decide (k=2))&&(decide (np=0)||decide (k=4))
def hD(k c e:Int):Bool:=decide (k=5)||(decide (c=0)&&decide (e=0))
def hE(k c e:Int)(ni nn:Nat):Bool:=!decide (k=5)||(decide (ni=0)&&(decide (nn=0)&&(decide (-999<=c/\c<=99999)&&decide (0<=e/\e<=99999))))
def hF(k:Int)(ni nc:Nat):Bool:=!decide (k=0)||(decide (ni=0)&&decide (nc=0))
def Hv(k:Int)(m:Nat)(x:It):Bool:=LO k&&(ry k x&&(decide (m=0)||(decide (x=bA)||(decide (x.den=1)&&decide (1<=x.num/\x.num<=(m:Int))))))
def hh(k n:Int)(its:List It)(np:Nat)(ns cl lv:List ByteArray)(c e:Int):Bool:=
 hA k n cl lv&&(hB n ns&&(bP (pi ns) ns.length&&(hC k np lv.length&&(hD k c e&&(hE k c e its.length ns.length&&(hF k its.length cl.length&&bP (λj=>Hv k lv.length (its.getD j default)) its.length))))))
theorem PT(k:Int)(m:Nat)(x:It):Hv k m x=(LO k&&dd k m x):=by
 unfold Hv dd;cases hv:ry k x
 ·rfl
 ·have:=sH hv;rw[show decide (x=bA)=decide (x.den=0)from by rw[Bool.eq_iff_iff,decide_eq_true_eq,decide_eq_true_eq];exact this]
theorem KB(b:Bool)(p:Nat->Bool)(n:Nat):bP (λj=>b&&p j) n=(decide (n=0)||(b&&bP p n)):=by
 cases n with
 |zero=>rfl
 |succ n=>
  rw[decide_eq_false (by omega),Bool.false_or];cases b
  ·rw[Bool.false_and];exact df (i:=0) (by omega) rfl
  ·simp only[Bool.true_and]
theorem Tp(k:Int)(its:List It)(np:Nat)(ns cl lv:List ByteArray)(c e:Int):hh k (dX k its.length np) its np ns cl lv c e=ur k its np ns cl lv c e:=by
 unfold hh ur;rw[show(λj=>Hv k lv.length (its.getD j default))=(λj=>LO k&&dd k lv.length (its.getD j default))from funext λj=>PT _ _ _,KB];unfold hA hB hC hD hE hF gA gB gC GM LO;have hl:=qZ k its.length np;have hz:k=0->(dX k its.length np=(its.length:Int)+np):=λh=>by unfold dX;rw[if_neg (by omega)]
 have hx1:its.length=0->bP (λj=>dd k lv.length (its.getD j default)) its.length=true:=λh=>by rw[h];rfl
 generalize hln:dX k its.length np=ln at *;generalize bP (λj=>dd k lv.length (its.getD j default)) its.length=x1 at hx1 ⊢;generalize bP (pi ns) ns.length=x2;generalize bP (yg ns) ns.length=x3;generalize iR cl 3=x4;generalize iR lv 20=x5;generalize ns.length=nn at *;generalize cl.length=nc at *;generalize lv.length=nl at *;generalize its.length=ni at *;cases x4
 ·simp
 cases x5
 ·simp
 cases x2
 ·simp
 rw[Bool.eq_iff_iff];by_cases k5:k=5
 ·subst k5;cases x1<;>cases x3<;>grind
 by_cases k0:k=0
 ·subst k0;cases x1<;>cases x3<;>grind
 by_cases k4:k=4
 ·subst k4;cases x1<;>cases x3<;>grind
 rw[if_neg k5,if_neg k0,if_neg k4];cases x1<;>cases x3<;>grind
set_option maxHeartbeats 4000000 in
theorem Qg(v:aX)(k:Int)(its:List It)(ps:List aX)(ns cl lv:List ByteArray)(c e:Int)(hve:v=.mk k its ps ns cl lv c e)(hb:RI its ps ns cl lv):aI Try.prog 91 [(true,aj v)] [(false,[.sc (.bool (ur k its ps.length ns cl lv c e))],true)]:=by
 have h0:=Ja v k ⟨_,_,_,_,_,_,_,hve⟩;subst hve;have h1:=jM k its ps ns cl lv c e hb;obtain⟨b1,b2,b3,b4,b5,b6⟩:=hb;have h2:=Jg 9 ns b3;have h3:=IJ 9 cl 3 b4;have h4:=IJ 9 lv 20 b5;have h8:=λi=>Me k (its.getD i default)
 have h9:=λi=>ke (its.getD i default)
 simp only[au]at h8 h9;rw[<-Tp];have hlen:=AN (k:=k) b1 b2;unfold hh;generalize hln:dX k its.length ps.length=ln at *;simp only[aj,af,av]at h0 h1 ⊢;refine ah Try.func91 pC rfl ?_;simp only[ii];simp(disch:=first|omega|(simp only[aq];omega)|simp only[ap,Nat.reduceAdd]) only[go_sem,true_and];refine ab h1 rfl ?_;have hA0:hA k ln cl lv=false->∀b,(hA k ln cl lv&&b)=false:=λh b=>by rw[h];rfl
 simp(disch:=first|omega|(simp only[aq];omega)|simp only[ap,Nat.reduceAdd]) only[go_sem,true_and];refine di (λhk1=>?_) (λhk1=>?_)
 ·repeat' (first|(with_reducible first|refine ac ?_|refine ab ‹_› rfl ?_|refine ai (λhbr=>?_) λhbr=>?_)|simp(disch:=first|omega|(simp only[aq];omega)|simp only[ap,Nat.reduceAdd]) only[go_sem,true_and])
  exact bo (hA0 (by unfold hA;rw[decide_eq_false (by omega)];rfl) _)
 simp(disch:=first|omega|(simp only[aq];omega)|simp only[ap,Nat.reduceAdd]) only[go_sem,true_and];refine di (λhk2=>?_) (λhk2=>?_)
 ·repeat' (first|(with_reducible first|refine ac ?_|refine ab ‹_› rfl ?_|refine ai (λhbr=>?_) λhbr=>?_)|simp(disch:=first|omega|(simp only[aq];omega)|simp only[ap,Nat.reduceAdd]) only[go_sem,true_and])
  exact bo (hA0 (by unfold hA;rw[decide_eq_false (by omega)];rfl) _)
 simp(disch:=first|omega|(simp only[aq];omega)|simp only[ap,Nat.reduceAdd]) only[go_sem,true_and];refine di (λhk3=>?_) (λhk3=>?_)
 ·repeat' (first|(with_reducible first|refine ac ?_|refine ab ‹_› rfl ?_|refine ai (λhbr=>?_) λhbr=>?_)|simp(disch:=first|omega|(simp only[aq];omega)|simp only[ap,Nat.reduceAdd]) only[go_sem,true_and])
  exact bo (hA0 (by unfold hA;rw[decide_eq_false (show¬ln<=40 by omega),Bool.false_and,Bool.and_false]) _)
 simp(disch:=first|omega|(simp only[aq];omega)|simp only[ap,Nat.reduceAdd]) only[go_sem,true_and];refine ab h3 rfl ?_;cases hx3:iR cl 3
 ·repeat' (first|(with_reducible first|refine ac ?_|refine ab ‹_› rfl ?_|refine ai (λhbr=>?_) λhbr=>?_)|simp(disch:=first|omega|(simp only[aq];omega)|simp only[ap,Nat.reduceAdd]) only[go_sem,true_and])
  exact bo (hA0 (by unfold hA;rw[hx3,Bool.false_and,Bool.and_false,Bool.and_false]) _)
 simp(disch:=first|omega|(simp only[aq];omega)|simp only[ap,Nat.reduceAdd]) only[go_sem,true_and];refine ab h4 rfl ?_;cases hx4:iR lv 20
 ·repeat' (first|(with_reducible first|refine ac ?_|refine ab ‹_› rfl ?_|refine ai (λhbr=>?_) λhbr=>?_)|simp(disch:=first|omega|(simp only[aq];omega)|simp only[ap,Nat.reduceAdd]) only[go_sem,true_and])
  exact bo (hA0 (by unfold hA;rw[hx4,Bool.and_false,Bool.and_false,Bool.and_false]) _)
 have hA1:hA k ln cl lv=true:=by unfold hA;rw[hx3,hx4,decide_eq_true (show 0<=k/\k<=5 by omega),decide_eq_true (show ln<=40 by omega)];rfl
 rw[hA1,Bool.true_and];clear hA0 hx3 hx4;simp(disch:=first|omega|(simp only[aq];omega)|simp only[ap,Nat.reduceAdd]) only[go_sem,true_and];refine vq [.sc (.bool (!hB ln ns))] ?_ ?_
 ·unfold hB
  repeat' (first|(with_reducible first|refine ac ?_|refine ab ‹_› rfl ?_|refine ai (λhbr=>?_) λhbr=>?_)|simp(disch:=first|omega|(simp only[aq];omega)|simp only[ap,Nat.reduceAdd]) only[go_sem,true_and])
  all_goals first
   |(refine bb ?_;simp[*];done)
   |(refine bb ?_;simp_all;done)
   |(refine bb ?_;grind)
   |skip
 simp only[gS];cases hxB:hB ln ns
 ·repeat' (first|(with_reducible first|refine ac ?_|refine ab ‹_› rfl ?_|refine ai (λhbr=>?_) λhbr=>?_)|simp(disch:=first|omega|(simp only[aq];omega)|simp only[ap,Nat.reduceAdd]) only[go_sem,true_and])
  all_goals exact bo rfl
 rw[Bool.true_and];simp(disch:=first|omega|(simp only[aq];omega)|simp only[ap,Nat.reduceAdd]) only[go_sem,true_and];refine lp (λi:Nat=>[.sc (.int .i64 i)]) (λi=>i<=ns.length/\bP (pi ns) i=true) (λi=>ns.length-i) 0 rfl ⟨Nat.zero_le _,rfl⟩ ?_;rintro i ⟨hi,ha⟩;simp only[gN];by_cases hlt:i<ns.length
 ·simp(disch:=first|omega|(simp only[aq];omega)|simp only[ap,Nat.reduceAdd]) only[go_sem,true_and];refine di (λhx=>?_) (λhx=>absurd (by omega) hx)
  repeat' (first|(with_reducible first|refine ac ?_|refine ab ‹_› rfl ?_|refine ai (λhbr=>?_) λhbr=>?_)|simp(disch:=first|omega|(simp only[aq];omega)|simp only[ap,Nat.reduceAdd]) only[go_sem,true_and])
  all_goals first
   |omega
   |exact bo (by rw[df (p:=pi ns) hlt (by(first|(simp[-List.getD_eq_getElem?_getD,pi, *];done)|(simp_all[-List.getD_eq_getElem?_getD,pi];done)|(simp[-List.getD_eq_getElem?_getD,pi, *];omega)|(simp_all[-List.getD_eq_getElem?_getD,pi];omega)|omega)),Bool.false_and])
   |exact⟨i+1,rfl,⟨by omega,cz ha (by(first|(simp[-List.getD_eq_getElem?_getD,pi, *];done)|(simp_all[-List.getD_eq_getElem?_getD,pi];done)|(simp[-List.getD_eq_getElem?_getD,pi, *];omega)|(simp_all[-List.getD_eq_getElem?_getD,pi];omega)|omega))⟩,by omega⟩
   |skip
 obtain rfl:i=ns.length:=by omega
 rw[ha,Bool.true_and];simp(disch:=first|omega|(simp only[aq];omega)|simp only[ap,Nat.reduceAdd]) only[go_sem,true_and];refine di (λhx=>absurd hx (by omega)) (λ_=>?_);simp(disch:=first|omega|(simp only[aq];omega)|simp only[ap,Nat.reduceAdd]) only[go_sem,true_and];refine vq [.sc (.bool (!hC k ps.length lv.length))] ?_ ?_
 ·unfold hC
  repeat' (first|(with_reducible first|refine ac ?_|refine ab ‹_› rfl ?_|refine ai (λhbr=>?_) λhbr=>?_)|simp(disch:=first|omega|(simp only[aq];omega)|simp only[ap,Nat.reduceAdd]) only[go_sem,true_and])
  all_goals first
   |(refine bb ?_;simp[*];done)
   |(refine bb ?_;simp_all;done)
   |(refine bb ?_;grind)
   |skip
 simp only[gP];cases hxC:hC k ps.length lv.length
 ·repeat' (first|(with_reducible first|refine ac ?_|refine ab ‹_› rfl ?_|refine ai (λhbr=>?_) λhbr=>?_)|simp(disch:=first|omega|(simp only[aq];omega)|simp only[ap,Nat.reduceAdd]) only[go_sem,true_and])
  all_goals exact bo rfl
 rw[Bool.true_and];simp(disch:=first|omega|(simp only[aq];omega)|simp only[ap,Nat.reduceAdd]) only[go_sem,true_and];refine vq [.sc (.bool (!hD k c e))] ?_ ?_
 ·unfold hD
  repeat' (first|(with_reducible first|refine ac ?_|refine ab ‹_› rfl ?_|refine ai (λhbr=>?_) λhbr=>?_)|simp(disch:=first|omega|(simp only[aq];omega)|simp only[ap,Nat.reduceAdd]) only[go_sem,true_and])
  all_goals first
   |(refine bb ?_;simp[*];done)
   |(refine bb ?_;simp_all;done)
   |(refine bb ?_;grind)
   |skip
 simp only[gH];cases hxD:hD k c e
 ·repeat' (first|(with_reducible first|refine ac ?_|refine ab ‹_› rfl ?_|refine ai (λhbr=>?_) λhbr=>?_)|simp(disch:=first|omega|(simp only[aq];omega)|simp only[ap,Nat.reduceAdd]) only[go_sem,true_and])
  all_goals exact bo rfl
 rw[Bool.true_and];simp(disch:=first|omega|(simp only[aq];omega)|simp only[ap,Nat.reduceAdd]) only[go_sem,true_and];refine vq [.sc (.bool (!hE k c e its.length ns.length))] ?_ ?_
 ·unfold hE
  repeat' (first|(with_reducible first|refine ac ?_|refine ab ‹_› rfl ?_|refine ai (λhbr=>?_) λhbr=>?_)|simp(disch:=first|omega|(simp only[aq];omega)|simp only[ap,Nat.reduceAdd]) only[go_sem,true_and])
  all_goals first
   |(refine bb ?_;simp[*];done)
   |(refine bb ?_;simp_all;done)
   |(refine bb ?_;grind)
   |(refine bb ?_
     rw[decide_eq_true (show k=5 by assumption),decide_eq_true (show its.length=0 by omega),decide_eq_true (show ns.length=0 by omega),decide_eq_true (show -999<=c/\c<=99999 by omega),show decide (0<=e/\e<=99999)= !decide (99999<e)from by rw[Bool.eq_iff_iff];simp;omega]
     simp;done)
   |skip
 simp only[gE];cases hxE:hE k c e its.length ns.length
 ·repeat' (first|(with_reducible first|refine ac ?_|refine ab ‹_› rfl ?_|refine ai (λhbr=>?_) λhbr=>?_)|simp(disch:=first|omega|(simp only[aq];omega)|simp only[ap,Nat.reduceAdd]) only[go_sem,true_and])
  all_goals exact bo rfl
 rw[Bool.true_and];simp(disch:=first|omega|(simp only[aq];omega)|simp only[ap,Nat.reduceAdd]) only[go_sem,true_and];refine vq [.sc (.bool (!hF k its.length cl.length))] ?_ ?_
 ·unfold hF
  repeat' (first|(with_reducible first|refine ac ?_|refine ab ‹_› rfl ?_|refine ai (λhbr=>?_) λhbr=>?_)|simp(disch:=first|omega|(simp only[aq];omega)|simp only[ap,Nat.reduceAdd]) only[go_sem,true_and])
  all_goals first
   |(refine bb ?_;simp[*];done)
   |(refine bb ?_;simp_all;done)
   |(refine bb ?_;grind)
   |(refine bb ?_
     rw[decide_eq_true (show k=0 by assumption),decide_eq_true (show its.length=0 by omega),UT]
     simp;done)
   |skip
 simp only[gz];cases hxF:hF k its.length cl.length
 ·repeat' (first|(with_reducible first|refine ac ?_|refine ab ‹_› rfl ?_|refine ai (λhbr=>?_) λhbr=>?_)|simp(disch:=first|omega|(simp only[aq];omega)|simp only[ap,Nat.reduceAdd]) only[go_sem,true_and])
  all_goals exact bo rfl
 rw[Bool.true_and];simp(disch:=first|omega|(simp only[aq];omega)|simp only[ap,Nat.reduceAdd]) only[go_sem,true_and];refine lp (λi:Nat=>[.sc (.int .i64 i)]) (λi=>i<=its.length/\bP (λj=>Hv k lv.length (its.getD j default)) i=true) (λi=>its.length-i) 0 rfl ⟨Nat.zero_le _,rfl⟩ ?_;rintro i ⟨hi2,ha2⟩;simp only[gR];by_cases hlt2:i<its.length
 ·have h8i:=h8 i;have h9i:=h9 i;cases hat:LO k
  ·rw[hat]at h0
   repeat' (first|(with_reducible first|refine ac ?_|refine ab ‹_› rfl ?_|refine ai (λhbr=>?_) λhbr=>?_)|simp(disch:=first|omega|(simp only[aq];omega)|simp only[ap,Nat.reduceAdd]) only[go_sem,ef,cM,au])
   all_goals first
    |omega
    |exact bo (by rw[df (p:=λj=>Hv k lv.length (its.getD j default)) hlt2 (by unfold Hv;rw[hat];rfl)])
    |skip
  ·rw[hat]at h0
   repeat' (first|(with_reducible first|refine ac ?_|refine ab ‹_› rfl ?_|refine ai (λhbr=>?_) λhbr=>?_)|simp(disch:=first|omega|(simp only[aq];omega)|simp only[ap,Nat.reduceAdd]) only[go_sem,ef,cM,au])
   all_goals first
    |omega
    |exact bo (by rw[df (p:=λj=>Hv k lv.length (its.getD j default)) hlt2 (by unfold Hv;rw[hat];(first|(simp[-List.getD_eq_getElem?_getD,true_and, *];done)|(simp_all[-List.getD_eq_getElem?_getD,true_and];done)|(simp[-List.getD_eq_getElem?_getD,true_and, *];omega)|(simp_all[-List.getD_eq_getElem?_getD,true_and];omega)|omega))])
    |exact bo (by rw[df (p:=λj=>Hv k lv.length (its.getD j default)) hlt2 (by grind [Hv])])
    |exact⟨i+1,rfl,⟨by omega,cz ha2 (by unfold Hv;rw[hat];(first|(simp[-List.getD_eq_getElem?_getD,true_and, *];done)|(simp_all[-List.getD_eq_getElem?_getD,true_and];done)|(simp[-List.getD_eq_getElem?_getD,true_and, *];omega)|(simp_all[-List.getD_eq_getElem?_getD,true_and];omega)|omega))⟩,by omega⟩
    |exact⟨i+1,rfl,⟨by omega,cz ha2 (by grind [Hv])⟩,by omega⟩
    |skip
 obtain rfl:i=its.length:=by omega
 repeat' (first|(with_reducible first|refine ac ?_|refine ab ‹_› rfl ?_|refine ai (λhbr=>?_) λhbr=>?_)|simp(disch:=first|omega|(simp only[aq];omega)|simp only[ap,Nat.reduceAdd]) only[go_sem,true_and])
 all_goals first|omega|exact bo ha2|skip
def UD(n:Nat):Prop:=∀v,ck v<=1000000000->Ji n v=true->aI Try.prog 69 [(true,aj v)] [(false,[.sc (.bool (gZ n v))],true)]
theorem Cw(n:Nat)(ih:∀m,n=m+1->UD m):UD n:=by
 intro v hw hd
 have hv:∃k its ps ns cl lv c e,v=.mk k its ps ns cl lv c e:=by
  obtain⟨k,its,ps,ns,cl,lv,c,e⟩:=v;exact⟨_,_,_,_,_,_,_,_,rfl⟩
 obtain⟨k,its,ps,ns,cl,lv,c,e,hve⟩:=hv;subst hve;have hb:=rU hw;have h1:=Qg _ k its ps ns cl lv c e rfl hb;obtain⟨b1,b2,b3,b4,b5,b6⟩:=hb;rw[eI];generalize ur k its ps.length ns cl lv c e=sb at *;simp only[aj,af,av]at h1 ⊢;refine ah Try.func69 pP rfl ?_;simp only[iF];simp(disch:=first|omega|(simp only[aq];omega)|simp only[ap,Nat.reduceAdd]) only[go_sem,true_and];refine ab h1 rfl ?_;cases sb
 ·repeat' (first|(with_reducible first|refine ac ?_|refine ab ‹_› rfl ?_|refine ai (λhbr=>?_) λhbr=>?_)|simp(disch:=first|omega|(simp only[aq];omega)|simp only[ap,Nat.reduceAdd]) only[go_sem,true_and])
  all_goals exact bo rfl
 rw[Bool.true_and];simp(disch:=first|omega|(simp only[aq];omega)|simp only[ap,Nat.reduceAdd]) only[go_sem,true_and];refine lp (λi:Nat=>[.sc (.int .i64 i)]) (λi=>i<=ps.length/\bP (tJ n ps) i=true) (λi=>ps.length-i) 0 rfl ⟨Nat.zero_le _,rfl⟩ ?_;rintro i ⟨hi2,ha2⟩;simp only[gM];by_cases hlt2:i<ps.length
 ·rcases n with _|m
  ·rw[Ji]at hd;exact absurd (aV.1 hd i hlt2) (by decide)
  ·have hm:=aG hlt2;rw[Ji]at hd;have hc:=ih m rfl _ (b6 _ hm) (aV.1 hd i hlt2);have hk:tJ (m+1) ps i=gZ m (ps.getD i default):=rfl;have hix:d6 8 (some (.sl 28 8 (ps.map aj))) (some (.sc (.int .i64 (i:Int))))=some (aj (ps.getD i default)):=by rw[py (by omega) (by omega),Int.toNat_natCast]
   generalize ps.getD i default=x at hc hix hk;generalize gZ m x=b at hc hk;obtain⟨x0,x1,x2,x3,x4,x5,x6,x7⟩:=x;simp only[aj,af,av]at hc hix;cases b
   ·repeat' (first|(with_reducible first|refine ac ?_|refine ab ‹_› rfl ?_|refine ai (λhbr=>?_) λhbr=>?_)|simp(disch:=first|omega|(simp only[aq];omega)|simp only[ap,Nat.reduceAdd]) only[go_sem,hix])
    all_goals first
     |omega
     |exact bo (by rw[df (p:=tJ (m+1) ps) hlt2 hk])
     |skip
   ·repeat' (first|(with_reducible first|refine ac ?_|refine ab ‹_› rfl ?_|refine ai (λhbr=>?_) λhbr=>?_)|simp(disch:=first|omega|(simp only[aq];omega)|simp only[ap,Nat.reduceAdd]) only[go_sem,hix])
    all_goals first
     |omega
     |exact⟨i+1,rfl,⟨by omega,cz ha2 hk⟩,by omega⟩
     |skip
 ·obtain rfl:i=ps.length:=by omega
  repeat' (first|(with_reducible first|refine ac ?_|refine ab ‹_› rfl ?_|refine ai (λhbr=>?_) λhbr=>?_)|simp(disch:=first|omega|(simp only[aq];omega)|simp only[ap,Nat.reduceAdd]) only[go_sem,true_and])
  all_goals first|omega|exact bo ha2|skip
theorem Oc:∀n,UD n
 |0=>Cw 0 λm e=>by omega
 |n+1=>Cw (n+1) λm e=>by obtain rfl:n=m:=by omega
                         exact Oc n
def TZ(n:Nat):Prop:=∀v,ck v<=1000000000->aI Try.prog 68 [(true,aj v),(false,[.sc (.int .i64 n)])] [(false,[.sc (.int .i64 (zl n v))],true)]
theorem J1:TZ 0:=by
 rintro⟨k,its,ps,ns,cl,lv,c,e⟩ hw;unfold zl;simp only[aj,af,av];refine ah Try.func68 pZ rfl ?_;simp only[k8]
 repeat' (first|(with_reducible first|refine ac ?_|refine ab ‹_› rfl ?_|refine ai (λhbr=>?_) λhbr=>?_)|simp(disch:=first|omega|(simp only[aq];omega)|simp only[ap,Nat.reduceAdd]) only[go_sem,true_and])
 all_goals first|rfl|omega
theorem Pr(n:Nat)(k:Int)(its:List It)(ps:List aX)(ns cl lv:List ByteArray)(c e:Int):zl (n+1) (.mk k its ps ns cl lv c e)=(ps.map λp=>zl n p+1).foldl max 0:=by rw[zl]
theorem JK(n:Nat)(hn:n<=1000)(ih:TZ n):TZ (n+1):=by
 rintro⟨k,its,ps,ns,cl,lv,c,e⟩ hw;obtain⟨b1,b2,b3,b4,b5,b6⟩:=rU hw;rw[Pr];simp only[aj,af,av];have hs:((n+1:Nat):Int)-1=(n:Int):=by omega
 have h0:¬((n+1:Nat):Int)=0:=by omega
 generalize ((n+1:Nat):Int)=n1 at *;refine ah Try.func68 pZ rfl ?_;simp only[k8];simp(disch:=first|omega|(simp only[aq];omega)|simp only[ap,Nat.reduceAdd]) only[go_sem,true_and];refine di (λhx=>absurd hx h0) (λ_=>?_);simp(disch:=first|omega|(simp only[aq];omega)|simp only[ap,Nat.reduceAdd]) only[go_sem,true_and];refine lp (λi:Nat=>[.sc (.int .i64 i),.sc (.int .i64 (((ps.take i).map λp=>zl n p+1).foldl max 0:Nat))]) (λi=>i<=ps.length) (λi=>ps.length-i) 0 rfl (Nat.zero_le _) ?_;intro i hi;simp only[ol]
 have hbd:((ps.take i).map λp=>zl n p+1).foldl max 0<=n+2:=by
  rw[fx];refine⟨by omega,λx hx=>?_⟩;obtain⟨p,hp,rfl⟩:=List.mem_map.1 hx;have:=KQ n p;omega
 by_cases hlt:i<ps.length
 ·have hm:=aG hlt;have hc:=ih _ (b6 _ hm)
  have hstep:((ps.take (i+1)).map λp=>zl n p+1).foldl max 0=max (((ps.take i).map λp=>zl n p+1).foldl max 0) (zl n (ps.getD i default)+1):=by
   rw[bm hlt,List.map_append,List.foldl_append];rfl
  have hnb:=KQ n (ps.getD i default);have hix:d6 8 (some (.sl 28 8 (ps.map aj))) (some (.sc (.int .i64 (i:Int))))=some (aj (ps.getD i default)):=by rw[py (by omega) (by omega),Int.toNat_natCast]
  generalize ps.getD i default=x at hc hix hstep hnb;generalize ((ps.take i).map λp=>zl n p+1).foldl max 0=cur at *;generalize zl n x=y at *;obtain⟨x0,x1,x2,x3,x4,x5,x6,x7⟩:=x;simp only[aj,af,av]at hc hix
  repeat' (first|(with_reducible first|refine ac ?_|refine ab ‹_› rfl ?_|refine ai (λhbr=>?_) λhbr=>?_)|simp(disch:=first|omega|(simp only[aq];omega)|simp only[ap,Nat.reduceAdd]) only[go_sem,hix,hs])
  all_goals first
   |omega
   |exact⟨i+1,by rw[hstep];congr 4;omega,by omega,by omega⟩
   |skip
 ·obtain rfl:i=ps.length:=by omega
  rw[List.take_length]at*
  repeat' (first|(with_reducible first|refine ac ?_|refine ab ‹_› rfl ?_|refine ai (λhbr=>?_) λhbr=>?_)|simp(disch:=first|omega|(simp only[aq];omega)|simp only[ap,Nat.reduceAdd]) only[go_sem,true_and])
  all_goals first|omega|exact Lg rfl|skip
theorem NN:∀n,n<=1000->TZ n
 |0,_=>J1
 |n+1,h=>JK n (by omega) (NN n (by omega))
def OT(n:Nat):Prop:=∀v,ck v<=1000000000->gZ n v=true->aI Try.prog 70 [(true,aj v)] [(false,[.sc (.int .i64 (rG n v))],true)]
theorem zO(n:Nat)(hn:n<=3)(ih:∀m,n=m+1->OT m):OT n:=by
 rintro⟨k,its,ps,ns,cl,lv,c,e⟩ hw hv;have hb:=rU hw;have hbd:((rG n (.mk k its ps ns cl lv c e):Nat):Int)<=3000000:=by have:=Lh n hn _ hv;omega
 have h1:=jM k its ps ns cl lv c e hb;obtain⟨b1,b2,b3,b4,b5,b6⟩:=hb;have hlen:=AN (k:=k) b1 b2;rw[Ii]at hbd ⊢;rw[eI]at hv;have hkid:=(Bool.and_eq_true _ _▸hv).2;generalize hln:dX k its.length ps.length=ln at *;simp only[aj,af,av]at h1 ⊢;refine ah Try.func70 xC rfl ?_;simp only[nL];simp(disch:=first|omega|(simp only[aq];omega)|simp only[ap,Nat.reduceAdd]) only[go_sem,true_and];refine ab h1 rfl ?_;simp(disch:=first|omega|(simp only[aq];omega)|simp only[ap,Nat.reduceAdd]) only[go_sem,true_and];refine lp (λi:Nat=>[.sc (.int .i64 i),.sc (.int .i64 (ln+(bg (jY n) (ps.take i):Nat)))]) (λi=>i<=ps.length) (λi=>ps.length-i) 0 (by simp[gL,bg]) (Nat.zero_le _) ?_;intro i hi;simp only[m9];have hs1:=tR (jY n) ps i;by_cases hlt:i<ps.length
 ·have hs2:=tR (jY n) ps (i+1);have hm:=aG hlt;rcases n with _|m
  ·exact absurd (aV.1 hkid i hlt) (by show¬false=true;decide)
  ·have hk:gZ m (ps.getD i default)=true:=aV.1 hkid i hlt;have hc:=ih m rfl _ (b6 _ hm) hk;have hq:jY (m+1) (ps.getD i default)=rG m (ps.getD i default):=rfl;have hs3:=xT (jY (m+1)) hlt;have hix:d6 8 (some (.sl 28 8 (ps.map aj))) (some (.sc (.int .i64 (i:Int))))=some (aj (ps.getD i default)):=by rw[py (by omega) (by omega),Int.toNat_natCast]
   generalize ps.getD i default=x at hc hix hq hs3;rw[hq]at hs3;generalize rG m x=y at hc hs3;obtain⟨x0,x1,x2,x3,x4,x5,x6,x7⟩:=x;simp only[aj,af,av]at hc hix
   repeat' (first|(with_reducible first|refine ac ?_|refine ab ‹_› rfl ?_|refine ai (λhbr=>?_) λhbr=>?_)|simp(disch:=first|omega|(simp only[aq];omega)|simp only[ap,Nat.reduceAdd]) only[go_sem,hix])
   all_goals first
    |omega
    |exact⟨i+1,by congr 4;omega,by omega,by omega⟩
    |skip
 ·obtain rfl:i=ps.length:=by omega
  rw[List.take_length]at*
  repeat' (first|(with_reducible first|refine ac ?_|refine ab ‹_› rfl ?_|refine ai (λhbr=>?_) λhbr=>?_)|simp(disch:=first|omega|(simp only[aq];omega)|simp only[ap,Nat.reduceAdd]) only[go_sem,true_and])
  all_goals first|omega|exact Lg (by omega)|skip
theorem K6:∀n,n<=3->OT n
 |0,h=>zO 0 h λm e=>by omega
 |n+1,h=>zO (n+1) h λm e=>by obtain rfl:n=m:=by omega
                             exact K6 n (by omega)
theorem oA(v:aX)(hw:ck v<=1000000000):aI Try.prog 39 [(true,aj v)] [(false,[.sc (.bool (cd v))],true)]:=by
 have h1:=NN 4 (by omega) v hw;have h2:=Oc 3 v hw;have h3:=K6 3 (by omega) v hw;have h4:=MX 3 v;have h5:=OB 3 v;rw[show((4:Nat):Int)=4 from rfl]at h1;unfold cd;generalize rG 3 v=y at *;generalize zl 4 v=z at *;generalize Ji 3 v=d at *;generalize gZ 3 v=b at *;obtain⟨k,its,ps,ns,cl,lv,c,e⟩:=v;simp only[aj,af,av]at h1 h2 h3 ⊢;refine ah Try.func39 rP rfl ?_;simp only[kM];cases d
 ·have hz:¬(z:Int)<=3:=λh=>by have:=h5.1 (by omega);cases this
  have hb:b=false:=by cases b;rfl;exact absurd (h4 rfl) (by decide)
  subst hb
  repeat' (first|(with_reducible first|refine ac ?_|refine ab ‹_› rfl ?_|refine ai (λhbr=>?_) λhbr=>?_)|simp(disch:=first|omega|(simp only[aq];omega)|simp only[ap,Nat.reduceAdd]) only[go_sem,true_and])
  all_goals first|omega|exact bo rfl
 ·have hz:(z:Int)<=3:=by have:=h5.2 rfl;omega
  have h2':=h2 rfl;cases b
  ·repeat' (first|(with_reducible first|refine ac ?_|refine ab ‹_› rfl ?_|refine ai (λhbr=>?_) λhbr=>?_)|simp(disch:=first|omega|(simp only[aq];omega)|simp only[ap,Nat.reduceAdd]) only[go_sem,true_and])
   all_goals first|omega|exact bo rfl
  ·have h3':=h3 rfl
   repeat' (first|(with_reducible first|refine ac ?_|refine ab ‹_› rfl ?_|refine ai (λhbr=>?_) λhbr=>?_)|simp(disch:=first|omega|(simp only[aq];omega)|simp only[ap,Nat.reduceAdd]) only[go_sem,true_and])
   all_goals first|omega|exact bo rfl
def qM:List aP:=[⟨3000014,3,⟨[aa 7 16,aa 6 17,bi 3 0 0,aa 28 5,aa 13 10,aa 4 5,aa 9 3,aa 2 1,aa 0 7],[(0,.row 0 5 1 18)],1,1,19,[(10,false),(3,false)]⟩,[]⟩,⟨1000012,1,⟨[bi 3 0 0,aa 28 5,aa 13 10,aa 4 5,aa 9 3,aa 2 1,aa 0 7],[(0,.row 0 5 1 11)],1,1,12,[(10,false),(3,false)]⟩,[]⟩,⟨2000001,4,⟨[aa 0 11,bi 3 0 0,aa 5 12,aa 17 13,aa 13 10,aa 4 5,aa 9 3,aa 2 1],[(0,.row 0 5 1 14)],1,1,15,[(10,true),(3,false)]⟩,[]⟩,⟨3000005,2,⟨[bi 3 0 0,aa 4 5,aa 9 3,aa 2 1,aa 0 7],[(0,.row 0 5 1 8)],1,1,9,[(3,false)]⟩,[⟨true,3,0,5,1⟩]⟩]
def qm:List (Nat×Nat×Bool×List Nat):=[(16,13,false,[2,3])]
def eH:UP:=.jump 0 [3,0]
def iq:UP:=.b .lss 1 2<|.ite 0 (.z 3<|.po (.chk 1 1 3)<|.x 1 1 3<|.c 0<|.z 3<|.po (.chk 1 2 3)<|.x 1 2 3<|.c 0<|.z 4<|.po (.chk 1 3 4)<|.c 1<|.po (.set 1 3 4 0 [1])<|.z 6<|.po (.chk 1 0 6)<|.c 1<|.po (.set 1 0 6 0 [1])<|.i 1<|.a 7 0<|.i 1<|.b .sub 10 0<|.jump 1 [0,2,4])<|.po (.cvB 1)<|.c 0<|.r 0
def eD:UP:=.l 0<|.i 1<|.b .sub 1 0<|.i 0<|.sel [0,1,4]<|.loop [1,0,2] iq
def ig:UP:=.i 0<|.b .neq 2 0<|.ite 0 (.sel [2,3]<|.join 4 eH<|.i 10<|.b .rem 2 0<|.i 0<|.b .lss 1 0<|.ite 0 (.po (.un .neg 2)<|.i 48<|.a 0 1<|.po (.cvI .u8 0)<|.c 0<|.po (.mk 5 1 [[0]])<|.po (.flat 0)<|.po (.app 5 1 1 9 0)<|.i 10<|.b .quo 12 0<|.jump 1 [0,7,8,2])<|.i 48<|.a 0 3<|.po (.cvI .u8 0)<|.c 0<|.po (.mk 5 1 [[0]])<|.po (.flat 0)<|.po (.app 5 1 1 8 0)<|.i 10<|.b .quo 11 0<|.jump 1 [0,9,7,2])<|.sel [2,5]<|.join 1 eD<|.ite 1 (.po (.k (.int .u8 45))<|.c 0<|.po (.mk 5 1 [[0]])<|.po (.flat 0)<|.po (.app 5 1 1 2 0)<|.jump 1 [0])<|.jump 1 [0]
def i7:UP:=.s #[]<|.i 0<|.e 2 0<|.ite 0 (.s #[48]<|.c 0<|.r 0)<|.i 0<|.b .lss 4 0<|.po (.e 5 1)<|.sel [0,1,6]<|.loop [2,0] ig
theorem qu:aR Try.prog 102 Try.f102 cV qM qm=some ([(false,1)],i7):=by kernel_rfl
def rl:List aP:=[⟨2000001,3,⟨[aa 3 7,aa 5 8,aa 14 9,aa 8 6,aa 4 3,aa 2 1,aa 0 0],[],0,0,10,[(6,true)]⟩,[]⟩,⟨3000003,2,⟨[aa 4 3,aa 3 4,aa 2 1,aa 0 0],[],0,0,5,[]⟩,[]⟩]
def rj:List (Nat×Nat×Bool×List Nat):=[]
def eC:UP:=.i 10<|.b .quo 5 0<|.jump 0 [0,4]
def iy:UP:=.i 0<|.b .neq 2 0<|.ite 0 (.sel [2,3]<|.join 3 eC<|.i 10<|.b .rem 2 0<|.i 0<|.b .lss 1 0<|.ite 0 (.po (.un .neg 2)<|.i 1<|.a 1 0<|.s #[48,49,50,51,52,53,54,55,56,57]<|.po (.cutS 0 (some 3) (some 1))<|.a 0 9<|.jump 1 [0,5,6])<|.i 1<|.a 3 0<|.s #[48,49,50,51,52,53,54,55,56,57]<|.po (.cutS 0 (some 5) (some 1))<|.a 0 8<|.jump 1 [0,7,5])<|.i 0<|.e 7 0<|.ite 0 (.s #[48]<|.c 0<|.r 0)<|.i 0<|.b .lss 9 0<|.ite 0 (.s #[45]<|.a 0 7<|.c 0<|.r 0)<|.c 6<|.r 6
def jB:UP:=.s #[]<|.s #[]<|.loop [2,0] iy
theorem qV:aR Try.prog 99 Try.f99 cV rl rj=some ([(false,1)],jB):=by kernel_rfl
def pH(n:Nat):List DV:=[.sc (.int .u8 (n:Int))]
def zh(l:List Nat):ByteArray:=strOfNums (l.map λn:Nat=>(n:Int))
theorem sI(l:List Nat):(zh l).data.toList=l.map UInt8.ofNat:=by
 unfold zh;rw[strOfNums_data,List.map_map];rfl
theorem Fp(l m:List Nat):zh (l++m)=zh l++zh m:=by
 apply ByteArray.ext;apply Array.ext';rw[ByteArray.data_append,Array.toList_append,sI,sI,sI,List.map_append]
theorem sM(l:List Nat):(zh l).size=l.length:=by
 unfold zh;rw[strOfNums_size,List.length_map]
theorem GQ(l:List Nat):jI (l.map pH)=some (l.map λn:Nat=>(n:Int)):=by
 induction l with
 |nil=>rfl
 |cons n l ih=>simp only[List.map_cons,pH,jI];rw[ih]
theorem Tc{t:Nat}{l:List Nat}:LT (some (.sl t 1 (l.map pH)))=some [.sc (.string (zh l))]:=RE (GQ l)
theorem Uj{t:Nat}{l:List Nat}{kd:IntKind}{z:Int}(h:0<=z)(h1:z<l.length):d6 1 (some (.sl t 1 (l.map pH))) (some (.sc (.int kd z)))=some [.sc (.int .u8 (l.getD z.toNat default:Nat))]:=fc (λ_=>rfl) h h1
theorem U5{t:Nat}{l:List Nat}{kd:IntKind}{z:Int}{n:Nat}(h:0<=z)(h1:z<l.length):zv 1 0 (some (.sl t 1 (l.map pH))) (some (.sc (.int kd z))) (some [.sc (.int .u8 (n:Int))])=some [.sl t 1 ((l.set z.toNat n).map pH)]:=by
 rw[gl (e:=pH) (λ_=>rfl) h h1 rfl,List.map_set];rfl
theorem Oo(l:List Nat)(n:Nat):l.map pH++[[.sc (.int .u8 (n:Int))]]=(l++[n]).map pH:=by rw[List.map_append];rfl
theorem MS{s:ByteArray}{i:Nat}(h:i<s.size):s.extract i (i+1)=zh [uB s i]:=by
 apply ByteArray.ext;apply Array.ext';rw[sI,ByteArray.data_extract];have hd:i<s.data.size:=h;have hb:uB s i=(s.data[i]).toNat:=by unfold uB;rw[getElem?_pos s i h];rfl
 rw[hb];apply List.ext_getElem
 ·simp;omega
 ·intro j h1 h2;simp at h1 h2;have:j=0:=by omega
  subst this;simp
def B3(m:Nat):List Nat:=if h:m=0 then[]else B3 (m / 10)++[48+m % 10]
 termination_by m
 decreasing_by omega
theorem rZ:B3 0=[]:=by rw[B3];simp
theorem Cg{m:Nat}(h:m≠0):B3 m=B3 (m / 10)++[48+m % 10]:=by rw[B3,dif_neg h]
theorem Mw(k:Nat):∀m,m<10^k->(B3 m).length<=k:=by
 induction k with
 |zero=>intro m h;have:m=0:=by simpa using h
        subst this;rw[rZ];exact Nat.zero_le _
 |succ k ih=>
  intro m h;by_cases h0:m=0
  ·subst h0;rw[rZ];exact Nat.zero_le _
  ·rw[Cg h0,List.length_append,List.length_singleton];have:=ih (m / 10) (by rw[Nat.pow_succ]at h;omega);omega
theorem uk{m:Nat}(h:m<=9223372036854775808):(B3 m).length<=19:=Mw 19 m (Nat.lt_of_le_of_lt h (by decide))
def go(n:Int):List Nat:=if n=0 then[48]else if n<0 then 45::B3 n.natAbs else B3 n.natAbs
def ic(n:Int):ByteArray:=zh (go n)
theorem C3{n:Int}(h:Ln n):(go n).length<=20:=by
 have h2:n.natAbs<=9223372036854775808:=by unfold Ln at h;omega
 have:=uk h2;unfold go;split
 ·simp
 ·split
  ·simp;omega
  ·omega
theorem JZ{x:Int}:(x.tdiv 10).natAbs=x.natAbs / 10:=by rw[Int.natAbs_tdiv];rfl
theorem JG{x:Int}:(x.tmod 10).natAbs=x.natAbs % 10:=by rw[Int.natAbs_tmod];rfl
def PJ:ByteArray:=⟨#[48,49,50,51,52,53,54,55,56,57]⟩
theorem MM{d:Nat}(h:d<10):PJ.extract d (d+1)=zh [48+d]:=by
 have hs:d<PJ.size:=h;rw[MS hs];have:∀k:Fin 10,uB PJ k.val=48+k.val:=by decide
 rw[this ⟨d,h⟩]
set_option maxHeartbeats 1000000 in
theorem sO(n:Int)(hn:Ln n):aI Try.prog 99 [(false,[.sc (.int .i64 n)])] [(false,[.sc (.string (ic n))],true)]:=by
 have hn': -9223372036854775808<=n/\n<=9223372036854775807:=hn;have hlen:=uk (m:=n.natAbs) (by omega);refine ah Try.func99 qV rfl ?_;simp only[jB];simp(disch:=first|omega|(simp only[aq];omega)|simp only[ap,Nat.reduceAdd]) only[go_sem,true_and];refine lp (λs:Int×List Nat=>[.sc (.int .i64 s.1),.sc (.string (zh s.2))]) (λs=>s.1.natAbs<=9223372036854775808/\-9223372036854775808<=s.1/\s.1<=9223372036854775807/\B3 s.1.natAbs++s.2=B3 n.natAbs) (λs=>s.1.natAbs) (n,[]) rfl ⟨by simp only;omega,by simp only;omega,by simp only;omega,by simp⟩ ?_;rintro⟨x,acc⟩ ⟨g1,g2,g3,g4⟩;simp only at g1 g2 g3 g4 ⊢;simp only[iy];by_cases hx:x=0
 ·subst hx;rw[Int.natAbs_zero,rZ,List.nil_append]at g4;have hsz:=sM acc;rw[g4]at hsz ⊢
  have e1:(⟨#[45]⟩:ByteArray).size+(zh (B3 n.natAbs)).size<=maxLen:=by
   have e:(⟨#[45]⟩:ByteArray).size=1:=rfl;unfold maxLen;omega
  repeat' (first|(with_reducible first|refine ac ?_|refine ab ‹_› rfl ?_|refine ai (λhbr=>?_) λhbr=>?_)|simp(disch:=first|omega|(simp only[aq];omega)|simp only[ap,Nat.reduceAdd]) only[go_sem,Aj e1])
  ·exact Fs (by unfold ic go;rw[if_pos ‹n=0›];rfl)
  ·refine Fs ?_;unfold ic go;rw[if_neg ‹¬n=0›,if_pos ‹n<0›];exact Fp [45] _
  ·refine Fs ?_;unfold ic go;rw[if_neg ‹¬n=0›,if_neg ‹¬n<0›]
 ·have hd:=Cg (m:=x.natAbs) (by omega);have a1:=@JZ x;have a2:=@JG x;have a3:x.tmod 10<10/\-10<x.tmod 10:=by omega
  have hl2:acc.length<=19:=by
   have:=congrArg List.length g4;rw[List.length_append]at this;omega
  have hsz:=sM acc;have hm10:x.natAbs % 10<10:=Nat.mod_lt _ (by decide);have hdg:=MM hm10;have e0:(zh [48+x.natAbs % 10]).size=1:=by rw[sM];rfl
  have e1:(zh [48+x.natAbs % 10]).size+(zh acc).size<=maxLen:=by unfold maxLen;omega
  have happ:zh [48+x.natAbs % 10]++zh acc=zh ((48+x.natAbs % 10)::acc):=(Fp [48+x.natAbs % 10] acc).symm;have hne:¬(10:Int)=0:=by decide
  have hfin:∀y:Int,y=x.tdiv 10->(∃a':Int×List Nat,[DV.sc (.int .i64 y),.sc (.string (zh ((48+x.natAbs % 10)::acc)))]=[.sc (.int .i64 a'.1),.sc (.string (zh a'.2))]/\(a'.1.natAbs<=9223372036854775808/\-9223372036854775808<=a'.1/\a'.1<=9223372036854775807/\B3 a'.1.natAbs++a'.2=B3 n.natAbs)/\a'.1.natAbs<x.natAbs):=by
   rintro y rfl;refine⟨(x.tdiv 10,(48+x.natAbs % 10)::acc),rfl,⟨by simp only;omega,by simp only;omega,by simp only;omega,?_⟩,by simp only;omega⟩;rw[<-g4,hd,a1];simp
  generalize hdd:x.natAbs % 10=d at *;by_cases hneg:x.tmod 10<0
  ·have t1:x.tmod 10= -(d:Int):=by omega
   have c1:(0:Int) - -(d:Int)=(d:Int):=by omega
   have lU:vm (some (.sc (.string ⟨#[48,49,50,51,52,53,54,55,56,57]⟩))) (some (some (d:Int))) (some (some ((d+1:Nat):Int)))=some [.sc (.string (zh [48+d]))]:=by
    rw[OR (by omega) (by omega) (by show((d+1:Nat):Int)<=((10:Nat):Int);omega)];exact congrArg (λz=>some [DV.sc (.string z)]) hdg
   repeat' (first|(with_reducible first|refine ac ?_|refine ab ‹_› rfl ?_|refine ai (λhbr=>?_) λhbr=>?_)|simp(disch:=first|omega|(simp only[aq];omega)|simp only[ap,Nat.reduceAdd]) only[go_sem,t1,c1,lU,Aj e1,happ,eC])
   all_goals first|omega|exact hfin _ rfl
  ·have t1:x.tmod 10=(d:Int):=by omega
   have lU:vm (some (.sc (.string ⟨#[48,49,50,51,52,53,54,55,56,57]⟩))) (some (some (d:Int))) (some (some ((d+1:Nat):Int)))=some [.sc (.string (zh [48+d]))]:=by
    rw[OR (by omega) (by omega) (by show((d+1:Nat):Int)<=((10:Nat):Int);omega)];exact congrArg (λz=>some [DV.sc (.string z)]) hdg
   repeat' (first|(with_reducible first|refine ac ?_|refine ab ‹_› rfl ?_|refine ai (λhbr=>?_) λhbr=>?_)|simp(disch:=first|omega|(simp only[aq];omega)|simp only[ap,Nat.reduceAdd]) only[go_sem,t1,lU,Aj e1,happ,eC])
   all_goals first|omega|exact hfin _ rfl
def HN(D:List Nat)(i:Nat):List Nat:=(List.range D.length).map λk=>if k<i\/D.length-1-k<i then D.getD (D.length-1-k) default else D.getD k default
theorem mo(D:List Nat)(i:Nat):(HN D i).length=D.length:=by simp[HN]
theorem yA(D:List Nat)(i k:Nat)(h:k<D.length):(HN D i)[k]? =some (if k<i\/D.length-1-k<i then D.getD (D.length-1-k) default else D.getD k default):=by
 unfold HN;rw[List.getElem?_map,List.getElem?_range h];rfl
theorem CG(D:List Nat)(i k:Nat)(h:k<D.length):(HN D i).getD k default=if k<i\/D.length-1-k<i then D.getD (D.length-1-k) default else D.getD k default:=by
 rw[List.getD_eq_getElem?_getD,yA D i k h];rfl
theorem Jh(D:List Nat):HN D 0=D:=by
 apply List.ext_getElem?;intro k;by_cases h:k<D.length
 ·rw[yA D 0 k h,if_neg (by omega),getD_some h]
 ·rw[List.getElem?_eq_none (by rw[mo];omega),List.getElem?_eq_none (by omega)]
theorem JS{D:List Nat}{i:Nat}(h:i<D.length-1-i):((HN D i).set i ((HN D i).getD (D.length-1-i) default)).set (D.length-1-i) ((HN D i).getD i default)=HN D (i+1):=by
 apply List.ext_getElem?;intro k;by_cases hk:k<D.length
 ·rw[List.getElem?_set,List.getElem?_set,yA D (i+1) k hk,yA D i k hk,CG D i i (by omega),CG D i (D.length-1-i) (by omega)];by_cases e1:D.length-1-i=k
  ·subst e1;rw[if_pos rfl,if_pos (by rw[List.length_set,mo];exact hk),if_neg (by omega),if_pos (by omega)];congr 2;omega
  ·rw[if_neg e1];by_cases e2:i=k
   ·subst e2;rw[if_pos rfl,if_pos (by rw[mo];exact hk),if_neg (by omega),if_pos (by omega)]
   ·rw[if_neg e2];by_cases e3:k<i\/D.length-1-k<i
    ·rw[if_pos e3,if_pos (by omega)]
    ·rw[if_neg e3,if_neg (by omega)]
 ·rw[List.getElem?_eq_none (by simp[mo];omega),List.getElem?_eq_none (by rw[mo];omega)]
theorem NF{D:List Nat}{i:Nat}(h:¬i<D.length-1-i):HN D i=D.reverse:=by
 apply List.ext_getElem?;intro k;by_cases hk:k<D.length
 ·rw[yA D i k hk,List.getElem?_reverse hk];split
  ·rw[getD_some (by omega)]
  ·rw[<-getD_some hk];congr 1;omega
 ·rw[List.getElem?_eq_none (by rw[mo];omega),List.getElem?_eq_none (by simp;omega)]
set_option maxHeartbeats 2000000 in
theorem tT(n:Int)(hn:Ln n):aI Try.prog 102 [(false,[.sc (.int .i64 n)])] [(false,[.sc (.string (ic n))],true)]:=by
 have hn': -9223372036854775808<=n/\n<=9223372036854775807:=hn;have hlen:=uk (m:=n.natAbs) (by omega);refine ah Try.func102 qu rfl ?_;simp only[i7];simp(disch:=first|omega|(simp only[aq];omega)|simp only[ap,Nat.reduceAdd]) only[go_sem,true_and];refine di (λhn0=>?_) (λhn0=>?_)
 ·simp(disch:=first|omega|(simp only[aq];omega)|simp only[ap,Nat.reduceAdd]) only[go_sem,true_and];exact Fs (by unfold ic go;rw[if_pos hn0];rfl)
 simp(disch:=first|omega|(simp only[aq];omega)|simp only[ap,Nat.reduceAdd]) only[go_sem,true_and];refine lp (λs:Int×List Nat=>[.sc (.int .i64 s.1),.sl 5 1 (s.2.map pH)]) (λs=>s.1.natAbs<=9223372036854775808/\-9223372036854775808<=s.1/\s.1<=9223372036854775807/\B3 s.1.natAbs++s.2.reverse=B3 n.natAbs) (λs=>s.1.natAbs) (n,[]) rfl ⟨by simp only;omega,by simp only;omega,by simp only;omega,by simp⟩ ?_;rintro⟨x,acc⟩ ⟨g1,g2,g3,g4⟩;simp only at g1 g2 g3 g4 ⊢;simp only[ig]
 have hl2:acc.length<=19:=by
  have:=congrArg List.length g4;rw[List.length_append,List.length_reverse]at this;omega
 by_cases hx:x=0
 ·subst hx;rw[Int.natAbs_zero,rZ,List.nil_append]at g4;have m45:acc.map pH++[[.sc (.int .u8 45)]]=(acc++[45]).map pH:=by rw[List.map_append];rfl
  have key:∀(J:List DV->Prop) (c0 c:DV) (D:List Nat),D.length<=20->D.reverse=go n->V Try.prog (mW [(false,[.sc (.string (ic n))],true)]) eD [J] [.sl 5 1 (D.map pH),c0,c]:=by
   intro J c0 c D hD hrev;simp only[eD];simp(disch:=first|omega|(simp only[aq];omega)|simp only[ap,Nat.reduceAdd]) only[go_sem,true_and];refine lp (λi:Nat=>[.sc (.int .i64 ((D.length:Int)-1-i)),.sc (.int .i64 i),.sl 5 1 ((HN D i).map pH)]) (λi=>2*i<=D.length) (λi=>D.length-i) 0 (by simp[gL,Jh]) (by omega) ?_;intro i hi;have hsl:=mo D i;simp only[iq];by_cases hlt:i<D.length-1-i
   ·have hj:(D.length:Int)-1-i=((D.length-1-i:Nat):Int):=by omega
    have hst:=JS hlt;have hj2:((D.length-1-i:Nat):Int)-1=(D.length:Int)-1-((i+1:Nat):Int):=by omega
    rw[hj];generalize D.length-1-i=j at*
    repeat' (first|(with_reducible first|refine ac ?_|refine ab ‹_› rfl ?_|refine ai (λhbr=>?_) λhbr=>?_)|simp(disch:=first|omega|(simp only[aq];omega)|simp only[ap,Nat.reduceAdd]) only[go_sem,Uj,U5,List.length_set,hsl,hst,hj2])
    ·exact⟨i+1,rfl,by omega,by omega⟩
    ·omega
   ·have he:=NF hlt
    repeat' (first|(with_reducible first|refine ac ?_|refine ab ‹_› rfl ?_|refine ai (λhbr=>?_) λhbr=>?_)|simp(disch:=first|omega|(simp only[aq];omega)|simp only[ap,Nat.reduceAdd]) only[go_sem,Tc,he,hrev])
    ·omega
    ·rfl
  simp(disch:=first|omega|(simp only[aq];omega)|simp only[ap,Nat.reduceAdd]) only[go_sem,true_and];by_cases hneg:n<0
  ·repeat' (first|(with_reducible first|refine ac ?_|refine ab ‹_› rfl ?_|refine ai (λhbr=>?_) λhbr=>?_)|simp(disch:=first|omega|(simp only[aq];omega)|simp only[ap,Nat.reduceAdd]) only[go_sem,hneg,m45])
   exact key _ _ _ (acc++[45]) (by simp;omega) (by rw[List.reverse_append,g4];unfold go;rw[if_neg hn0,if_pos hneg];rfl)
  ·repeat' (first|(with_reducible first|refine ac ?_|refine ab ‹_› rfl ?_|refine ai (λhbr=>?_) λhbr=>?_)|simp(disch:=first|omega|(simp only[aq];omega)|simp only[ap,Nat.reduceAdd]) only[go_sem,hneg,m45])
   exact key _ _ _ acc (by omega) (by rw[g4];unfold go;rw[if_neg hn0,if_neg hneg])
 ·have hd:=Cg (m:=x.natAbs) (by omega);have a1:=@JZ x;have a2:=@JG x;have a3:x.tmod 10<10/\-10<x.tmod 10:=by omega
  have hm10:x.natAbs % 10<10:=Nat.mod_lt _ (by decide)
  have hfin:∀y:Int,y=x.tdiv 10->(∃a':Int×List Nat,[DV.sc (.int .i64 y),.sl 5 1 ((acc++[48+x.natAbs % 10]).map pH)]=[.sc (.int .i64 a'.1),.sl 5 1 (a'.2.map pH)]/\(a'.1.natAbs<=9223372036854775808/\-9223372036854775808<=a'.1/\a'.1<=9223372036854775807/\B3 a'.1.natAbs++a'.2.reverse=B3 n.natAbs)/\a'.1.natAbs<x.natAbs):=by
   rintro y rfl;refine⟨(x.tdiv 10,acc++[48+x.natAbs % 10]),rfl,⟨by simp only;omega,by simp only;omega,by simp only;omega,?_⟩,by simp only;omega⟩;rw[<-g4,hd,a1];simp
  generalize hdd:x.natAbs % 10=d at *;have c3:(48:Int)+(d:Int)=((48+d:Nat):Int):=rfl;have w8:IntKind.u8.wrap ((48+d:Nat):Int)=((48+d:Nat):Int):=NV (by omega) (by omega);by_cases hneg:x.tmod 10<0
  ·have t1:x.tmod 10= -(d:Int):=by omega
   have c1:(0:Int) - -(d:Int)=(d:Int):=by omega
   repeat' (first|(with_reducible first|refine ac ?_|refine ab ‹_› rfl ?_|refine ai (λhbr=>?_) λhbr=>?_)|simp(disch:=first|omega|(simp only[aq];omega)|simp only[ap,Nat.reduceAdd]) only[go_sem,t1,c1,c3,w8,Oo,eH])
   all_goals first|omega|with_reducible exact hfin _ rfl
  ·have t1:x.tmod 10=(d:Int):=by omega
   repeat' (first|(with_reducible first|refine ac ?_|refine ab ‹_› rfl ?_|refine ai (λhbr=>?_) λhbr=>?_)|simp(disch:=first|omega|(simp only[aq];omega)|simp only[ap,Nat.reduceAdd]) only[go_sem,t1,c3,w8,Oo,eH])
   all_goals first|omega|with_reducible exact hfin _ rfl
def th:List aP:=[]
def tZ:List (Nat×Nat×Bool×List Nat):=[]
def kc:UP:=.i 0<|.i 0<|.s #[]<|.i 0<|.i 0<|.s #[]<|.i 1<|.c 3<|.c 0<|.c 7<|.ret [(true,[3,0,7])]
theorem sf:aR Try.prog 58 Try.f58 cV th tZ=some ([(false,1)],kc):=by kernel_rfl
def wg:List aP:=[]
def wq:List (Nat×Nat×Bool×List Nat):=[]
def mQ:UP:=.i 0<|.i 0<|.s #[]<|.i 0<|.i 0<|.s #[]<|.i 1<|.c 3<|.c 0<|.c 7<|.ret [(true,[3,0,7])]
theorem vV:aR Try.prog 66 Try.f66 cV wg wq=some ([(false,1)],mQ):=by kernel_rfl
def vr(s:ByteArray):It:=⟨0,1,s⟩
theorem l5(s:ByteArray):aI Try.prog 58 [(false,[.sc (.string s)])] [(true,au (vr s),true)]:=by
 refine ah Try.func58 sf rfl ?_;simp only[kc]
 repeat' (first|(with_reducible first|refine ac ?_|refine ab ‹_› rfl ?_|refine ai (λhbr=>?_) λhbr=>?_)|simp(disch:=first|omega|(simp only[aq];omega)|simp only[ap,Nat.reduceAdd]) only[go_sem,true_and])
 rfl
theorem lK(s:ByteArray):aI Try.prog 66 [(false,[.sc (.string s)])] [(true,au (vr s),true)]:=by
 refine ah Try.func66 vV rfl ?_;simp only[mQ]
 repeat' (first|(with_reducible first|refine ac ?_|refine ab ‹_› rfl ?_|refine ai (λhbr=>?_) λhbr=>?_)|simp(disch:=first|omega|(simp only[aq];omega)|simp only[ap,Nat.reduceAdd]) only[go_sem,true_and])
 rfl
theorem TU(a:Array UInt8):(ByteArray.mk a).size=a.size:=rfl
theorem DQ:maxLen=9223372036854775807:=rfl
theorem l8(l:List ByteArray)(hl:l.length<=100000000000):aI Try.prog 51 [(false,[av l])] [(false,[av l],true)]:=by
 refine ah Try.func51 qC rfl ?_;simp only[jD];simp only[av]
 repeat' (first|(with_reducible first|refine ac ?_|refine ab ‹_› rfl ?_|refine ai (λhbr=>?_) λhbr=>?_)|simp(disch:=first|omega|(simp only[aq];omega)|simp only[ap,Nat.reduceAdd]) only[go_sem,true_and])
 rfl
theorem BV{t k:Nat}{l:List It}:mE (some (.sl t k (l.map au)))=some []:=mg λx=>rfl
theorem Ps(l:List It)(hl:l.length<=100000000000):aI Try.prog 53 [(false,[.sl 42 3 (l.map au)])] [(false,[.sl 42 3 (l.map au)],true)]:=by
 refine ah Try.func53 qg rfl ?_;simp only[jp];simp(disch:=first|omega|(simp only[aq];omega)|simp only[ap,Nat.reduceAdd]) only[go_sem,BV];rfl
theorem sB{P:Nat->Prop}{i:Nat}(h:∀j,j<i->P j)(hi:P i):∀j,j<i+1->P j:=λj hj=>by
 rcases Nat.lt_or_ge j i with h1|h1
 ·exact h j h1
 ·obtain rfl:j=i:=by omega
  exact hi
def rx(ns:List ByteArray):List ByteArray:=if bP (yg ns) ns.length then[]else ns
theorem AZ(k:Int)(its:List It)(ps:List aX)(ns cl lv:List ByteArray)(c e:Int)(hn:ns.length<=1000000000):fI Try.prog 52 [(true,aj (.mk k its ps ns cl lv c e),true)] [(true,aj (.mk k its ps (rx ns) cl lv c e),true)]:=by
 have h1:=Jg 9 ns hn;simp only[aj,af,av];refine dt Try.func52 qW rfl (by simp) ?_;simp only[iZ];unfold rx
 repeat' (first|(with_reducible first|refine ac ?_|refine ab ‹_› rfl ?_|refine ai (λhbr=>?_) λhbr=>?_)|simp(disch:=first|omega|(simp only[aq];omega)|simp only[ap,Nat.reduceAdd]) only[go_sem,true_and])
 ·rw[if_pos ‹_›];rfl
 ·rw[if_neg (by simp[*])];rfl
theorem xL(k:Int)(its:List It)(ps:List aX)(ns cl lv:List ByteArray)(c e:Int)(hn:ns.length<=1000000000):fI Try.prog 34 [(true,aj (.mk k its ps ns cl lv c e),true)] [(true,aj (.mk k its ps (rx ns) cl lv c e),true)]:=by
 simp only[aj,af,av];refine dt Try.func34 vd rfl (by simp) ?_;simp only[lS];simp(disch:=first|omega|(simp only[aq];omega)|simp only[ap,Nat.reduceAdd]) only[go_sem,true_and];refine lp (λi:Nat=>[.sc (.int .i64 i)]) (λi=>i<=ns.length/\∀j,j<i->yg ns j=true) (λi=>ns.length-i) 0 rfl ⟨Nat.zero_le _,λj hj=>by omega⟩ ?_;rintro i ⟨hi,hall⟩;simp only[kK];have t1:bP (yg ns) ns.length=true->rx ns=[]:=λh=>if_pos h
 have t2:∀j,j<ns.length->yg ns j=false->rx ns=ns:=λj hj h=>if_neg (by rw[df hj h];simp)
 by_cases hlt:i<ns.length
 ·repeat' (first|(with_reducible first|refine ac ?_|refine ab ‹_› rfl ?_|refine ai (λhbr=>?_) λhbr=>?_)|simp(disch:=first|omega|(simp only[aq];omega)|simp only[ap,Nat.reduceAdd]) only[go_sem,true_and])
  all_goals first
   |omega
   |(rw[t2 i hlt (by simp[yg,-List.getD_eq_getElem?_getD, *])];rfl)
   |exact⟨i+1,rfl,⟨by omega,sB hall (by simp[yg,-List.getD_eq_getElem?_getD, *])⟩,by omega⟩
 ·obtain rfl:i=ns.length:=by omega
  repeat' (first|(with_reducible first|refine ac ?_|refine ab ‹_› rfl ?_|refine ai (λhbr=>?_) λhbr=>?_)|simp(disch:=first|omega|(simp only[aq];omega)|simp only[ap,Nat.reduceAdd]) only[go_sem,true_and])
  all_goals first|omega|(rw[t1 (aV.2 hall)];rfl)
theorem Id(k:Int)(its:List It)(ps:List aX)(ns cl lv:List ByteArray)(c e:Int)(k2:Int)(its2:List It)(ps2:List aX)(ns2 cl2 lv2:List ByteArray)(c2 e2:Int)(h1:cl2.length<=1000000000)(h2:lv2.length<=1000000000):
 fI Try.prog 74 [(true,aj (.mk k its ps ns cl lv c e),true),(true,aj (.mk k2 its2 ps2 ns2 cl2 lv2 c2 e2),false)] [(true,aj (.mk k its ps ns (if lv2=[]then cl else cl2) (if lv2=[]then lv else lv2) c e),true)]:=by
 have g1:=l8 cl2 (by omega);have g2:=l8 lv2 (by omega);simp only[aj,af,av]at g1 g2 ⊢;refine dt Try.func74 pw rfl (by simp) ?_;simp only[ip]
 repeat' (first|(with_reducible first|refine ac ?_|refine ab ‹_› rfl ?_|refine ai (λhbr=>?_) λhbr=>?_)|simp(disch:=first|omega|(simp only[aq];omega)|simp only[ap,Nat.reduceAdd]) only[go_sem,true_and])
 ·have:lv2≠[]:=by rintro rfl;simp at*
  rw[if_neg this,if_neg this];rfl
 ·have:lv2=[]:=List.eq_nil_of_length_eq_zero (by omega);subst this;rfl
def AR(x:It):ByteArray:=if x=bA then⟨#[78,65]⟩else if cI x then(if x.den=1 then ic x.num else ic x.num++⟨#[47]⟩++ic x.den)else⟨#[]⟩
theorem wR{x:It}(h:cI x=true):1<=x.den/\x.den<=999999999/\-999999999<=x.num/\x.num<=999999999:=by
 unfold cI at h;simp only[Bool.and_eq_true,decide_eq_true_eq]at h;omega
theorem o5{n:Int}(h:Ln n):(ic n).size<=20:=by
 unfold ic;rw[sM];exact C3 h
theorem FN(x:It):(AR x).size<=41:=by
 unfold AR;split
 ·decide
 split
 ·rename_i h;obtain⟨h1,h2,h3,h4⟩:=wR h;have a1:=o5 (n:=x.num) ⟨by omega,by omega⟩;have a2:=o5 (n:=x.den) ⟨by omega,by omega⟩;split
  ·omega
  ·simp only[ByteArray.size_append];have:(⟨#[47]⟩:ByteArray).size=1:=rfl;omega
 ·decide
theorem Nk(x:It):aI Try.prog 97 [(true,au x)] [(false,[.sc (.string (AR x))],true)]:=by
 have h1:=xg x;have hb:=@wR x;have g1:cI x=true->_:=λh=>tT x.num ⟨by have:=hb h;omega,by have:=hb h;omega⟩
 have g2:cI x=true->_:=λh=>tT x.den ⟨by have:=hb h;omega,by have:=hb h;omega⟩
 have s1:cI x=true->_:=λh=>o5 (n:=x.num) ⟨by have:=hb h;omega,by have:=hb h;omega⟩
 have s2:cI x=true->_:=λh=>o5 (n:=x.den) ⟨by have:=hb h;omega,by have:=hb h;omega⟩
 simp only[au]at h1 ⊢;refine ah Try.func97 nh rfl ?_;simp only[fZ];unfold AR;by_cases h0:x=bA
 ·rw[if_pos h0]
  repeat' (first|(with_reducible first|refine ac ?_|refine ab ‹_› rfl ?_|refine ai (λhbr=>?_) λhbr=>?_)|simp(disch:=first|omega|(simp only[aq];omega)|simp only[ap,Nat.reduceAdd]) only[go_sem,dY])
  all_goals first|rfl|simp_all
 rw[if_neg h0]
 cases hn:cI x with
 |true=>
  have g1:=g1 hn;have g2:=g2 hn;have s1:=s1 hn;have s2:=s2 hn;rw[hn]at h1;by_cases h1d:x.den=1
  ·repeat' (first|(with_reducible first|refine ac ?_|refine ab ‹_› rfl ?_|refine ai (λhbr=>?_) λhbr=>?_)|simp(disch:=first|omega|(simp only[aq];omega)|simp only[ap,Nat.reduceAdd]) only[go_sem,dY])
   all_goals first|(rw[if_pos h1d];rfl)|simp_all
  ·repeat' (first|(with_reducible refine ac ?_)|(with_reducible refine ab ‹_› rfl ?_)|(with_reducible refine ai (λhbr=>?_) λhbr=>?_)|simp(disch:=first|omega|(simp only[ByteArray.size_append,TU,List.size_toArray,List.length_cons,List.length_nil,Nat.zero_add,Nat.reduceAdd,DQ];omega)|(simp only[List.length_append,List.map_cons,List.map_nil,List.length_map,List.length_cons,List.length_nil];omega)|(simp only[List.length_cons,List.length_nil,Nat.zero_add,Nat.reduceAdd])) only[go_sem,Aj,ByteArray.append_assoc,I4,IL,Ff,Cd,sC,P0,QG,KR,Ih,IR,I6,dY])
   all_goals first|(rw[if_neg h1d];rfl)|simp_all
 |false=>
  rw[hn]at h1
  repeat' (first|(with_reducible first|refine ac ?_|refine ab ‹_› rfl ?_|refine ai (λhbr=>?_) λhbr=>?_)|simp(disch:=first|omega|(simp only[aq];omega)|simp only[ap,Nat.reduceAdd]) only[go_sem,dY])
  all_goals first|rfl|simp_all
theorem MG(x:It):aI Try.prog 90 [(true,au x)] [(false,[.sc (.string (AR x))],true)]:=by
 have h1:=xB x;have hb:=@wR x;have g1:cI x=true->_:=λh=>sO x.num ⟨by have:=hb h;omega,by have:=hb h;omega⟩
 have g2:cI x=true->_:=λh=>sO x.den ⟨by have:=hb h;omega,by have:=hb h;omega⟩
 have s1:cI x=true->_:=λh=>o5 (n:=x.num) ⟨by have:=hb h;omega,by have:=hb h;omega⟩
 have s2:cI x=true->_:=λh=>o5 (n:=x.den) ⟨by have:=hb h;omega,by have:=hb h;omega⟩
 simp only[au]at h1 ⊢;refine ah Try.func90 nx rfl ?_;simp only[fQ];unfold AR;by_cases h0:x=bA
 ·rw[if_pos h0]
  repeat' (first|(with_reducible first|refine ac ?_|refine ab ‹_› rfl ?_|refine ai (λhbr=>?_) λhbr=>?_)|simp(disch:=first|omega|(simp only[aq];omega)|simp only[ap,Nat.reduceAdd]) only[go_sem,dY])
  all_goals first|rfl|simp_all
 rw[if_neg h0]
 cases hn:cI x with
 |true=>
  have g1:=g1 hn;have g2:=g2 hn;have s1:=s1 hn;have s2:=s2 hn;rw[hn]at h1;by_cases h1d:x.den=1
  ·repeat' (first|(with_reducible first|refine ac ?_|refine ab ‹_› rfl ?_|refine ai (λhbr=>?_) λhbr=>?_)|simp(disch:=first|omega|(simp only[aq];omega)|simp only[ap,Nat.reduceAdd]) only[go_sem,dY])
   all_goals first|(rw[if_pos h1d];rfl)|simp_all
  ·repeat' (first|(with_reducible refine ac ?_)|(with_reducible refine ab ‹_› rfl ?_)|(with_reducible refine ai (λhbr=>?_) λhbr=>?_)|simp(disch:=first|omega|(simp only[ByteArray.size_append,TU,List.size_toArray,List.length_cons,List.length_nil,Nat.zero_add,Nat.reduceAdd,DQ];omega)|(simp only[List.length_append,List.map_cons,List.map_nil,List.length_map,List.length_cons,List.length_nil];omega)|(simp only[List.length_cons,List.length_nil,Nat.zero_add,Nat.reduceAdd])) only[go_sem,Aj,ByteArray.append_assoc,I4,IL,Ff,Cd,sC,P0,QG,KR,Ih,IR,I6,dY])
   all_goals first|(rw[if_neg h1d];rfl)|simp_all
 |false=>
  rw[hn]at h1
  repeat' (first|(with_reducible first|refine ac ?_|refine ab ‹_› rfl ?_|refine ai (λhbr=>?_) λhbr=>?_)|simp(disch:=first|omega|(simp only[aq];omega)|simp only[ap,Nat.reduceAdd]) only[go_sem,dY])
  all_goals first|rfl|simp_all
def cvI(k m:Int)(x:It):It:=if x=bA\/k=m\/m≠3 then x else if k=2 then vr (AR x)else if x.num=1 then vr ⟨#[84,82,85,69]⟩else vr ⟨#[70,65,76,83,69]⟩
theorem OV(x:It)(k m:Int)(h1:1<=k/\k<=m)(h2:m<=3):aI Try.prog 86 [(true,au x),(false,[.sc (.int .i64 k)]),(false,[.sc (.int .i64 m)])] [(true,au (cvI k m x),true)]:=by
 have g1:=ke x;have g2:=Nk x;have g3:=l5 (AR x);have g4:=l5 ⟨#[84,82,85,69]⟩;have g5:=l5 ⟨#[70,65,76,83,69]⟩;simp only[au]at g1 g2 g3 g4 g5 ⊢;refine ah Try.func86 oK rfl ?_;simp only[gD];unfold cvI;by_cases h0:x=bA\/k=m\/m≠3
 ·rw[if_pos h0]
  repeat' (first|(with_reducible first|refine ac ?_|refine ab ‹_› rfl ?_|refine ai (λhbr=>?_) λhbr=>?_)|simp(disch:=first|omega|(simp only[aq];omega)|simp only[ap,Nat.reduceAdd]) only[go_sem,true_and])
  all_goals first|rfl|(exfalso;rcases h0 with h|h|h<;>first|contradiction|omega)
 ·rw[if_neg h0]
  repeat' (first|(with_reducible first|refine ac ?_|refine ab ‹_› rfl ?_|refine ai (λhbr=>?_) λhbr=>?_)|simp(disch:=first|omega|(simp only[aq];omega)|simp only[ap,Nat.reduceAdd]) only[go_sem,true_and])
  all_goals first|(exfalso;simp_all;done)|(simp_all;rfl)
theorem Tg{t:Nat}{a:DV}{l:List (List DV)}:d6 1 (some (.sl t 1 ([a]::l))) (some (.sc (.int .i64 0)))=some [a]:=rfl
theorem Sf{t:Nat}{a b:DV}{l:List (List DV)}:d6 1 (some (.sl t 1 ([a]::[b]::l))) (some (.sc (.int .i64 1)))=some [b]:=rfl
theorem TK{t:Nat}{a:DV}{l:List (List DV)}:CA 1 (some (.sl t 1 ([a]::l))) (some (.sc (.int .i64 0)))=some []:=by simp[CA]
theorem R7{t:Nat}{a b:DV}{l:List (List DV)}:CA 1 (some (.sl t 1 ([a]::[b]::l))) (some (.sc (.int .i64 1)))=some []:=by simp[CA]
theorem JI(x:It)(k m:Int)(h1:1<=k/\k<=m)(h2:m<=3)(hb:k=1->x=bA\/x.num=0\/x.num=1):aI Try.prog 64 [(false,[.sc (.int .i64 k)]),(false,[.sc (.int .i64 m)]),(true,au x)] [(true,au (cvI k m x),true)]:=by
 have g2:=MG x;have g3:=lK (AR x);have g4:=lK ⟨#[84,82,85,69]⟩;have g5:=lK ⟨#[70,65,76,83,69]⟩;simp only[au]at g2 g3 g4 g5 ⊢;refine ah Try.func64 zr rfl ?_;simp only[pU];unfold cvI;by_cases h0:x=bA\/k=m\/m≠3
 ·rw[if_pos h0]
  repeat' (first|(with_reducible first|refine ac ?_|refine ab ‹_› rfl ?_|refine ai (λhbr=>?_) λhbr=>?_)|simp(disch:=first|omega|(simp only[aq];omega)|simp only[ap,Nat.reduceAdd]) only[go_sem,dY])
  all_goals first|rfl|(exfalso;rcases h0 with h|h|h<;>first|contradiction|omega)
 ·rw[if_neg h0];by_cases hk:k=1
  ·rcases hb hk with h|h|h
   ·exact absurd (.inl h) h0
   ·rw[if_neg (by omega),if_neg (by omega)]
    repeat' (first|(with_reducible first|refine ac ?_|refine ab ‹_› rfl ?_|refine ai (λhbr=>?_) λhbr=>?_)|simp(disch:=first|omega|(simp only[aq];omega)|simp only[ap,Nat.reduceAdd]) only[go_sem,dY])
    all_goals first|(exfalso;simp_all;done)|skip
    rw[h]
    repeat' (first|(with_reducible first|refine ac ?_|refine ab ‹_› rfl ?_|refine ai (λhbr=>?_) λhbr=>?_)|simp(disch:=first|omega|(simp only[aq];omega)|simp only[ap,Nat.reduceAdd]) only[go_sem,Tg,TK])
    all_goals first|(simp_all;rfl)
   ·rw[if_neg (by omega),if_pos h]
    repeat' (first|(with_reducible first|refine ac ?_|refine ab ‹_› rfl ?_|refine ai (λhbr=>?_) λhbr=>?_)|simp(disch:=first|omega|(simp only[aq];omega)|simp only[ap,Nat.reduceAdd]) only[go_sem,dY])
    all_goals first|(exfalso;simp_all;done)|skip
    rw[h]
    repeat' (first|(with_reducible first|refine ac ?_|refine ab ‹_› rfl ?_|refine ai (λhbr=>?_) λhbr=>?_)|simp(disch:=first|omega|(simp only[aq];omega)|simp only[ap,Nat.reduceAdd]) only[go_sem,Sf,R7])
    all_goals first|(simp_all;rfl)
  ·rw[if_pos (by omega)]
   repeat' (first|(with_reducible first|refine ac ?_|refine ab ‹_› rfl ?_|refine ai (λhbr=>?_) λhbr=>?_)|simp(disch:=first|omega|(simp only[aq];omega)|simp only[ap,Nat.reduceAdd]) only[go_sem,dY])
   all_goals first|rfl|(exfalso;simp_all;done)|(simp_all;rfl)
theorem fE{t ti:Nat}{l:List aX}{v:aX}(h:l.length<=1000000000):xQ t 8 144 (some (.sl t 8 (l.map (iB ti t)))) (some (.sl t 8 [iB ti t v]))=some [.sl t 8 ((l++[v]).map (iB ti t))]:=by
 have h1:((l.map (iB ti t)).length+[iB ti t v].length)*144<=1000000001*144:=Nat.mul_le_mul_right _ (by simp;omega);rw[List.map_append];have h3:(l.map (iB ti t)).length+[iB ti t v].length<=9223372036854775807:=by simp;omega
 grind [xQ]
def Vq(v:aX):Prop:=ck v<=1000000000->aI Try.prog 18 [(true,aj v)] [(true,aj v,true)]
theorem vp(v:aX):Vq v:=aX.ind (λk its ps ns cl lv c e ih hw=>by
 obtain⟨b1,b2,b3,b4,b5,b6⟩:=rU hw;have g1:=Ps its (by omega);have g2:=l8 ns (by omega);have g3:=l8 cl (by omega);have g4:=l8 lv (by omega);simp only[aj,af,av]at g1 g2 g3 g4 ⊢;refine ah Try.func18 pt rfl ?_;simp only[im]
 repeat' (first|(with_reducible first|refine ac ?_|refine ab ‹_› rfl ?_|refine ai (λhbr=>?_) λhbr=>?_)|simp(disch:=first|omega|(simp only[aq];omega)|simp only[ap,Nat.reduceAdd]) only[go_sem,true_and])
 refine lp (λi:Nat=>[.sc (.int .i64 i),.sl 28 8 ((ps.take i).map aj)]) (λi=>i<=ps.length) (λi=>ps.length-i) 0 rfl (Nat.zero_le _) ?_;intro i hi;simp only[gU];by_cases hlt:i<ps.length
 ·have hm:=aG hlt;have hc:=ih _ hm (b6 _ hm);have hix:d6 8 (some (.sl 28 8 (ps.map aj))) (some (.sc (.int .i64 (i:Int))))=some (aj (ps.getD i default)):=by rw[py (by omega) (by omega),Int.toNat_natCast]
  have hap:=fE (t:=28) (ti:=42) (l:=ps.take i) (v:=ps.getD i default) (by simp;omega);rw[<-bm hlt]at hap;generalize ps.getD i default=x at hc hix hap;obtain⟨x0,x1,x2,x3,x4,x5,x6,x7⟩:=x;simp only[aj,af,av]at hc hix hap
  repeat' (first|(with_reducible first|refine ac ?_|refine ab ‹_› rfl ?_|refine ai (λhbr=>?_) λhbr=>?_)|simp(disch:=first|omega|(simp only[aq];omega)|simp only[ap,Nat.reduceAdd]) only[go_sem,hix,hap])
  all_goals first|omega|exact⟨i+1,rfl,by omega,by omega⟩
 ·obtain rfl:i=ps.length:=by omega
  rw[List.take_length]
  repeat' (first|(with_reducible first|refine ac ?_|refine ab ‹_› rfl ?_|refine ai (λhbr=>?_) λhbr=>?_)|simp(disch:=first|omega|(simp only[aq];omega)|simp only[ap,Nat.reduceAdd]) only[go_sem,true_and])
  all_goals first|omega|rfl) v
theorem qz:∀(n:Nat) (v:aX),gZ n v=true->gZ (n+1) v=true
 |0,.mk k its ps ns cl lv c e,h=>by
  rw[eI,Bool.and_eq_true]at h ⊢;refine⟨h.1,?_⟩
  cases ps with
  |nil=>rfl
  |cons p r=>have:=aV.1 h.2 0 (by simp);cases this
 |n+1,.mk k its ps ns cl lv c e,h=>by
  rw[eI,Bool.and_eq_true]at h ⊢;exact⟨h.1,aV.2 λj hj=>qz n _ (aV.1 h.2 j hj)⟩
def aX.kids:aX->List aX|.mk _ _ ps _ _ _ _ _=>ps
theorem lz{v:aX}(h:gZ 3 v=true):∀p∈v.kids,gZ 3 p=true:=by
 obtain⟨k,its,ps,ns,cl,lv,c,e⟩:=v;rw[eI,Bool.and_eq_true]at h;intro p hp;change p∈ps at hp;obtain⟨j,hj,rfl⟩:=List.mem_iff_getElem.1 hp;have h2:gZ 2 (ps.getD j default)=true:=aV.1 h.2 j hj;rw[List.getD_eq_getElem?_getD,List.getElem?_eq_getElem hj]at h2;exact qz 2 _ h2
def Vf(v:aX):Prop:=ck v<=1000000000->(∀p∈v.kids,gZ 3 p=true)->v.kids.length<=40->aI Try.prog 28 [(true,aj v)] [(true,aj v,true)]
theorem lT{v:aX}(h:gZ 3 v=true):v.kids.length<=40:=by
 obtain⟨k,its,ps,ns,cl,lv,c,e⟩:=v;rw[eI,Bool.and_eq_true]at h;have h1:=h.1;unfold ur gA gB dX at h1;simp only[Bool.and_eq_true,Bool.or_eq_true,decide_eq_true_eq]at h1;obtain⟨⟨-,h2,-⟩,⟨-,-,h3⟩,-⟩:=h1;show ps.length<=40;split at h2<;>omega
theorem Kq(ps:List aX)(ih:∀p∈ps,Vf p)(hw:∀p∈ps,ck p<=1000000000)(hv:∀p∈ps,gZ 3 p=true)(hl:ps.length<=40):aI Try.prog 63 [(false,[.sl 28 8 (ps.map aj)])] [(false,[.sl 28 8 (ps.map aj)],true)]:=by
 refine ah Try.func63 s9 rfl ?_;simp only[km];simp(disch:=first|omega|(simp only[aq];omega)|simp only[ap,Nat.reduceAdd]) only[go_sem,true_and];refine lp (λi:Nat=>[.sc (.int .i64 i),.sl 28 8 ((ps.take i).map aj)]) (λi=>i<=ps.length) (λi=>ps.length-i) 0 rfl (Nat.zero_le _) ?_;intro i hi;simp only[jb];by_cases hlt:i<ps.length
 ·have hm:=aG hlt;have hc:=ih _ hm (hw _ hm) (lz (hv _ hm)) (lT (hv _ hm));have hs:aI Try.prog 61 [(true,aj (ps.getD i default)),(false,[.sc (.int .i64 3)])] [(false,[.sc (.bool (gZ 3 (ps.getD i default)))],true)]:=JO 3 (by omega) _ (hw _ hm);rw[hv _ hm]at hs;have hix:d6 8 (some (.sl 28 8 (ps.map aj))) (some (.sc (.int .i64 (i:Int))))=some (aj (ps.getD i default)):=by rw[py (by omega) (by omega),Int.toNat_natCast]
  have hap:=fE (t:=28) (ti:=42) (l:=ps.take i) (v:=ps.getD i default) (by simp;omega);rw[<-bm hlt]at hap;generalize ps.getD i default=x at hc hix hap hs;obtain⟨x0,x1,x2,x3,x4,x5,x6,x7⟩:=x;simp only[aj,af,av]at hc hix hap hs
  repeat' (first|(with_reducible first|refine ac ?_|refine ab ‹_› rfl ?_|refine ai (λhbr=>?_) λhbr=>?_)|simp(disch:=first|omega|(simp only[aq];omega)|simp only[ap,Nat.reduceAdd]) only[go_sem,hix,hap,jP])
  all_goals first|omega|exact⟨i+1,rfl,by omega,by omega⟩
 ·obtain rfl:i=ps.length:=by omega
  rw[List.take_length]
  repeat' (first|(with_reducible first|refine ac ?_|refine ab ‹_› rfl ?_|refine ai (λhbr=>?_) λhbr=>?_)|simp(disch:=first|omega|(simp only[aq];omega)|simp only[ap,Nat.reduceAdd]) only[go_sem,true_and])
  all_goals first|omega|rfl
theorem zU(v:aX):Vf v:=aX.ind (λk its ps ns cl lv c e ih hw hv hl=>by
 obtain⟨b1,b2,b3,b4,b5,b6⟩:=rU hw;have g:=Kq ps ih b6 hv hl;simp only[aj,af,av]at g ⊢;refine ah Try.func28 vB rfl ?_;simp only[mM]
 repeat' (first|(with_reducible first|refine ac ?_|refine ab ‹_› rfl ?_|refine ai (λhbr=>?_) λhbr=>?_)|simp(disch:=first|omega|(simp only[aq];omega)|simp only[ap,Nat.reduceAdd]) only[go_sem,BV])
 all_goals ((try simp only[List.isEmpty_iff]at*);(try subst_vars);rfl)) v
structure VF(k:Int)(its:List It)(ps:List aX)(ns cl lv:List ByteArray)(c e:Int):Prop where
 k0:0<=k
 k5:k<=5
 i0:k=0\/k=4\/k=5->its=[]
 p0:k≠4->ps=[]
 il:its.length<=40
 pl:ps.length<=40
 nl:ns=[]\/k≠5/\ns.length=its.length+ps.length
 n5:k=0\/k=5->ns=[]
 nm:GM ns=true
 l0:k≠2->lv=[]
 lb:iR lv 20=true
 lc:iR cl 3=true
 ce:k≠5->c=0/\e=0
 it:∀x∈its,dd k lv.length x=true
 kd:∀p∈ps,gZ 2 p=true
 c0:k=0->cl=[]
theorem vf{k:Int}{its:List It}{ps:List aX}{ns cl lv:List ByteArray}{c e:Int}(h:gZ 3 (.mk k its ps ns cl lv c e)=true):VF k its ps ns cl lv c e:=by
 rw[eI,Bool.and_eq_true]at h;obtain⟨h1,h2⟩:=h;unfold ur gA gB dX gC at h1;simp only[Bool.and_eq_true,Bool.or_eq_true,decide_eq_true_eq]at h1;obtain⟨⟨a1,a2,a3,a5,a6,a7⟩,⟨b1,b2,b3⟩,b4⟩:=h1;have nl:∀{α:Type} {l:List α},l.length=0->l=[]:=λh=>List.eq_nil_of_length_eq_zero h
 have hk:∀p∈ps,gZ 2 p=true:=λp hp=>by
  obtain⟨j,hj,rfl⟩:=List.mem_iff_getElem.1 hp;have h3:gZ 2 (ps.getD j default)=true:=aV.1 h2 j hj
  rwa [List.getD_eq_getElem?_getD,List.getElem?_eq_getElem hj]at h3
 have hit:∀{p:Nat->Bool} {q:It->Prop},bP p its.length=true->(∀j,j<its.length->p j=true->q (its.getD j default))->∀x∈its,q x:=λhp hq x hx=>by
  obtain⟨j,hj,rfl⟩:=List.mem_iff_getElem.1 hx;have:=hq j hj (aV.1 hp j hj)
  rwa [List.getD_eq_getElem?_getD,List.getElem?_eq_getElem hj]at this
 have b3':k≠4->ps=[]:=λh=>nl (b3.resolve_left h)
 have i0:k=0\/k=4\/k=5->its=[]:=by
  rintro(rfl|rfl|rfl)
  ·simp at b4 a2;exact nl (by omega)
  ·simp at b4;exact nl (by simpa using b4)
  ·simp at b4;exact nl (by simpa using b4.1)
 have n5:k=0\/k=5->ns=[]:=by
  rintro(rfl|rfl)
  ·simp at b4 a2 a3;exact nl (by rcases a3 with h|h;simp[h];omega)
  ·simp at b4;exact nl (by simpa using b4.2.1)
 have hln:(its.length:Int)+ps.length<=40:=by
  by_cases h5:k=5
  ·rw[i0 (.inr (.inr h5)),b3' (by omega)];decide
  ·rw[if_neg h5]at a2;exact a2
 refine⟨a1.1,a1.2,i0,b3',by omega,by omega,?_,n5,a5,λh=>nl (b2.resolve_left h),a7,a6,λh=>b1.resolve_left h,?_,hk,?_⟩
 ·rcases a3 with h|h
  ·exact .inl (nl h)
  ·by_cases h5:k=5
   ·exact .inl (n5 (.inr h5))
   ·rw[if_neg h5]at h;exact .inr ⟨h5,by omega⟩
 ·by_cases h5:k=0\/k=4\/k=5
  ·rw[i0 h5];simp
  ·rw[if_neg (by omega),if_neg (by omega),if_neg (by omega)]at b4;exact hit b4 λj hj h=>h
 ·rintro rfl;simp at b4;exact nl (by simp[b4])
def nv:aX->Int->aX
 |.mk k its ps ns cl lv c e,m=>.mk m (if m=4 then[]else its.map (cvI k m)) (if m=4 then(if k=5 then[.mk k its ps ns cl lv c e]else ps++its.map λx=>fV k [x])else[]) ns [] [] 0 0
theorem DC{l:List aX}{m:List It}{x:It}{k:Int}{i:Nat}(h:l.length<=1048000)(hm:m.length<=100)(hi:i<m.length)(hx:x=m.getD i default):
 xQ 28 8 144 (some (.sl 28 8 ((l++(m.take i).map λx=>fV k [x]).map aj))) (some (.sl 28 8 [eF k [x]]))=some [.sl 28 8 ((l++(m.take (i+1)).map λx=>fV k [x]).map aj)]:=by
 rw[<-mn,fE (by simp;omega),bm hi,hx];simp
theorem Jk{k:Int}{its:List It}{ps:List aX}{ns cl lv:List ByteArray}{c e:Int}(h:VF k its ps ns cl lv c e)(hw:ck (.mk k its ps ns cl lv c e)<=1000000000){m:Int}(hm:k<=m\/k=5)(hm4:m<=4)(hm5:k=5->m=4):
 aI Try.prog 60 [(true,aj (.mk k its ps ns cl lv c e)),(false,[.sc (.int .i64 m)])] [(true,aj (nv (.mk k its ps ns cl lv c e) m),true),(false,[.sc (.bool true)],true)]:=by
 obtain⟨b1,b2,b3,b4,b5,b6⟩:=rU hw;have g1:=l8 ns (by omega);have g2:=vp _ hw;have hk0:=h.k0;simp only[nv];by_cases h5:k=5
 ·have hm4:=hm5 h5;have hi:=h.i0 (.inr (.inr h5));subst hi;rw[if_pos hm4,if_pos hm4,if_pos h5];simp only[aj,af,av,List.map_cons,List.map_nil]at g1 g2 ⊢;refine ah Try.func60 gd rfl ?_;simp only[eq]
  repeat' (first|(with_reducible first|refine ac ?_|refine ab ‹_› rfl ?_|refine ai (λhbr=>?_) λhbr=>?_)|simp(disch:=first|omega|(simp only[aq];omega)|simp only[ap,Nat.reduceAdd]) only[go_sem,true_and])
  all_goals first|omega|(subst hm4;rfl)
 rw[if_neg h5];by_cases h4:m=4
 ·rw[if_pos h4,if_pos h4];simp only[aj,af,av]at g1 ⊢;refine ah Try.func60 gd rfl ?_;simp only[eq]
  repeat' (first|(with_reducible first|refine ac ?_|refine ab ‹_› rfl ?_|refine ai (λhbr=>?_) λhbr=>?_)|simp(disch:=first|omega|(simp only[aq];omega)|simp only[ap,Nat.reduceAdd]) only[go_sem,true_and])
  all_goals first|omega|skip
  refine lp (λi:Nat=>[.sc (.int .i64 i),.sl 28 8 ((ps.take i).map aj)]) (λi=>i<=ps.length) (λi=>ps.length-i) 0 rfl (Nat.zero_le _) ?_;intro i hi;simp only[kJ];by_cases hlt:i<ps.length
  ·have hm:=aG hlt;have hc:=vp _ (b6 _ hm);have hix:d6 8 (some (.sl 28 8 (ps.map aj))) (some (.sc (.int .i64 (i:Int))))=some (aj (ps.getD i default)):=by rw[py (by omega) (by omega),Int.toNat_natCast]
   have hap:=fE (t:=28) (ti:=42) (l:=ps.take i) (v:=ps.getD i default) (by simp;omega);rw[<-bm hlt]at hap;generalize ps.getD i default=x at hc hix hap;obtain⟨x0,x1,x2,x3,x4,x5,x6,x7⟩:=x;simp only[aj,af,av]at hc hix hap
   repeat' (first|(with_reducible first|refine ac ?_|refine ab ‹_› rfl ?_|refine ai (λhbr=>?_) λhbr=>?_)|simp(disch:=first|omega|(simp only[aq];omega)|simp only[ap,Nat.reduceAdd]) only[go_sem,hix,hap])
   all_goals first|omega|exact⟨i+1,rfl,by omega,by omega⟩
  ·obtain rfl:i=ps.length:=by omega
   rw[List.take_length]
   repeat' (first|(with_reducible first|refine ac ?_|refine ab ‹_› rfl ?_|refine ai (λhbr=>?_) λhbr=>?_)|simp(disch:=first|omega|(simp only[aq];omega)|simp only[ap,Nat.reduceAdd]) only[go_sem,true_and])
   all_goals first|omega|skip
   refine lp (λi:Nat=>[.sc (.int .i64 i),.sl 28 8 ((ps++(its.take i).map λx=>fV k [x]).map aj)]) (λi=>i<=its.length) (λi=>its.length-i) 0 (by simp[gL]) (Nat.zero_le _) ?_;intro i hi;simp only[kw];by_cases hlt:i<its.length
   ·have hix:=cM (t:=42) (l:=its) (kd:=.i64) (z:=(i:Int)) (by omega) (by omega);rw[Int.toNat_natCast]at hix;have hap:=DC (l:=ps) (m:=its) (i:=i) (k:=k) (by have:=h.pl;omega) (by have:=h.il;omega) hlt rfl;generalize its.getD i default=x at hix hap;simp only[eF,au,List.map_cons,List.map_nil]at hix hap
    repeat' (first|(with_reducible first|refine ac ?_|refine ab ‹_› rfl ?_|refine ai (λhbr=>?_) λhbr=>?_)|simp(disch:=first|omega|(simp only[aq];omega)|simp only[ap,Nat.reduceAdd]) only[go_sem,hix,hap])
    all_goals first|omega|exact⟨i+1,rfl,by omega,by omega⟩
   ·obtain rfl:i=its.length:=by omega
    rw[List.take_length]
    repeat' (first|(with_reducible first|refine ac ?_|refine ab ‹_› rfl ?_|refine ai (λhbr=>?_) λhbr=>?_)|simp(disch:=first|omega|(simp only[aq];omega)|simp only[ap,Nat.reduceAdd]) only[go_sem,true_and])
    all_goals first|omega|(subst h4;rfl)
 ·rw[if_neg h4,if_neg h4];simp only[aj,af,av,List.map_nil]at g1 ⊢;refine ah Try.func60 gd rfl ?_;simp only[eq]
  repeat' (first|(with_reducible first|refine ac ?_|refine ab ‹_› rfl ?_|refine ai (λhbr=>?_) λhbr=>?_)|simp(disch:=first|omega|(simp only[aq];omega)|simp only[ap,Nat.reduceAdd]) only[go_sem,true_and])
  all_goals first|omega|skip
  refine lp (λi:Nat=>[.sc (.int .i64 i),.sl 42 3 (((its.take i).map (cvI k m)).map au)]) (λi=>i<=its.length) (λi=>its.length-i) 0 rfl (Nat.zero_le _) ?_;intro i hi;simp only[kN];by_cases hlt:i<its.length
  ·have hix:=cM (t:=42) (l:=its) (kd:=.i64) (z:=(i:Int)) (by omega) (by omega);rw[Int.toNat_natCast]at hix
   have hk1:1<=k:=by
    rcases Int.lt_or_le 0 k with h1|h1
    ·omega
    ·rw[h.i0 (.inl (by omega))]at hlt;simp at hlt
   have hc:=OV (its.getD i default) k m ⟨hk1,by omega⟩ (by omega);have hap:((its.take i).map (cvI k m)).map au++[au (cvI k m (its.getD i default))]=((its.take (i+1)).map (cvI k m)).map au:=by rw[bm hlt];simp
   generalize cvI k m (its.getD i default)=y at hc hap;generalize its.getD i default=x at hix hc;simp only[au]at hix hc hap
   repeat' (first|(with_reducible first|refine ac ?_|refine ab ‹_› rfl ?_|refine ai (λhbr=>?_) λhbr=>?_)|simp(disch:=first|omega|(simp only[aq];omega)|simp only[ap,Nat.reduceAdd]) only[go_sem,hix,gn,hap])
   all_goals first|omega|exact⟨i+1,rfl,by omega,by omega⟩
  ·obtain rfl:i=its.length:=by omega
   rw[List.take_length]
   repeat' (first|(with_reducible first|refine ac ?_|refine ab ‹_› rfl ?_|refine ai (λhbr=>?_) λhbr=>?_)|simp(disch:=first|omega|(simp only[aq];omega)|simp only[ap,Nat.reduceAdd]) only[go_sem,true_and])
   all_goals first|omega|rfl
theorem NZ{k:Int}{its:List It}{ps:List aX}{ns cl lv:List ByteArray}{c e:Int}(hv:cd (.mk k its ps ns cl lv c e)=true)(hw:ck (.mk k its ps ns cl lv c e)<=1000000000){m:Int}(hm:k<=m\/k=5)(hm4:m<=4)(hm5:k=5->m=4)
 (hv2:cd (nv (.mk k its ps ns cl lv c e) m)=true) (hw2:ck (nv (.mk k its ps ns cl lv c e) m)<=1000000000):
 aI Try.prog 31 [(true,aj (.mk k its ps ns cl lv c e)),(false,[.sc (.int .i64 m)])] [(true,aj (nv (.mk k its ps ns cl lv c e) m),true),(false,[.sc (.bool true)],true)]:=by
 obtain⟨b1,b2,b3,b4,b5,b6⟩:=rU hw;have hv3:gZ 3 (.mk k its ps ns cl lv c e)=true:=by unfold cd at hv;simp only[Bool.and_eq_true]at hv;exact hv.1
 have h:=vf hv3;have g1:=eN _ hw;have g2:=eN _ hw2;have g3:=L8 m 0 4;have hk0:=h.k0;rw[hv]at g1;rw[hv2]at g2;rw[decide_eq_true (by omega)]at g3;clear hv2 hw2;have g4:=Kq ps (λp _=>zU p) b6 (λp hp=>qz 2 p (h.kd p hp)) h.pl;have g5:=zU _ hw (lz hv3) (lT hv3);simp only[nv]at g2 ⊢;by_cases h4:m=4
 ·rw[if_pos h4,if_pos h4]at g2 ⊢;have hP:∃P:List aX,P=(if k=5 then[.mk k its ps ns cl lv c e]else ps)/\P.length<=40:=⟨_,rfl,by have:=h.pl;split<;>simp;omega⟩;obtain⟨P,hP,hPl⟩:=hP
  have hPe:(if k=5 then[.mk k its ps ns cl lv c e]else ps++its.map λx=>fV k [x])=P++its.map λx=>fV k [x]:=by
   rw[hP];split
   ·rename_i h5;rw[h.i0 (.inr (.inr h5))];rfl
   ·rfl
  rw[hPe]at g2 ⊢;have p1:k=5->P.map aj=[aj (.mk k its ps ns cl lv c e)]:=λh=>by rw[hP,if_pos h];rfl
  have p2:k≠5->P.map aj=ps.map aj:=λh=>by rw[hP,if_neg h]
  have p3:k≠4->ps=[]:=h.p0;clear hP hPe;simp only[aj,af,av,List.map_nil]at g1 g2 g4 g5 p1 p2 ⊢;refine ah Try.func31 fY rfl ?_;simp only[dU]
  repeat' (first|(with_reducible first|refine ac ?_|refine ab ‹_› rfl ?_|refine ai (λhbr=>?_) λhbr=>?_)|simp(disch:=first|omega|(simp only[aq];omega)|simp only[ap,Nat.reduceAdd]) only[go_sem,dF,dv])
  all_goals first|omega|skip
  all_goals refine lp (λi:Nat=>[.sc (.int .i64 i),.sl 28 8 ((P++(its.take i).map λx=>fV k [x]).map aj),.sl 42 3 []]) (λi=>i<=its.length) (λi=>its.length-i) 0 (by simp only[gL,List.take_zero,List.map_nil,List.append_nil];first|(rw[p1 ‹_›];rfl)|(rw[p2 (by omega)];rfl)|(rw[p2 (by omega),p3 (by omega)];rfl)) (Nat.zero_le _) ?_
  all_goals
   intro i hi;simp only[dq];by_cases hlt:i<its.length
   ·have hix:=cM (t:=42) (l:=its) (kd:=.i64) (z:=(i:Int)) (by omega) (by omega);rw[Int.toNat_natCast]at hix;have hap:=DC (l:=P) (m:=its) (i:=i) (k:=k) (by omega) (by have:=h.il;omega) hlt rfl;generalize its.getD i default=x at hix hap;simp only[eF,au,List.map_cons,List.map_nil]at hix hap
    repeat' (first|(with_reducible first|refine ac ?_|refine ab ‹_› rfl ?_|refine ai (λhbr=>?_) λhbr=>?_)|simp(disch:=first|omega|(simp only[aq];omega)|simp only[ap,Nat.reduceAdd]) only[go_sem,hix,hap,dk])
    all_goals first|omega|exact⟨i+1,rfl,by omega,by omega⟩|skip
   ·obtain rfl:i=its.length:=by omega
    rw[List.take_length]
    repeat' (first|(with_reducible first|refine ac ?_|refine ab ‹_› rfl ?_|refine ai (λhbr=>?_) λhbr=>?_)|simp(disch:=first|omega|(simp only[aq];omega)|simp only[ap,Nat.reduceAdd]) only[go_sem,true_and])
    all_goals first|omega|(subst h4;rfl)
 ·rw[if_neg h4,if_neg h4]at g2 ⊢;have p3:ps=[]:=h.p0 (by omega);subst p3;simp only[aj,af,av,List.map_nil]at g1 g2 ⊢;refine ah Try.func31 fY rfl ?_;simp only[dU]
  repeat' (first|(with_reducible first|refine ac ?_|refine ab ‹_› rfl ?_|refine ai (λhbr=>?_) λhbr=>?_)|simp(disch:=first|omega|(simp only[aq];omega)|simp only[ap,Nat.reduceAdd]) only[go_sem,dF,dv])
  all_goals first|omega|skip
  all_goals refine lp (λi:Nat=>[.sc (.int .i64 i),.sl 28 8 [],.sl 42 3 (((its.take i).map (cvI k m)).map au)]) (λi=>i<=its.length) (λi=>its.length-i) 0 rfl (Nat.zero_le _) ?_
  all_goals
   intro i hi;simp only[dq];by_cases hlt:i<its.length
   ·have hix:=cM (t:=42) (l:=its) (kd:=.i64) (z:=(i:Int)) (by omega) (by omega);rw[Int.toNat_natCast]at hix
    have hk1:1<=k:=by
     rcases Int.lt_or_le 0 k with h1|h1
     ·omega
     ·rw[h.i0 (.inl (by omega))]at hlt;simp at hlt
    have hc:=JI (its.getD i default) k m ⟨hk1,by omega⟩ (by omega) (λe1=>by
     have h2:=h.it _ (aG hlt);unfold dd ry at h2;simp only[Bool.and_eq_true,Bool.or_eq_true,decide_eq_true_eq,e1,if_true]at h2;rcases h2.1 with h3|h3
     ·exact .inl h3
     ·right;omega)
    have hap:((its.take i).map (cvI k m)).map au++[au (cvI k m (its.getD i default))]=((its.take (i+1)).map (cvI k m)).map au:=by rw[bm hlt];simp
    generalize cvI k m (its.getD i default)=y at hc hap;generalize its.getD i default=x at hix hc;simp only[au]at hix hc hap
    repeat' (first|(with_reducible first|refine ac ?_|refine ab ‹_› rfl ?_|refine ai (λhbr=>?_) λhbr=>?_)|simp(disch:=first|omega|(simp only[aq];omega)|simp only[ap,Nat.reduceAdd]) only[go_sem,hix,gn,hap,dk])
    all_goals first|omega|exact⟨i+1,rfl,by omega,by omega⟩|skip
   ·obtain rfl:i=its.length:=by omega
    rw[List.take_length]
    repeat' (first|(with_reducible first|refine ac ?_|refine ab ‹_› rfl ?_|refine ai (λhbr=>?_) λhbr=>?_)|simp(disch:=first|omega|(simp only[aq];omega)|simp only[ap,Nat.reduceAdd]) only[go_sem,true_and])
    all_goals first|omega|rfl|skip
end Go.Proofs.Ytgdbmcoamemmaaa
