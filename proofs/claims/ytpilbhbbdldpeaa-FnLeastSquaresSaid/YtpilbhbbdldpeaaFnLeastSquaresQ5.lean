/- Proved: for every input the law 'FnLeastSquares' returns true and its arguments read behind the call as before: part 5 of its proof. No condition. -/
import Derived.WalkKit
import Derived.Lib.Hide
import Derived.WalkSpells
import Derived.Laws.OwnMore
import Derived.Deep.AppendLies
import Derived.Deep.Draws
import Derived.Maps.AppendAt
import Derived.RegionTactic
import Derived.OwnWalk
import Derived.Below
import Derived.Laws.AppendOwnNone
import Derived.Deep.QuietTactic
import Derived.BigQuiet
import Derived.StillTailTactics
import Derived.Laws.Cells
import Derived.Laws.IdiomCopy
import Derived.ChangeKeysEq
import Derived.Laws.BytesArg
import Derived.Laws.StructEq
import Derived.Laws.Tables
import Derived.Great.BuildSlice
import Derived.StillTail
import Derived.OrdersHeld
import Derived.Test.YtpilbhbbdldpeaaProg
import Derived.Deep.Slices
import Derived.Deep.Fields
import Derived.ChangeSame
import Derived.OpenShut
import Derived.Laws.ResultCell
import Derived.Deep.RegionWith
import Derived.Test.YtpilbhbbdldpeaaRows
import Derived.ProofKit
import Derived.ShutString
import Derived.ChangeOld
import Derived.SizedLaws
import Derived.Test.YtpilbhbbdldpeaaFnLeastSquaresQ4
set_option linter.unusedVariables false
set_option linter.unusedSimpArgs false
namespace Go.Proofs.Ytpilbhbbdldpeaa
open Go.RowKit
set_option maxRecDepth 100000
def u_impl_reduce_h : List Hint:=[⟨3000027,2,⟨[(17,.p false [.d 66]),(138,.p false [.d 64]),(16,.p false [.ptr 6 6 0]),(124,.p false [.d 55]),(15,.p false [.d 40]),(103,.p false [.d 41]),(14,.p false [.d 42]),(13,.p false [.ptr 5 5 0]),(63,.p false [.d 43]),(10,.p false [.d 44]),(59,.p false [.d 45]),(53,.p false [.d 46]),(9,.p false [.d 47]),(8,.p false [.d 48]),(36,.p false [.d 49]),(6,.p false [.own 4 4]),(7,.p false [.d 15]),(5,.p false [.ptr 3 3 0]),(4,.p false [.d 5]),(3,.p false [.nil]),(2,.p false [.ptr 1 1 0]),(1,.p false [.ptr 0 0 0]),(0,.p true [.d 0,.d 1,.d 2])],[(0,.var 0 26 [.d 0,.d 1,.d 2]),(1,.var 1 26 [.d 3,.d 4,.nil]),(3,.var 3 26 [.d 0,.d 1,.own 2 2]),(2,.row 2 39 3 67),(4,.row 4 55 5 51),(5,.var 5 39 [.d 52,.d 53,.d 54]),(6,.var 6 39 [.d 56,.d 57,.d 58])],7,7,68,[(64,false),(62,false),(55,true),(5,false)]⟩,[]⟩,⟨2000009,5,⟨[(138,.p false [.d 56]),(16,.p false [.ptr 6 6 0]),(124,.p false [.d 55]),(15,.p false [.d 40]),(103,.p false [.d 41]),(14,.p false [.d 42]),(13,.p false [.ptr 5 5 0]),(63,.p false [.d 43]),(10,.p false [.d 44]),(59,.p false [.d 45]),(53,.p false [.d 46]),(9,.p false [.d 47]),(8,.p false [.d 48]),(36,.p false [.d 49]),(6,.p false [.own 4 4]),(7,.p false [.d 15]),(5,.p false [.ptr 3 3 0]),(4,.p false [.d 5]),(3,.p false [.nil]),(2,.p false [.ptr 1 1 0]),(1,.p false [.ptr 0 0 0]),(0,.p true [.d 0,.d 1,.d 2])],[(0,.var 0 26 [.d 0,.d 1,.d 2]),(1,.var 1 26 [.d 3,.d 4,.nil]),(3,.var 3 26 [.d 0,.d 1,.own 2 2]),(2,.row 2 39 3 57),(4,.row 4 55 5 51),(5,.var 5 39 [.d 52,.d 53,.d 54]),(6,.var 6 39 [.d 58,.d 59,.d 60])],7,7,61,[(55,true),(5,false)]⟩,[]⟩,⟨3000022,15,⟨[(15,.p false [.d 40]),(103,.p false [.d 41]),(14,.p false [.d 42]),(13,.p false [.ptr 5 5 0]),(63,.p false [.d 43]),(10,.p false [.d 44]),(59,.p false [.d 45]),(53,.p false [.d 46]),(9,.p false [.d 47]),(8,.p false [.d 48]),(36,.p false [.d 49]),(6,.p false [.own 4 4]),(7,.p false [.d 15]),(5,.p false [.ptr 3 3 0]),(4,.p false [.d 5]),(3,.p false [.nil]),(2,.p false [.ptr 1 1 0]),(1,.p false [.ptr 0 0 0]),(0,.p true [.d 0,.d 1,.d 2])],[(0,.var 0 26 [.d 0,.d 1,.d 2]),(1,.var 1 26 [.d 3,.d 4,.nil]),(3,.var 3 26 [.d 0,.d 1,.own 2 2]),(2,.row 2 39 3 50),(4,.row 4 55 5 51),(5,.var 5 39 [.d 52,.d 53,.d 54])],6,6,55,[(5,false)]⟩,[]⟩,⟨3000018,2,⟨[(14,.p false [.d 36]),(13,.p false [.ptr 5 5 0]),(63,.p false [.d 28]),(10,.p false [.d 26]),(59,.p false [.d 24]),(53,.p false [.d 22]),(9,.p false [.d 23]),(8,.p false [.d 21]),(36,.p false [.d 20]),(6,.p false [.own 4 4]),(7,.p false [.d 15]),(5,.p false [.ptr 3 3 0]),(4,.p false [.d 5]),(3,.p false [.nil]),(2,.p false [.ptr 1 1 0]),(1,.p false [.ptr 0 0 0]),(0,.p true [.d 0,.d 1,.d 2])],[(0,.var 0 26 [.d 0,.d 1,.d 2]),(1,.var 1 26 [.d 3,.d 4,.nil]),(3,.var 3 26 [.d 0,.d 1,.own 2 2]),(2,.row 2 39 3 37),(4,.row 4 55 5 17),(5,.var 5 39 [.d 29,.d 30,.d 31])],6,6,38,[(28,false),(24,false),(20,true),(18,true),(5,false)]⟩,[]⟩,⟨3000012,2,⟨[(10,.p false [.d 26]),(59,.p false [.d 24]),(53,.p false [.d 22]),(9,.p false [.d 23]),(8,.p false [.d 21]),(36,.p false [.d 20]),(6,.p false [.own 4 4]),(7,.p false [.d 15]),(5,.p false [.ptr 3 3 0]),(4,.p false [.d 5]),(3,.p false [.nil]),(2,.p false [.ptr 1 1 0]),(1,.p false [.ptr 0 0 0]),(0,.p true [.d 0,.d 1,.d 2])],[(0,.var 0 26 [.d 0,.d 1,.d 2]),(1,.var 1 26 [.d 3,.d 4,.nil]),(3,.var 3 26 [.d 0,.d 1,.own 2 2]),(2,.row 2 39 3 27),(4,.row 4 55 5 17)],5,5,28,[(24,false),(20,true),(18,true),(5,false)]⟩,[]⟩,⟨2000001,7,⟨[(59,.p false [.d 21]),(53,.p false [.d 22]),(9,.p false [.d 23]),(8,.p false [.d 24]),(36,.p false [.d 25]),(6,.p false [.own 4 4]),(7,.p false [.d 15]),(5,.p false [.ptr 3 3 0]),(4,.p false [.d 5]),(3,.p false [.nil]),(2,.p false [.ptr 1 1 0]),(1,.p false [.ptr 0 0 0]),(0,.p true [.d 0,.d 1,.d 2])],[(0,.var 0 26 [.d 0,.d 1,.d 2]),(1,.var 1 26 [.d 3,.d 4,.nil]),(3,.var 3 26 [.d 0,.d 1,.own 2 2]),(2,.row 2 39 3 26),(4,.row 4 55 5 27)],5,5,28,[(5,false)]⟩,[⟨true,6,0,55,5⟩]⟩,⟨2000002,2,⟨[(53,.p false [.d 22]),(9,.p false [.d 23]),(8,.p false [.d 21]),(36,.p false [.d 20]),(6,.p false [.own 4 4]),(7,.p false [.d 15]),(5,.p false [.ptr 3 3 0]),(4,.p false [.d 5]),(3,.p false [.nil]),(2,.p false [.ptr 1 1 0]),(1,.p false [.ptr 0 0 0]),(0,.p true [.d 0,.d 1,.d 2])],[(0,.var 0 26 [.d 0,.d 1,.d 2]),(1,.var 1 26 [.d 3,.d 4,.nil]),(3,.var 3 26 [.d 0,.d 1,.own 2 2]),(2,.row 2 39 3 16),(4,.row 4 55 5 17)],5,5,24,[(20,true),(18,true),(5,false)]⟩,[]⟩,⟨3000008,1,⟨[(9,.p false [.d 22]),(8,.p false [.d 21]),(36,.p false [.d 20]),(6,.p false [.own 4 4]),(7,.p false [.d 15]),(5,.p false [.ptr 3 3 0]),(4,.p false [.d 5]),(3,.p false [.nil]),(2,.p false [.ptr 1 1 0]),(1,.p false [.ptr 0 0 0]),(0,.p true [.d 0,.d 1,.d 2])],[(0,.var 0 26 [.d 0,.d 1,.d 2]),(1,.var 1 26 [.d 3,.d 4,.nil]),(3,.var 3 26 [.d 0,.d 1,.own 2 2]),(2,.row 2 39 3 16),(4,.row 4 55 5 17)],5,5,23,[(20,true),(18,true),(5,false)]⟩,[]⟩,⟨3000004,3,⟨[(6,.p false [.own 4 4]),(7,.p false [.d 15]),(5,.p false [.ptr 3 3 0]),(4,.p false [.d 5]),(3,.p false [.nil]),(2,.p false [.ptr 1 1 0]),(1,.p false [.ptr 0 0 0]),(0,.p true [.d 0,.d 1,.d 2])],[(0,.var 0 26 [.d 0,.d 1,.d 2]),(1,.var 1 26 [.d 3,.d 4,.nil]),(3,.var 3 26 [.d 0,.d 1,.own 2 2]),(2,.row 2 39 3 16),(4,.row 4 55 5 17)],5,5,18,[(5,false)]⟩,[⟨true,6,0,55,5⟩]⟩]
def u_impl_reduce_d : List (Nat × Nat × Bool × List Nat):=[(29,20,false,[]),(20,15,false,[]),(15,17,false,[3,4,5]),(14,14,false,[]),(1,9,false,[])]
def u_impl_reduce_l0 : UP:=.po (.bin .lss false 0 7) <| .ite 0 (.sel [1,5,6,7,8] <| .cl 30 [(true,[4,3,1]),(false,[0]),(false,[2])] [(true,[none,none,none],true)] <| .po (.k (.int .i64 0)) <| .po (.bin .eql false 3 0) <| .ite 0 (.po (.k (.int .i64 1)) <| .po (.bin .add false 6 0) <| .jump 3 [0]) <| .jump 2 [0,5]) <| .po (.k (.bool false)) <| .jump 2 [0,2]
def u_impl_reduce_l1 : UP:=.po (.bin .lss false 1 10) <| .ite 0 (.po (.sc 11) <| .po (.bin .mul false 10 11) <| .po (.sc 0) <| .po (.bin .add false 0 3) <| .po (.sc 0) <| .po (.sc 14) <| .po (.sc 13) <| .sel [0,3,4,7,8,9,11,12,13,14] <| .cl 30 [(true,[9,8,1]),(false,[7]),(false,[2])] [(true,[none,none,none],true)] <| .po (.sc 8) <| .po (.sc 7) <| .po (.sc 6) <| .po (.sc 12) <| .po (.sc 11) <| .cl 30 [(true,[12,11,4]),(false,[9]),(false,[5])] [(true,[none,none,none],true)] <| .sel [0,1,2,3,4,5,6,7,8,9,10,11] <| .cl 47 [(true,[11,10,9]),(true,[2,1,0])] [(true,[none,none,none],true)] <| .sel [0,1,2,6,7,8,9,10,11] <| .cl 56 [(true,[5,4,3]),(true,[2,1,0])] [(true,[none,none,none],true)] <| .po (.isI 9) <| .po (.chk 3 10 9) <| .po (.sc 2) <| .po (.sc 1) <| .po (.sc 0) <| .po (.set 3 10 9 0 [2,1,0]) <| .po (.k (.int .i64 1)) <| .po (.bin .add false 13 0) <| .jump 6 [0,2]) <| .jump 5 [4,1,7,6,5]
def u_impl_reduce_j2 : UP:=.po (.k (.int .i64 1)) <| .po (.bin .add false 20 0) <| .jump 4 [0,20,19,18,17,16,15,14,13,12,5,10,9,8,7]
def u_impl_reduce_l3 : UP:=.po (.bin .lss false 14 34) <| .ite 0 (.sel [1,2,3,4,5,6,7,8,9,10,11,12,13,14,15,33,34,35] <| .join 5 u_impl_reduce_j2 <| .sel [4,6,14,15,16,17] <| .cl 30 [(true,[5,4,0]),(false,[2]),(false,[3])] [(true,[none,none,none],true)] <| .po (.k (.int .i64 0)) <| .po (.k (.int .i64 0)) <| .po (.k (.string ⟨#[]⟩)) <| .po (.bin .eql false 8 7) <| .ite 0 (.po (.k (.bool true)) <| .jump 5 [0,8,7,6,5]) <| .po (.k (.int .i64 0)) <| .po (.bin .eql false 7 0) <| .ite 0 (.jump 5 [0,9,8,7,6]) <| .po (.k (.int .i64 0)) <| .sel [0,1,7,8,9,10,11,12,14,15] <| .loop [0,5] u_impl_reduce_l1) <| .po (.bin .neq false 8 7) <| .po (.k (.int .i64 0)) <| .po (.k (.int .i64 0)) <| .po (.k (.int .i64 0)) <| .po (.k (.string ⟨#[]⟩)) <| .po (.k (.bool false)) <| .po (.sc 39) <| .po (.sc 9) <| .po (.sc 8) <| .po (.sc 7) <| .po (.sc 5) <| .po (.mk 55 5 [[39,9,8,7,5]]) <| .po (.flat 0) <| .po (.app 55 5 48 11 0) <| .sel [0,13,14,15,16,17,18] <| .cl 24 [(false,[1])] [(false,[none],true)] <| .po (.un .not 0) <| .ite 0 (.po (.k (.int .i64 0)) <| .po (.k (.int .i64 0)) <| .po (.k (.bool false)) <| .po (.sc 2) <| .po (.sc 1) <| .po (.e 39 3) <| .po (.e 55 5) <| .po (.sc 2) <| .ret [(true,[4,3,1]),(false,[0]),(false,[2])]) <| .jump 1 [8,7,6,5,4,3,2]
def u_impl_reduce_l4 : UP:=.po (.bin .lss false 1 16) <| .ite 0 (.po (.sc 17) <| .po (.bin .mul false 13 17) <| .po (.sc 0) <| .po (.bin .add false 0 3) <| .po (.sc 0) <| .po (.sc 20) <| .po (.sc 19) <| .sel [0,3,4,6,7,8,15,19,20] <| .cl 30 [(true,[8,7,1]),(false,[6]),(false,[2])] [(true,[none,none,none],true)] <| .po (.sc 8) <| .po (.sc 7) <| .po (.sc 6) <| .cl 55 [(true,[2,1,0]),(true,[8,7,6])] [(true,[none,none,none],true)] <| .po (.isI 6) <| .po (.chk 3 7 6) <| .po (.sc 2) <| .po (.sc 1) <| .po (.sc 0) <| .po (.set 3 7 6 0 [2,1,0]) <| .po (.k (.int .i64 1)) <| .po (.bin .add false 10 0) <| .jump 3 [0,2]) <| .po (.k (.int .i64 0)) <| .loop [0,1,3,8,10,11,13,12,14,15,2,16,7,6,5] u_impl_reduce_l3
def u_impl_reduce_l5 : UP:=.po (.bin .lss false 1 11) <| .ite 0 (.po (.sc 12) <| .po (.bin .mul false 7 12) <| .po (.sc 0) <| .po (.bin .add false 0 3) <| .po (.sc 0) <| .po (.sc 14) <| .po (.bin .mul false 7 14) <| .po (.sc 0) <| .po (.bin .add false 0 5) <| .po (.sc 0) <| .po (.sc 2) <| .po (.sc 0) <| .po (.isI 0) <| .po (.chk 3 5 0) <| .po (.idx 3 5 0) <| .po (.isI 5) <| .po (.chk 3 8 5) <| .po (.idx 3 8 5) <| .po (.isI 8) <| .po (.chk 3 11 8) <| .po (.sc 5) <| .po (.sc 4) <| .po (.sc 3) <| .po (.set 3 11 8 0 [5,4,3]) <| .po (.isI 7) <| .po (.chk 3 0 7) <| .po (.sc 3) <| .po (.sc 2) <| .po (.sc 1) <| .po (.set 3 0 7 0 [3,2,1]) <| .po (.k (.int .i64 1)) <| .po (.bin .add false 15 0) <| .jump 2 [0,2]) <| .cl 30 [(true,[13,12,1]),(false,[7]),(false,[11])] [(true,[none,none,none],true)] <| .po (.k (.int .i64 0)) <| .po (.k (.int .i64 0)) <| .po (.k (.string ⟨#[]⟩)) <| .po (.k (.int .i64 0)) <| .sel [0,4,5,6,7,8,9,11,12,13,14,15,16,18,19,20] <| .loop [0,5] u_impl_reduce_l4
def u_impl_reduce_j6 : UP:=.po (.bin .eql false 0 8) <| .ite 0 (.jump 1 [0,2,1,3,4,6,5]) <| .po (.k (.int .i64 0)) <| .loop [0,7] u_impl_reduce_l5
def u_impl_reduce_j7 : UP:=.po (.k (.int .i64 1)) <| .po (.bin .add false 11 0) <| .jump 0 [0,3,2]
def u_impl_reduce_l8 : UP:=.po (.bin .lss false 2 6) <| .ite 0 (.po (.lenL 1) <| .po (.bin .lss false 0 9) <| .ite 0 (.sel [0,3,4,5,9,10] <| .join 7 u_impl_reduce_j7 <| .po (.lenL 1) <| .join 2 u_impl_reduce_j6 <| .loop [0] u_impl_reduce_l0) <| .po (.k (.bool true)) <| .po (.sc 11) <| .po (.sc 10) <| .po (.sc 0) <| .ret [(true,[11,10,5]),(false,[4]),(false,[0])]) <| .po (.k (.bool false)) <| .po (.k (.bool true)) <| .po (.sc 10) <| .po (.sc 9) <| .po (.sc 0) <| .ret [(true,[10,9,4]),(false,[3]),(false,[0])]
def u_impl_reduce_u : UP:=.po (.k (.int .i64 0)) <| .po (.k (.int .i64 0)) <| .po (.k (.bool false)) <| .po (.sc 5) <| .po (.sc 4) <| .cl 54 [(false,[3])] [(false,[some (39,3)],true)] <| .po (.k (.int .i64 0)) <| .po (.k (.int .i64 0)) <| .po (.k (.int .i64 0)) <| .po (.k (.int .i64 0)) <| .po (.k (.int .i64 0)) <| .po (.k (.int .i64 0)) <| .po (.k (.int .i64 0)) <| .po (.e 55 5) <| .sel [0,1,8,13,14] <| .loop [1,2,0] u_impl_reduce_l8
theorem u_impl_reduce_g : toUPf Try.prog 28 Try.f28 owA u_impl_reduce_h u_impl_reduce_d = some ([(true,3)],u_impl_reduce_u):=by kernel_rfl
end Go.Proofs.Ytpilbhbbdldpeaa

namespace Go.Proofs.Ytpilbhbbdldpeaa
open Go.RowKit
def celF (W : Nat) (l : List It) (i j : Nat) : It:=l.getD (i * W + j) default
def fup (f : Nat→Nat→It) (i k : Nat) (x : It) : Nat→Nat→It:=fun a b=>if a = i∧b = k then x else f a b
theorem grid_getD {W R i k : Nat} (f : Nat→Nat→It) (hi : i < R) (hk : k < W) : (gridL W f (R * W)).getD (i * W + k) default = f i k:=by
  rw [List.getD_eq_getElem?_getD,gridL_get f hk (grid_lt hi hk)];rfl
theorem grid_set {W R i k : Nat} (f : Nat→Nat→It) (x : It) (hi : i < R) (hk : k < W) : (gridL W f (R * W)).set (i * W + k) x = gridL W (fup f i k x) (R * W):=by
  apply List.ext_getElem?
  intro t
  rw [List.getElem?_set]
  have hlt:=grid_lt hi hk
  obtain ⟨g1,g2⟩:=grid_ix (i:=i) hk
  by_cases h : i * W + k = t
  · subst h
    rw [if_pos rfl,gridL_len,if_pos hlt,gridL_get _ hk hlt]
    simp [fup]
  · rw [if_neg h]
    unfold gridL
    rw [List.getElem?_map,List.getElem?_map]
    cases ht : (List.range (R * W))[t]? with
    | none=>rfl
    | some u =>
      have hu : u = t:=by
        have:=List.getElem?_eq_some_iff.1 ht
        obtain ⟨_,e⟩:=this
        simpa using e.symm
      subst hu
      simp only [Option.map_some,fup]
      rw [if_neg]
      rintro ⟨e1,e2⟩
      apply h
      have:=Nat.div_add_mod u W
      rw [e1,e2,Nat.mul_comm] at this
      exact this
theorem grid_of {W R : Nat} {l : List It} (hl : l.length = R * W) : l = gridL W (celF W l) (R * W):=by
  apply List.ext_getElem?
  intro t
  unfold gridL celF
  rw [List.getElem?_map]
  by_cases h : t < R * W
  · rw [List.getElem?_range h,List.getElem?_eq_getElem (by omega)]
    simp only [Option.map_some]
    have e : t / W * W + t % W = t:=by rw [Nat.mul_comm];exact Nat.div_add_mod t W
    rw [e,List.getD_eq_getElem?_getD,List.getElem?_eq_getElem (by omega)];rfl
  · rw [List.getElem?_eq_none (by omega),List.getElem?_eq_none (by simp;omega)];rfl
def nz (f : Nat→Nat→It) (c R r : Nat) : Nat:=((List.range R).find? fun i=>decide (r≤i) && !decide ((f i c).num = 0)).getD R
theorem nz_is {f : Nat→Nat→It} {c R r k : Nat} (hk : k≤R) (hr : r≤k) (h1 : ∀ i,r≤i→i < k→(f i c).num = 0) (h2 : k = R ∨ (f k c).num ≠ 0) : nz f c R r = k:=by
  unfold nz
  rcases Nat.lt_or_ge k R with h | h
  · have h3 : (f k c).num ≠ 0 := by rcases h2 with h2 | h2
                                    · omega
                                    · exact h2
    have : (List.range R).find? (fun i=>decide (r≤i) && !decide ((f i c).num = 0)) = some k:=by
      rw [List.find?_range_eq_some]
      refine ⟨by simp [hr,h3],List.mem_range.2 h,fun j hj=>?_⟩
      by_cases hrj : r≤j
      · simp [h1 j hrj hj]
      · simp [hrj]
    rw [this];rfl
  · have : (List.range R).find? (fun i=>decide (r≤i) && !decide ((f i c).num = 0)) = none:=by
      rw [List.find?_range_eq_none]
      intro j hj
      by_cases hrj : r≤j
      · simp [h1 j hrj (by omega)]
      · simp [hrj]
    rw [this]
    show R = k
    omega
def swapJ (r k : Nat) (f : Nat→Nat→It) (J : Nat) : Nat→Nat→It:=fun a b=>if b < J then (if a = r then f k b else if a = k then f r b else f a b) else f a b
def divJ (r : Nat) (p : It) (g : Nat→Nat→It) (J : Nat) : Nat→Nat→It:=fun a b=>if b < J∧a = r then divN (g a b) p else g a b
def sdJ (r k : Nat) (p : It) (f : Nat→Nat→It) (J : Nat) : Nat→Nat→It:=fun a b=>if b < J then (if a = r then divN (f k b) p else if a = k then f r b else f a b) else f a b
def elJ (r c W : Nat) (g : Nat→Nat→It) (i J : Nat) : Nat→Nat→It:=fun a b=>if (a < i∧b < W ∨ a = i∧b < J)∧a ≠ r∧(g a c).num ≠ 0 then subN (g a b) (mulN (g a c) (g r b)) else g a b
variable {r k c W i j : Nat} {f g : Nat→Nat→It} {p : It}
theorem swapJ_0 : swapJ r k f 0 = f:=by funext a b;simp [swapJ]
theorem swapJ_at {a : Nat} : swapJ r k f j a j = f a j:=by simp [swapJ]
theorem swapJ_r (h : j < W) : swapJ r k f W r j = f k j:=by simp [swapJ,h]
theorem swapJ_step : fup (fup (swapJ r k f j) r j (f k j)) k j (f r j) = swapJ r k f (j + 1):=by
  funext a b
  unfold fup swapJ
  rcases Nat.lt_trichotomy b j with h | h | h
  · simp [show b ≠ j by omega,show b < j by omega,show b < j + 1 by omega]
  · subst h
    by_cases h1 : a = k
    · subst h1;by_cases h2 : a = r <;> simp [h2]
    · by_cases h2 : a = r
      · subst h2;simp [h1]
      · simp [h1,h2]
  · simp [show b ≠ j by omega,show ¬ b < j by omega,show ¬ b < j + 1 by omega]
theorem divJ_0 : divJ r p g 0 = g:=by funext a b;simp [divJ]
theorem divJ_at {a : Nat} : divJ r p g j a j = g a j:=by simp [divJ]
theorem divJ_step : fup (divJ r p g j) r j (divN (g r j) p) = divJ r p g (j + 1):=by
  funext a b
  unfold fup divJ
  rcases Nat.lt_trichotomy b j with h | h | h
  · simp [show b ≠ j by omega,show b < j by omega,show b < j + 1 by omega]
  · subst h;by_cases h2 : a = r <;> simp [h2]
  · simp [show b ≠ j by omega,show ¬ b < j by omega,show ¬ b < j + 1 by omega]
theorem div_swap : divJ r p (swapJ r k f W) W = sdJ r k p f W:=by
  funext a b
  unfold divJ swapJ sdJ
  by_cases h : b < W
  · by_cases h2 : a = r <;> simp [h,h2]
  · simp [h]
theorem sdJ_0 : sdJ r k p f 0 = f:=by funext a b;simp [sdJ]
theorem sdJ_at {a : Nat} : sdJ r k p f j a j = f a j:=by simp [sdJ]
theorem sdJ_step : fup (fup (sdJ r k p f j) k j (f r j)) r j (divN (f k j) p) = sdJ r k p f (j + 1):=by
  funext a b
  unfold fup sdJ
  rcases Nat.lt_trichotomy b j with h | h | h
  · simp [show b ≠ j by omega,show b < j by omega,show b < j + 1 by omega]
  · subst h
    by_cases h1 : a = r
    · subst h1;simp
    · by_cases h2 : a = k <;> simp [h1,h2]
  · simp [show b ≠ j by omega,show ¬ b < j by omega,show ¬ b < j + 1 by omega]
theorem elJ_0 : elJ r c W g 0 0 = g:=by funext a b;simp [elJ]
theorem elJ_at : elJ r c W g i j i j = g i j:=by simp [elJ]
theorem elJ_c (hc : c < W) : elJ r c W g i 0 i c = g i c:=by simp [elJ]
theorem elJ_r {b : Nat} : elJ r c W g i j r b = g r b:=by simp [elJ]
theorem elJ_W : elJ r c W g i W = elJ r c W g (i + 1) 0:=by
  funext a b
  unfold elJ
  have : (a < i∧b < W ∨ a = i∧b < W) ↔ (a < i + 1∧b < W ∨ a = i + 1∧b < 0):=by omega
  simp only [this]
theorem elJ_skip (h : i = r ∨ (g i c).num = 0) : elJ r c W g i 0 = elJ r c W g (i + 1) 0:=by
  funext a b
  unfold elJ
  by_cases ha : a = i
  · subst ha
    rcases h with h | h
    · simp [h]
    · simp [h]
  · have : (a < i∧b < W ∨ a = i∧b < 0) ↔ (a < i + 1∧b < W ∨ a = i + 1∧b < 0):=by omega
    simp only [this]
theorem elJ_step (h1 : i ≠ r) (h2 : (g i c).num ≠ 0) (hj : j < W) : fup (elJ r c W g i j) i j (subN (g i j) (mulN (g i c) (g r j))) = elJ r c W g i (j + 1):=by
  funext a b
  unfold fup elJ
  by_cases ha : a = i
  · subst ha
    rcases Nat.lt_trichotomy b j with h | h | h
    · simp [h1,h2,show b ≠ j by omega,show b < j by omega,show b < j + 1 by omega]
    · subst h;simp [h1,h2]
    · simp [h1,h2,show b ≠ j by omega,show ¬ b < j by omega,show ¬ b < j + 1 by omega]
  · simp [ha]
def stepF (W R r k c : Nat) (f : Nat→Nat→It) : Nat→Nat→It:=elJ r c W (sdJ r k (f k c) f W) R 0
abbrev Stp:=Nat × It × Bool
def red1 (W R c : Nat) (f : Nat→Nat→It) (st : List Stp) : Option ((Nat→Nat→It) × List Stp) :=
  if R≤st.length then some (f,st) else if nz f c R st.length = R then some (f,st)
  else if allN (gridL W (stepF W R st.length (nz f c R st.length) c f) (R * W)) = true then some (stepF W R st.length (nz f c R st.length) c f,st ++ [(c,f (nz f c R st.length) c,decide (nz f c R st.length ≠ st.length))]) else none
def redS (W R : Nat) (f0 : Nat→Nat→It) : Nat→Option ((Nat→Nat→It) × List Stp)
  | 0=>some (f0,[])
  | c + 1=>match redS W R f0 c with
    | none=>none
    | some (f,st)=>red1 W R c f st
theorem redS_step {W R : Nat} {f0 f : Nat→Nat→It} {st : List Stp} {c : Nat} (h : redS W R f0 c = some (f,st)) : redS W R f0 (c + 1) = red1 W R c f st:=by simp only [redS,h]
theorem redS_none {W R : Nat} {f0 : Nat→Nat→It} {c : Nat} (h : redS W R f0 c = none) : ∀ {d},c≤d→redS W R f0 d = none:=by
  intro d hd
  induction d with
  | zero => obtain rfl : c = 0 := by omega
            exact h
  | succ d ih =>
    rcases Nat.lt_or_ge d c with h1 | h1
    · obtain rfl : c = d + 1:=by omega
      exact h
    · simp only [redS,ih h1]
theorem redS_idle {W R : Nat} {f0 f : Nat→Nat→It} {st : List Stp} {c : Nat} (h : redS W R f0 c = some (f,st)) (hs : R≤st.length) : ∀ {d},c≤d→redS W R f0 d = some (f,st):=by
  intro d hd
  induction d with
  | zero => obtain rfl : c = 0 := by omega
            exact h
  | succ d ih =>
    rcases Nat.lt_or_ge d c with h1 | h1
    · obtain rfl : c = d + 1:=by omega
      exact h
    · rw [redS_step (ih h1)];unfold red1;rw [if_pos hs]
theorem redS_len {W R : Nat} {f0 : Nat→Nat→It} : ∀ {c : Nat} {f : Nat→Nat→It} {st : List Stp},redS W R f0 c = some (f,st)→st.length≤c∧st.length≤R
  | 0,f,st,h=>by simp only [redS] at h;injection h with h;injection h with _ h;subst h;simp
  | c + 1,f,st,h=>by
    simp only [redS] at h
    split at h
    · cases h
    · rename_i g s1 h1
      obtain ⟨i1,i2⟩:=redS_len h1
      unfold red1 at h
      split at h
      · injection h with h;injection h with _ h;subst h;omega
      · split at h
        · injection h with h;injection h with _ h;subst h;omega
        · split at h
          · injection h with h;injection h with _ h;subst h;simp;omega
          · cases h
end Go.Proofs.Ytpilbhbbdldpeaa

namespace Go.Proofs.Ytpilbhbbdldpeaa
open List (length_take length_drop length_append map_cons map_nil length_map length_cons length_nil length_set length_replicate)
open Go.RowKit
set_option maxRecDepth 100000
def encSt (x : Stp) : List DV:=[.sc (.int .i64 (x.1 : Nat)),.sc (.int .i64 x.2.1.num),.sc (.int .i64 x.2.1.den),.sc (.string x.2.1.text),.sc (.bool x.2.2)]
def encSts (l : List Stp) : DV:=.sl 55 5 (l.map encSt)
def resI (W R : Nat) : Option ((Nat→Nat→It) × List Stp)→List Rs
  | none=>[(true,encMt ⟨0,0,[]⟩,true),(false,[encSts []],true),(false,[.sc (.bool false)],true)]
  | some (f,st)=>[(true,encMt ⟨R,W,gridL W f (R * W)⟩,true),(false,[encSts st],true),(false,[.sc (.bool true)],true)]
theorem cellAt_g {W R i j : Nat} {r : Int} (f : Nat→Nat→It) (hi : i < R) (hj : j < W) (hR : R≤100) (hW : W≤100) :
    Meets Try.prog 30 [(true,encMt ⟨r,W,gridL W f (R * W)⟩),(false,[.sc (.int .i64 (i : Nat))]),(false,[.sc (.int .i64 (j : Nat))])] [(true,encIt (f i j),true)]:=by
  have h1:=grid_lt hi hj
  have h2 : R * W≤100 * 100:=Nat.mul_le_mul hR hW
  exact cellAt_m r W i j _ _ (gridL_get f hj h1) (by omega)
theorem nm (a b : Nat) : (a : Int) * (b : Int) = ((a * b : Nat) : Int):=rfl
theorem na (a b : Nat) : (a : Int) + (b : Int) = ((a + b : Nat) : Int):=rfl
theorem fl1_st {t : Nat} {a b c : Int} {d : ByteArray} {e : Bool} : eFlat (some (.sl t 5 [[.sc (.int .i64 a),.sc (.int .i64 b),.sc (.int .i64 c),.sc (.string d),.sc (.bool e)]])) = some []:=rfl
section
variable {W R i k t : Nat} {f : Nat→Nat→It} {kd : IntKind} {x : It}
theorem ix_g (hi : i < R) (hk : k < W) : eIdx 3 (some (.sl t 3 ((gridL W f (R * W)).map encIt))) (some (.sc (.int kd ((i * W + k : Nat) : Int)))) = some (encIt (f i k)):=by
  have:=grid_lt hi hk
  rw [ix_it (by omega) (by rw [gridL_len];omega),Int.toNat_natCast,grid_getD f hi hk]
theorem chk_g (hi : i < R) (hk : k < W) : eChk 3 (some (.sl t 3 ((gridL W f (R * W)).map encIt))) (some (.sc (.int kd ((i * W + k : Nat) : Int)))) = some []:=by
  have:=grid_lt hi hk
  exact e_chk_map (by omega) (by rw [gridL_len];omega)
theorem st_g (hi : i < R) (hk : k < W) : eSet 3 0 (some (.sl t 3 ((gridL W f (R * W)).map encIt))) (some (.sc (.int kd ((i * W + k : Nat) : Int)))) (some [.sc (.int .i64 x.num),.sc (.int .i64 x.den),.sc (.string x.text)]) = some [.sl t 3 ((gridL W (fup f i k x) (R * W)).map encIt)]:=by
  have:=grid_lt hi hk
  rw [st_it (by omega) (by rw [gridL_len];omega) rfl,Int.toNat_natCast,← grid_set f x hi hk,List.map_set];rfl
end
def Jst (W R c : Nat) (f0 : Nat→Nat→It) (vs : List DV) : Prop:=∃ x0 x1 x2 x3 x4 f' st',vs = [x0,x1,x2,x3,x4,.sl 39 3 ((gridL W f' (R * W)).map encIt),.sl 55 5 (st'.map encSt)]∧redS W R f0 (c + 1) = some (f',st')
def Jnz (R c r : Nat) (f : Nat→Nat→It) (vs : List DV) : Prop:=∃ x0,vs = [x0,.sc (.int .i64 (nz f c R r : Nat))]∧r≤nz f c R r∧nz f c R r≤R
set_option maxHeartbeats 8000000 in
theorem implRed_m (R W : Nat) (f0 : Nat→Nat→It) (hR : R≤100) (hW : W≤100) :
    Meets Try.prog 28 [(true,encMt ⟨R,W,gridL W f0 (R * W)⟩)] (resI W R (redS W R f0 W)):=by
  have hRW : R * W≤100 * 100:=Nat.mul_le_mul hR hW
  have hcp:=copyItems_m (gridL W f0 (R * W)) (by rw [gridL_len];omega)
  refine meets_upf Try.func28 u_impl_reduce_g rfl ?_;simp only [u_impl_reduce_u]
  simp only [encMt,encIts] at hcp ⊢
  simp (disch:=first | omega | (simp only [length_take,length_drop,length_append,map_cons,map_nil,length_map,length_cons,length_nil,length_set,length_replicate];omega) | (simp only [length_cons,length_nil,Nat.zero_add,Nat.reduceAdd])) only [go_sem,↓reduceIte,Nat.reduceAdd,Int.reduceNeg,Int.reduceAdd,Int.reduceSub,Int.reduceMul,Int.reduceLT,Int.reduceLE,Int.reduceEq,Int.reduceToNat,Nat.reduceBEq,true_and]
  refine cl_ok hcp rfl ?_
  simp (disch:=first | omega | (simp only [length_take,length_drop,length_append,map_cons,map_nil,length_map,length_cons,length_nil,length_set,length_replicate];omega) | (simp only [length_cons,length_nil,Nat.zero_add,Nat.reduceAdd])) only [go_sem,↓reduceIte,Nat.reduceAdd,Int.reduceNeg,Int.reduceAdd,Int.reduceSub,Int.reduceMul,Int.reduceLT,Int.reduceLE,Int.reduceEq,Int.reduceToNat,Nat.reduceBEq,true_and]
  refine lp (fun s : Nat × (Nat→Nat→It) × List Stp=>[.sc (.int .i64 (s.1 : Nat)),.sl 39 3 ((gridL W s.2.1 (R * W)).map encIt),.sl 55 5 (s.2.2.map encSt)]) (fun s=>s.1≤W∧redS W R f0 s.1 = some (s.2.1,s.2.2)) (fun s=>W - s.1) (0,f0,[]) rfl ⟨by simp,rfl⟩ ?_
  rintro ⟨c,f,st⟩ ⟨g1,g2⟩
  simp only at g1 g2 ⊢
  obtain ⟨g3,g4⟩:=redS_len g2
  simp only [u_impl_reduce_l8]
  simp (disch:=first | omega | (simp only [length_take,length_drop,length_append,map_cons,map_nil,length_map,length_cons,length_nil,length_set,length_replicate];omega) | (simp only [length_cons,length_nil,Nat.zero_add,Nat.reduceAdd])) only [go_sem,↓reduceIte,Nat.reduceAdd,Int.reduceNeg,Int.reduceAdd,Int.reduceSub,Int.reduceMul,Int.reduceLT,Int.reduceLE,Int.reduceEq,Int.reduceToNat,Nat.reduceBEq,true_and]
  refine br_if (fun hc=>?_) (fun hc=>?_)
  rotate_left
  · obtain rfl : c = W:=by omega
    rw [g2]
    simp (disch:=first | omega | (simp only [length_take,length_drop,length_append,map_cons,map_nil,length_map,length_cons,length_nil,length_set,length_replicate];omega) | (simp only [length_cons,length_nil,Nat.zero_add,Nat.reduceAdd])) only [go_sem,↓reduceIte,Nat.reduceAdd,Int.reduceNeg,Int.reduceAdd,Int.reduceSub,Int.reduceMul,Int.reduceLT,Int.reduceLE,Int.reduceEq,Int.reduceToNat,Nat.reduceBEq,true_and]
    rfl
  simp (disch:=first | omega | (simp only [length_take,length_drop,length_append,map_cons,map_nil,length_map,length_cons,length_nil,length_set,length_replicate];omega) | (simp only [length_cons,length_nil,Nat.zero_add,Nat.reduceAdd])) only [go_sem,↓reduceIte,Nat.reduceAdd,Int.reduceNeg,Int.reduceAdd,Int.reduceSub,Int.reduceMul,Int.reduceLT,Int.reduceLE,Int.reduceEq,Int.reduceToNat,Nat.reduceBEq,true_and]
  refine br_if (fun hr=>?_) (fun hr=>?_)
  rotate_left
  · rw [redS_idle g2 (by omega) g1]
    simp (disch:=first | omega | (simp only [length_take,length_drop,length_append,map_cons,map_nil,length_map,length_cons,length_nil,length_set,length_replicate];omega) | (simp only [length_cons,length_nil,Nat.zero_add,Nat.reduceAdd])) only [go_sem,↓reduceIte,Nat.reduceAdd,Int.reduceNeg,Int.reduceAdd,Int.reduceSub,Int.reduceMul,Int.reduceLT,Int.reduceLE,Int.reduceEq,Int.reduceToNat,Nat.reduceBEq,true_and]
    rfl
  simp (disch:=first | omega | (simp only [length_take,length_drop,length_append,map_cons,map_nil,length_map,length_cons,length_nil,length_set,length_replicate];omega) | (simp only [length_cons,length_nil,Nat.zero_add,Nat.reduceAdd])) only [go_sem,↓reduceIte,Nat.reduceAdd,Int.reduceNeg,Int.reduceAdd,Int.reduceSub,Int.reduceMul,Int.reduceLT,Int.reduceLE,Int.reduceEq,Int.reduceToNat,Nat.reduceBEq,true_and]
  have hrR : st.length < R:=by omega
  have hcW : c < W:=by omega
  generalize hrr : st.length = r at *
  refine jn (Jst W R c f0) ?_ ?_
  rotate_left
  · rintro vs - ⟨x0,x1,x2,x3,x4,f',st',rfl,h1⟩
    simp only [u_impl_reduce_j7]
    simp (disch:=first | omega | (simp only [length_take,length_drop,length_append,map_cons,map_nil,length_map,length_cons,length_nil,length_set,length_replicate];omega) | (simp only [length_cons,length_nil,Nat.zero_add,Nat.reduceAdd])) only [go_sem,↓reduceIte,Nat.reduceAdd,Int.reduceNeg,Int.reduceAdd,Int.reduceSub,Int.reduceMul,Int.reduceLT,Int.reduceLE,Int.reduceEq,Int.reduceToNat,Nat.reduceBEq,nat1]
    exact ⟨(c + 1,f',st'),rfl,⟨by simp only;omega,h1⟩,by simp only;omega⟩
  have hstep:=redS_step g2
  unfold red1 at hstep
  rw [hrr,if_neg (by omega)] at hstep
  simp (disch:=first | omega | (simp only [length_take,length_drop,length_append,map_cons,map_nil,length_map,length_cons,length_nil,length_set,length_replicate];omega) | (simp only [length_cons,length_nil,Nat.zero_add,Nat.reduceAdd])) only [go_sem,↓reduceIte,Nat.reduceAdd,Int.reduceNeg,Int.reduceAdd,Int.reduceSub,Int.reduceMul,Int.reduceLT,Int.reduceLE,Int.reduceEq,Int.reduceToNat,Nat.reduceBEq,hrr]
  refine jn (Jnz R c r f) ?_ ?_
  · refine lp (fun k : Nat=>[.sc (.int .i64 (k : Nat))]) (fun k=>r≤k∧k≤R∧∀ i,r≤i→i < k→(f i c).num = 0) (fun k=>R - k) r (by simp (disch:=first | omega | (simp only [length_take,length_drop,length_append,map_cons,map_nil,length_map,length_cons,length_nil,length_set,length_replicate];omega) | (simp only [length_cons,length_nil,Nat.zero_add,Nat.reduceAdd])) only [go_sem,↓reduceIte,Nat.reduceAdd,Int.reduceNeg,Int.reduceAdd,Int.reduceSub,Int.reduceMul,Int.reduceLT,Int.reduceLE,Int.reduceEq,Int.reduceToNat,Nat.reduceBEq,hrr]) ⟨Nat.le_refl _,by omega,fun i h1 h2=>by omega⟩ ?_
    rintro k ⟨k1,k2,k3⟩
    simp only [u_impl_reduce_l0]
    simp (disch:=first | omega | (simp only [length_take,length_drop,length_append,map_cons,map_nil,length_map,length_cons,length_nil,length_set,length_replicate];omega) | (simp only [length_cons,length_nil,Nat.zero_add,Nat.reduceAdd])) only [go_sem,↓reduceIte,Nat.reduceAdd,Int.reduceNeg,Int.reduceAdd,Int.reduceSub,Int.reduceMul,Int.reduceLT,Int.reduceLE,Int.reduceEq,Int.reduceToNat,Nat.reduceBEq,true_and]
    refine br_if (fun hk=>?_) (fun hk=>?_)
    · have hkR : k < R:=by omega
      simp (disch:=first | omega | (simp only [length_take,length_drop,length_append,map_cons,map_nil,length_map,length_cons,length_nil,length_set,length_replicate];omega) | (simp only [length_cons,length_nil,Nat.zero_add,Nat.reduceAdd])) only [go_sem,↓reduceIte,Nat.reduceAdd,Int.reduceNeg,Int.reduceAdd,Int.reduceSub,Int.reduceMul,Int.reduceLT,Int.reduceLE,Int.reduceEq,Int.reduceToNat,Nat.reduceBEq,true_and]
      refine cl_ok (cellAt_g f hkR hcW hR hW) rfl ?_
      simp (disch:=first | omega | (simp only [length_take,length_drop,length_append,map_cons,map_nil,length_map,length_cons,length_nil,length_set,length_replicate];omega) | (simp only [length_cons,length_nil,Nat.zero_add,Nat.reduceAdd])) only [go_sem,↓reduceIte,Nat.reduceAdd,Int.reduceNeg,Int.reduceAdd,Int.reduceSub,Int.reduceMul,Int.reduceLT,Int.reduceLE,Int.reduceEq,Int.reduceToNat,Nat.reduceBEq,encIt]
      refine br_if (fun h0=>?_) (fun h0=>?_)
      · simp (disch:=first | omega | (simp only [length_take,length_drop,length_append,map_cons,map_nil,length_map,length_cons,length_nil,length_set,length_replicate];omega) | (simp only [length_cons,length_nil,Nat.zero_add,Nat.reduceAdd])) only [go_sem,↓reduceIte,Nat.reduceAdd,Int.reduceNeg,Int.reduceAdd,Int.reduceSub,Int.reduceMul,Int.reduceLT,Int.reduceLE,Int.reduceEq,Int.reduceToNat,Nat.reduceBEq,nat1]
        exact ⟨k + 1,rfl,⟨by omega,by omega,fun i h1 h2=>by
          rcases Nat.lt_or_ge i k with h | h
          · exact k3 i h1 h
          · obtain rfl : i = k:=by omega
            exact h0⟩,by omega⟩
      · have hn:=nz_is k2 k1 k3 (.inr h0)
        simp (disch:=first | omega | (simp only [length_take,length_drop,length_append,map_cons,map_nil,length_map,length_cons,length_nil,length_set,length_replicate];omega) | (simp only [length_cons,length_nil,Nat.zero_add,Nat.reduceAdd])) only [go_sem,↓reduceIte,Nat.reduceAdd,Int.reduceNeg,Int.reduceAdd,Int.reduceSub,Int.reduceMul,Int.reduceLT,Int.reduceLE,Int.reduceEq,Int.reduceToNat,Nat.reduceBEq,true_and]
        exact ⟨_,by rw [hn],by omega,by omega⟩
    · obtain rfl : k = R:=by omega
      have hn:=nz_is k2 k1 k3 (.inl rfl)
      simp (disch:=first | omega | (simp only [length_take,length_drop,length_append,map_cons,map_nil,length_map,length_cons,length_nil,length_set,length_replicate];omega) | (simp only [length_cons,length_nil,Nat.zero_add,Nat.reduceAdd])) only [go_sem,↓reduceIte,Nat.reduceAdd,Int.reduceNeg,Int.reduceAdd,Int.reduceSub,Int.reduceMul,Int.reduceLT,Int.reduceLE,Int.reduceEq,Int.reduceToNat,Nat.reduceBEq,true_and]
      exact ⟨_,by rw [hn],by omega,by omega⟩
  rintro vs - ⟨x0,rfl,n1,n2⟩
  generalize hk0 : nz f c R r = k at *
  simp only [u_impl_reduce_j6]
  simp (disch:=first | omega | (simp only [length_take,length_drop,length_append,map_cons,map_nil,length_map,length_cons,length_nil,length_set,length_replicate];omega) | (simp only [length_cons,length_nil,Nat.zero_add,Nat.reduceAdd])) only [go_sem,↓reduceIte,Nat.reduceAdd,Int.reduceNeg,Int.reduceAdd,Int.reduceSub,Int.reduceMul,Int.reduceLT,Int.reduceLE,Int.reduceEq,Int.reduceToNat,Nat.reduceBEq,true_and]
  refine br_if (fun hk=>?_) (fun hk=>?_)
  · rw [if_pos (by omega)] at hstep
    simp (disch:=first | omega | (simp only [length_take,length_drop,length_append,map_cons,map_nil,length_map,length_cons,length_nil,length_set,length_replicate];omega) | (simp only [length_cons,length_nil,Nat.zero_add,Nat.reduceAdd])) only [go_sem,↓reduceIte,Nat.reduceAdd,Int.reduceNeg,Int.reduceAdd,Int.reduceSub,Int.reduceMul,Int.reduceLT,Int.reduceLE,Int.reduceEq,Int.reduceToNat,Nat.reduceBEq,true_and]
    exact ⟨_,_,_,_,_,f,st,rfl,hstep⟩
  have hkR : k < R:=by omega
  rw [if_neg (by omega)] at hstep
  have bR : ∀ i,i < R→i * W≤10000:=fun i hi=>by
    have : i * W≤100 * 100:=Nat.mul_le_mul (by omega) hW
    omega
  have br:=bR r hrR
  have bk:=bR k hkR
  simp (disch:=first | omega | (simp only [length_take,length_drop,length_append,map_cons,map_nil,length_map,length_cons,length_nil,length_set,length_replicate];omega) | (simp only [length_cons,length_nil,Nat.zero_add,Nat.reduceAdd])) only [go_sem,↓reduceIte,Nat.reduceAdd,Int.reduceNeg,Int.reduceAdd,Int.reduceSub,Int.reduceMul,Int.reduceLT,Int.reduceLE,Int.reduceEq,Int.reduceToNat,Nat.reduceBEq,true_and]
  refine lp_n W (fun j=>[.sc (.int .i64 (j : Nat)),.sl 39 3 ((gridL W (swapJ r k f j) (R * W)).map encIt)]) (by rw [swapJ_0];rfl) fun j hj=>?_
  simp only [u_impl_reduce_l5]
  simp (disch:=first | omega | (simp only [length_take,length_drop,length_append,map_cons,map_nil,length_map,length_cons,length_nil,length_set,length_replicate];omega) | (simp only [length_cons,length_nil,Nat.zero_add,Nat.reduceAdd])) only [go_sem,↓reduceIte,Nat.reduceAdd,Int.reduceNeg,Int.reduceAdd,Int.reduceSub,Int.reduceMul,Int.reduceLT,Int.reduceLE,Int.reduceEq,Int.reduceToNat,Nat.reduceBEq,true_and]
  refine br_if (fun h=>?_) (fun h=>?_)
  · have hjW : j < W:=by omega
    simp (disch:=first | omega | (simp only [length_take,length_drop,length_append,map_cons,map_nil,length_map,length_cons,length_nil,length_set,length_replicate];omega) | (simp only [length_cons,length_nil,Nat.zero_add,Nat.reduceAdd])) only [go_sem,↓reduceIte,Nat.reduceAdd,Int.reduceNeg,Int.reduceAdd,Int.reduceSub,Int.reduceMul,Int.reduceLT,Int.reduceLE,Int.reduceEq,Int.reduceToNat,Nat.reduceBEq,nm,na,ix_g,chk_g,encIt,st_g,swapJ_at,swapJ_step,nat1]
    exact hjW
  obtain rfl : W = j:=by omega
  simp (disch:=first | omega | (simp only [length_take,length_drop,length_append,map_cons,map_nil,length_map,length_cons,length_nil,length_set,length_replicate];omega) | (simp only [length_cons,length_nil,Nat.zero_add,Nat.reduceAdd])) only [go_sem,↓reduceIte,Nat.reduceAdd,Int.reduceNeg,Int.reduceAdd,Int.reduceSub,Int.reduceMul,Int.reduceLT,Int.reduceLE,Int.reduceEq,Int.reduceToNat,Nat.reduceBEq,true_and]
  refine cl_ok (cellAt_g (swapJ r k f W) hrR hcW hR hW) rfl ?_
  simp (disch:=first | omega | (simp only [length_take,length_drop,length_append,map_cons,map_nil,length_map,length_cons,length_nil,length_set,length_replicate];omega) | (simp only [length_cons,length_nil,Nat.zero_add,Nat.reduceAdd])) only [go_sem,↓reduceIte,Nat.reduceAdd,Int.reduceNeg,Int.reduceAdd,Int.reduceSub,Int.reduceMul,Int.reduceLT,Int.reduceLE,Int.reduceEq,Int.reduceToNat,Nat.reduceBEq,encIt,swapJ_r hcW]
  generalize hp : f k c = p at *
  refine lp_n W (fun i=>[.sc (.int .i64 (i : Nat)),.sl 39 3 ((gridL W (divJ r p (swapJ r k f W) i) (R * W)).map encIt)]) (by rw [divJ_0];rfl) fun i hi=>?_
  simp only [u_impl_reduce_l4]
  simp (disch:=first | omega | (simp only [length_take,length_drop,length_append,map_cons,map_nil,length_map,length_cons,length_nil,length_set,length_replicate];omega) | (simp only [length_cons,length_nil,Nat.zero_add,Nat.reduceAdd])) only [go_sem,↓reduceIte,Nat.reduceAdd,Int.reduceNeg,Int.reduceAdd,Int.reduceSub,Int.reduceMul,Int.reduceLT,Int.reduceLE,Int.reduceEq,Int.reduceToNat,Nat.reduceBEq,true_and]
  refine br_if (fun h=>?_) (fun h=>?_)
  · have hiW : i < W:=by omega
    simp (disch:=first | omega | (simp only [length_take,length_drop,length_append,map_cons,map_nil,length_map,length_cons,length_nil,length_set,length_replicate];omega) | (simp only [length_cons,length_nil,Nat.zero_add,Nat.reduceAdd])) only [go_sem,↓reduceIte,Nat.reduceAdd,Int.reduceNeg,Int.reduceAdd,Int.reduceSub,Int.reduceMul,Int.reduceLT,Int.reduceLE,Int.reduceEq,Int.reduceToNat,Nat.reduceBEq,nm,na]
    refine cl_ok (cellAt_g _ hrR hiW hR hW) rfl ?_
    simp (disch:=first | omega | (simp only [length_take,length_drop,length_append,map_cons,map_nil,length_map,length_cons,length_nil,length_set,length_replicate];omega) | (simp only [length_cons,length_nil,Nat.zero_add,Nat.reduceAdd])) only [go_sem,↓reduceIte,Nat.reduceAdd,Int.reduceNeg,Int.reduceAdd,Int.reduceSub,Int.reduceMul,Int.reduceLT,Int.reduceLE,Int.reduceEq,Int.reduceToNat,Nat.reduceBEq,encIt,divJ_at]
    refine cl_ok (mImplDiv _ p) rfl ?_
    simp (disch:=first | omega | (simp only [length_take,length_drop,length_append,map_cons,map_nil,length_map,length_cons,length_nil,length_set,length_replicate];omega) | (simp only [length_cons,length_nil,Nat.zero_add,Nat.reduceAdd])) only [go_sem,↓reduceIte,Nat.reduceAdd,Int.reduceNeg,Int.reduceAdd,Int.reduceSub,Int.reduceMul,Int.reduceLT,Int.reduceLE,Int.reduceEq,Int.reduceToNat,Nat.reduceBEq,nm,na,ix_g,chk_g,encIt,st_g,divJ_at,divJ_step,nat1]
    exact hiW
  obtain rfl : W = i:=by omega
  rw [div_swap]
  have hgf : elJ r c W (sdJ r k p f W) R 0 = stepF W R r k c f:=by unfold stepF;rw [hp]
  generalize sdJ r k p f W = g at *
  simp (disch:=first | omega | (simp only [length_take,length_drop,length_append,map_cons,map_nil,length_map,length_cons,length_nil,length_set,length_replicate];omega) | (simp only [length_cons,length_nil,Nat.zero_add,Nat.reduceAdd])) only [go_sem,↓reduceIte,Nat.reduceAdd,Int.reduceNeg,Int.reduceAdd,Int.reduceSub,Int.reduceMul,Int.reduceLT,Int.reduceLE,Int.reduceEq,Int.reduceToNat,Nat.reduceBEq,true_and]
  refine lp_n R (fun i=>[.sc (.int .i64 (i : Nat)),.sc (.bool (decide ((W : Int) < W))),.sc (.int .i64 (W : Nat)),.sc (.bool (decide ((W : Int) < W))),.sc (.int .i64 (W : Nat)),.sc (.bool (decide ((k : Int) = R))),x0,.sc (.int .i64 (k : Nat)),.sc (.int .i64 (r : Nat)),.sc (.bool (decide ((r : Int) < R))),
    .sl 39 3 ((gridL W (elJ r c W g i 0) (R * W)).map encIt),.sl 55 5 (st.map encSt),.sc (.int .i64 p.num),.sc (.int .i64 p.den),.sc (.string p.text)]) (by rw [elJ_0];rfl) fun i hi=>?_
  simp only [u_impl_reduce_l3]
  simp (disch:=first | omega | (simp only [length_take,length_drop,length_append,map_cons,map_nil,length_map,length_cons,length_nil,length_set,length_replicate];omega) | (simp only [length_cons,length_nil,Nat.zero_add,Nat.reduceAdd])) only [go_sem,↓reduceIte,Nat.reduceAdd,Int.reduceNeg,Int.reduceAdd,Int.reduceSub,Int.reduceMul,Int.reduceLT,Int.reduceLE,Int.reduceEq,Int.reduceToNat,Nat.reduceBEq,true_and]
  refine br_if (fun h=>?_) (fun h=>?_)
  · have hiR : i < R:=by omega
    have bi:=bR i hiR
    simp (disch:=first | omega | (simp only [length_take,length_drop,length_append,map_cons,map_nil,length_map,length_cons,length_nil,length_set,length_replicate];omega) | (simp only [length_cons,length_nil,Nat.zero_add,Nat.reduceAdd])) only [go_sem,↓reduceIte,Nat.reduceAdd,Int.reduceNeg,Int.reduceAdd,Int.reduceSub,Int.reduceMul,Int.reduceLT,Int.reduceLE,Int.reduceEq,Int.reduceToNat,Nat.reduceBEq,true_and]
    refine jn (fun vs=>∃ y0 y2 y3 y4,vs = [y0,.sl 39 3 ((gridL W (elJ r c W g (i + 1) 0) (R * W)).map encIt),y2,y3,y4]) ?_ ?_
    rotate_left
    · rintro vs - ⟨y0,y2,y3,y4,rfl⟩
      simp only [u_impl_reduce_j2]
      simp (disch:=first | omega | (simp only [length_take,length_drop,length_append,map_cons,map_nil,length_map,length_cons,length_nil,length_set,length_replicate];omega) | (simp only [length_cons,length_nil,Nat.zero_add,Nat.reduceAdd])) only [go_sem,↓reduceIte,Nat.reduceAdd,Int.reduceNeg,Int.reduceAdd,Int.reduceSub,Int.reduceMul,Int.reduceLT,Int.reduceLE,Int.reduceEq,Int.reduceToNat,Nat.reduceBEq,nat1]
      exact hiR
    simp (disch:=first | omega | (simp only [length_take,length_drop,length_append,map_cons,map_nil,length_map,length_cons,length_nil,length_set,length_replicate];omega) | (simp only [length_cons,length_nil,Nat.zero_add,Nat.reduceAdd])) only [go_sem,↓reduceIte,Nat.reduceAdd,Int.reduceNeg,Int.reduceAdd,Int.reduceSub,Int.reduceMul,Int.reduceLT,Int.reduceLE,Int.reduceEq,Int.reduceToNat,Nat.reduceBEq,true_and]
    refine cl_ok (cellAt_g _ hiR hcW hR hW) rfl ?_
    simp (disch:=first | omega | (simp only [length_take,length_drop,length_append,map_cons,map_nil,length_map,length_cons,length_nil,length_set,length_replicate];omega) | (simp only [length_cons,length_nil,Nat.zero_add,Nat.reduceAdd])) only [go_sem,↓reduceIte,Nat.reduceAdd,Int.reduceNeg,Int.reduceAdd,Int.reduceSub,Int.reduceMul,Int.reduceLT,Int.reduceLE,Int.reduceEq,Int.reduceToNat,Nat.reduceBEq,encIt,elJ_c hcW]
    refine br_if (fun hir=>?_) (fun hir=>?_)
    · simp (disch:=first | omega | (simp only [length_take,length_drop,length_append,map_cons,map_nil,length_map,length_cons,length_nil,length_set,length_replicate];omega) | (simp only [length_cons,length_nil,Nat.zero_add,Nat.reduceAdd])) only [go_sem,↓reduceIte,Nat.reduceAdd,Int.reduceNeg,Int.reduceAdd,Int.reduceSub,Int.reduceMul,Int.reduceLT,Int.reduceLE,Int.reduceEq,Int.reduceToNat,Nat.reduceBEq,elJ_skip (g:=g) (c:=c) (W:=W) (i:=i) (r:=r) (Or.inl (by omega))]
      exact ⟨_,_,_,_,rfl⟩
    simp (disch:=first | omega | (simp only [length_take,length_drop,length_append,map_cons,map_nil,length_map,length_cons,length_nil,length_set,length_replicate];omega) | (simp only [length_cons,length_nil,Nat.zero_add,Nat.reduceAdd])) only [go_sem,↓reduceIte,Nat.reduceAdd,Int.reduceNeg,Int.reduceAdd,Int.reduceSub,Int.reduceMul,Int.reduceLT,Int.reduceLE,Int.reduceEq,Int.reduceToNat,Nat.reduceBEq,true_and]
    refine br_if (fun hn=>?_) (fun hn=>?_)
    · simp (disch:=first | omega | (simp only [length_take,length_drop,length_append,map_cons,map_nil,length_map,length_cons,length_nil,length_set,length_replicate];omega) | (simp only [length_cons,length_nil,Nat.zero_add,Nat.reduceAdd])) only [go_sem,↓reduceIte,Nat.reduceAdd,Int.reduceNeg,Int.reduceAdd,Int.reduceSub,Int.reduceMul,Int.reduceLT,Int.reduceLE,Int.reduceEq,Int.reduceToNat,Nat.reduceBEq,elJ_skip (g:=g) (c:=c) (W:=W) (i:=i) (r:=r) (Or.inr hn)]
      exact ⟨_,_,_,_,rfl⟩
    have hir' : i ≠ r:=by omega
    simp (disch:=first | omega | (simp only [length_take,length_drop,length_append,map_cons,map_nil,length_map,length_cons,length_nil,length_set,length_replicate];omega) | (simp only [length_cons,length_nil,Nat.zero_add,Nat.reduceAdd])) only [go_sem,↓reduceIte,Nat.reduceAdd,Int.reduceNeg,Int.reduceAdd,Int.reduceSub,Int.reduceMul,Int.reduceLT,Int.reduceLE,Int.reduceEq,Int.reduceToNat,Nat.reduceBEq,true_and]
    refine lp_n W (fun j=>[.sc (.int .i64 (j : Nat)),.sl 39 3 ((gridL W (elJ r c W g i j) (R * W)).map encIt)]) rfl fun j hj=>?_
    simp only [u_impl_reduce_l1]
    simp (disch:=first | omega | (simp only [length_take,length_drop,length_append,map_cons,map_nil,length_map,length_cons,length_nil,length_set,length_replicate];omega) | (simp only [length_cons,length_nil,Nat.zero_add,Nat.reduceAdd])) only [go_sem,↓reduceIte,Nat.reduceAdd,Int.reduceNeg,Int.reduceAdd,Int.reduceSub,Int.reduceMul,Int.reduceLT,Int.reduceLE,Int.reduceEq,Int.reduceToNat,Nat.reduceBEq,true_and]
    refine br_if (fun h=>?_) (fun h=>?_)
    · have hjW : j < W:=by omega
      simp (disch:=first | omega | (simp only [length_take,length_drop,length_append,map_cons,map_nil,length_map,length_cons,length_nil,length_set,length_replicate];omega) | (simp only [length_cons,length_nil,Nat.zero_add,Nat.reduceAdd])) only [go_sem,↓reduceIte,Nat.reduceAdd,Int.reduceNeg,Int.reduceAdd,Int.reduceSub,Int.reduceMul,Int.reduceLT,Int.reduceLE,Int.reduceEq,Int.reduceToNat,Nat.reduceBEq,nm,na]
      refine cl_ok (cellAt_g _ hiR hjW hR hW) rfl ?_
      simp (disch:=first | omega | (simp only [length_take,length_drop,length_append,map_cons,map_nil,length_map,length_cons,length_nil,length_set,length_replicate];omega) | (simp only [length_cons,length_nil,Nat.zero_add,Nat.reduceAdd])) only [go_sem,↓reduceIte,Nat.reduceAdd,Int.reduceNeg,Int.reduceAdd,Int.reduceSub,Int.reduceMul,Int.reduceLT,Int.reduceLE,Int.reduceEq,Int.reduceToNat,Nat.reduceBEq,encIt,elJ_at]
      refine cl_ok (cellAt_g _ hrR hjW hR hW) rfl ?_
      simp (disch:=first | omega | (simp only [length_take,length_drop,length_append,map_cons,map_nil,length_map,length_cons,length_nil,length_set,length_replicate];omega) | (simp only [length_cons,length_nil,Nat.zero_add,Nat.reduceAdd])) only [go_sem,↓reduceIte,Nat.reduceAdd,Int.reduceNeg,Int.reduceAdd,Int.reduceSub,Int.reduceMul,Int.reduceLT,Int.reduceLE,Int.reduceEq,Int.reduceToNat,Nat.reduceBEq,encIt,elJ_r]
      refine cl_ok (mImplMul (g i c) (g r j)) rfl ?_
      simp (disch:=first | omega | (simp only [length_take,length_drop,length_append,map_cons,map_nil,length_map,length_cons,length_nil,length_set,length_replicate];omega) | (simp only [length_cons,length_nil,Nat.zero_add,Nat.reduceAdd])) only [go_sem,↓reduceIte,Nat.reduceAdd,Int.reduceNeg,Int.reduceAdd,Int.reduceSub,Int.reduceMul,Int.reduceLT,Int.reduceLE,Int.reduceEq,Int.reduceToNat,Nat.reduceBEq,encIt]
      refine cl_ok (mImplSub (g i j) _) rfl ?_
      simp (disch:=first | omega | (simp only [length_take,length_drop,length_append,map_cons,map_nil,length_map,length_cons,length_nil,length_set,length_replicate];omega) | (simp only [length_cons,length_nil,Nat.zero_add,Nat.reduceAdd])) only [go_sem,↓reduceIte,Nat.reduceAdd,Int.reduceNeg,Int.reduceAdd,Int.reduceSub,Int.reduceMul,Int.reduceLT,Int.reduceLE,Int.reduceEq,Int.reduceToNat,Nat.reduceBEq,nm,na,ix_g,chk_g,encIt,st_g,elJ_step hir' hn hjW,nat1]
      exact hjW
    · obtain rfl : W = j:=by omega
      simp (disch:=first | omega | (simp only [length_take,length_drop,length_append,map_cons,map_nil,length_map,length_cons,length_nil,length_set,length_replicate];omega) | (simp only [length_cons,length_nil,Nat.zero_add,Nat.reduceAdd])) only [go_sem,↓reduceIte,Nat.reduceAdd,Int.reduceNeg,Int.reduceAdd,Int.reduceSub,Int.reduceMul,Int.reduceLT,Int.reduceLE,Int.reduceEq,Int.reduceToNat,Nat.reduceBEq,elJ_W]
      exact ⟨_,_,_,_,rfl⟩
  obtain rfl : R = i:=by omega
  rw [hgf]
  have hall:=allNumbers_m (gridL W (stepF W R r k c f) (R * W)) (by rw [gridL_len];omega)
  simp only [encIts] at hall
  have hlen : (st ++ [(c,p,decide (k ≠ r))]).length≤200:=by simp;omega
  generalize hsf : stepF W R r k c f = sf at *
  have hst : (st.map encSt) ++ [[.sc (.int .i64 (c : Nat)),.sc (.int .i64 p.num),.sc (.int .i64 p.den),.sc (.string p.text),.sc (.bool (!decide ((k : Int) = (r : Int))))]] = (st ++ [(c,p,decide (k ≠ r))]).map encSt:=by
    rw [List.map_append]
    simp only [encSt,List.map_cons,List.map_nil]
    congr 7
    by_cases h : k = r
    · simp [h]
    · have : ¬ (k : Int) = r:=by omega
      simp [h,this]
  simp (disch:=first | omega | (simp only [length_take,length_drop,length_append,map_cons,map_nil,length_map,length_cons,length_nil,length_set,length_replicate];omega) | (simp only [length_cons,length_nil,Nat.zero_add,Nat.reduceAdd])) only [go_sem,↓reduceIte,Nat.reduceAdd,Int.reduceNeg,Int.reduceAdd,Int.reduceSub,Int.reduceMul,Int.reduceLT,Int.reduceLE,Int.reduceEq,Int.reduceToNat,Nat.reduceBEq,fl1_st,hst]
  refine cl_ok hall rfl ?_
  simp (disch:=first | omega | (simp only [length_take,length_drop,length_append,map_cons,map_nil,length_map,length_cons,length_nil,length_set,length_replicate];omega) | (simp only [length_cons,length_nil,Nat.zero_add,Nat.reduceAdd])) only [go_sem,↓reduceIte,Nat.reduceAdd,Int.reduceNeg,Int.reduceAdd,Int.reduceSub,Int.reduceMul,Int.reduceLT,Int.reduceLE,Int.reduceEq,Int.reduceToNat,Nat.reduceBEq,true_and]
  refine br_nb (fun ha=>?_) (fun ha=>?_)
  · rw [if_pos ha] at hstep
    simp (disch:=first | omega | (simp only [length_take,length_drop,length_append,map_cons,map_nil,length_map,length_cons,length_nil,length_set,length_replicate];omega) | (simp only [length_cons,length_nil,Nat.zero_add,Nat.reduceAdd])) only [go_sem,↓reduceIte,Nat.reduceAdd,Int.reduceNeg,Int.reduceAdd,Int.reduceSub,Int.reduceMul,Int.reduceLT,Int.reduceLE,Int.reduceEq,Int.reduceToNat,Nat.reduceBEq,true_and]
    exact ⟨_,_,_,_,_,sf,_,rfl,hstep⟩
  · rw [if_neg (by simp [ha])] at hstep
    rw [redS_none hstep (by omega)]
    simp (disch:=first | omega | (simp only [length_take,length_drop,length_append,map_cons,map_nil,length_map,length_cons,length_nil,length_set,length_replicate];omega) | (simp only [length_cons,length_nil,Nat.zero_add,Nat.reduceAdd])) only [go_sem,↓reduceIte,Nat.reduceAdd,Int.reduceNeg,Int.reduceAdd,Int.reduceSub,Int.reduceMul,Int.reduceLT,Int.reduceLE,Int.reduceEq,Int.reduceToNat,Nat.reduceBEq,true_and]
    rfl
end Go.Proofs.Ytpilbhbbdldpeaa

namespace Go.Proofs.Ytpilbhbbdldpeaa
open List (length_take length_drop length_append map_cons map_nil length_map length_cons length_nil length_set length_replicate)
open Go.RowKit
set_option maxRecDepth 100000
def pivL (st : List Stp) : List Int:=st.map fun x=>(x.1 : Int)
def facL (st : List Stp) : List It:=st.flatMap fun x=>x.2.1 :: (if x.2.2 = true then [l2N (-1)] else [])
def resS (W R : Nat) : Option ((Nat→Nat→It) × List Stp)→List Rs
  | none=>[(true,encMt ⟨0,0,[]⟩,true),(false,[encZs []],true),(false,[encIts []],true),(false,[.sc (.bool false)],true)]
  | some (f,st)=>[(true,encMt ⟨R,W,gridL W f (R * W)⟩,true),(false,[encZs (pivL st)],true),(false,[encIts (facL st)],true),(false,[.sc (.bool true)],true)]
theorem facL_len (st : List Stp) : (facL st).length≤2 * st.length:=by
  induction st with
  | nil=>simp [facL]
  | cons x r ih =>
    unfold facL at ih ⊢
    rw [List.flatMap_cons,List.length_append]
    have : (x.2.1 :: (if x.2.2 = true then [l2N (-1)] else [])).length≤2:=by split <;> simp
    simp only [List.length_cons] at this ⊢
    omega
theorem pivL_app (st : List Stp) (x : Stp) : pivL (st ++ [x]) = pivL st ++ [(x.1 : Int)]:=by simp [pivL]
theorem facL_app (st : List Stp) (x : Stp) : facL (st ++ [x]) = facL st ++ (x.2.1 :: (if x.2.2 = true then [l2N (-1)] else [])):=by simp [facL]
theorem elJ_skip' {r c W i j : Nat} {g : Nat→Nat→It} (h : i = r ∨ (g i c).num = 0) : elJ r c W g i j = elJ r c W g (i + 1) 0:=by
  funext a b
  unfold elJ
  by_cases ha : a = i
  · subst ha
    rcases h with h | h
    · simp [h]
    · simp [h]
  · have : (a < i∧b < W ∨ a = i∧b < j) ↔ (a < i + 1∧b < W ∨ a = i + 1∧b < 0):=by omega
    simp only [this]
def JsS (W R c : Nat) (f0 : Nat→Nat→It) (vs : List DV) : Prop:=∃ x0 x1 x2 x3 f' st',vs = [x0,x1,x2,x3,.sl 39 3 ((gridL W f' (R * W)).map encIt),.sl 3 1 ((pivL st').map encZ),.sl 39 3 ((facL st').map encIt)]∧redS W R f0 (c + 1) = some (f',st')
set_option maxHeartbeats 8000000 in
theorem specRed_m (R W : Nat) (f0 : Nat→Nat→It) (hR : R≤100) (hW : W≤100) :
    Meets Try.prog 35 [(true,encMt ⟨R,W,gridL W f0 (R * W)⟩)] (resS W R (redS W R f0 W)):=by
  have hRW : R * W≤100 * 100:=Nat.mul_le_mul hR hW
  refine meets_upf Try.func35 u_spec_l14Reduce_g rfl ?_;simp only [u_spec_l14Reduce_u]
  simp only [encMt,encIts]
  have hgl : (gridL W f0 (R * W)).length≤10000:=by rw [gridL_len];omega
  simp (disch:=first | omega | (simp only [length_take,length_drop,length_append,map_cons,map_nil,length_map,length_cons,length_nil,length_set,length_replicate];omega) | (simp only [length_cons,length_nil,Nat.zero_add,Nat.reduceAdd])) only [go_sem,↓reduceIte,Nat.reduceAdd,Int.reduceNeg,Int.reduceAdd,Int.reduceSub,Int.reduceMul,Int.reduceLT,Int.reduceLE,Int.reduceEq,Int.reduceToNat,Nat.reduceBEq,true_and]
  refine jn_eq [.sl 39 3 ((gridL W f0 (R * W)).map encIt)] ?_ ?_
  · simp (disch:=first | omega | (simp only [length_take,length_drop,length_append,map_cons,map_nil,length_map,length_cons,length_nil,length_set,length_replicate];omega) | (simp only [length_cons,length_nil,Nat.zero_add,Nat.reduceAdd])) only [go_sem,↓reduceIte,Nat.reduceAdd,Int.reduceNeg,Int.reduceAdd,Int.reduceSub,Int.reduceMul,Int.reduceLT,Int.reduceLE,Int.reduceEq,Int.reduceToNat,Nat.reduceBEq,true_and]
    refine br_b (fun he=>?_) (fun he=>?_)
    · have he' : gridL W f0 (R * W) = []:=by simpa using he
      simp (disch:=first | omega | (simp only [length_take,length_drop,length_append,map_cons,map_nil,length_map,length_cons,length_nil,length_set,length_replicate];omega) | (simp only [length_cons,length_nil,Nat.zero_add,Nat.reduceAdd])) only [go_sem,↓reduceIte,Nat.reduceAdd,Int.reduceNeg,Int.reduceAdd,Int.reduceSub,Int.reduceMul,Int.reduceLT,Int.reduceLE,Int.reduceEq,Int.reduceToNat,Nat.reduceBEq,he']
    · simp (disch:=first | omega | (simp only [length_take,length_drop,length_append,map_cons,map_nil,length_map,length_cons,length_nil,length_set,length_replicate];omega) | (simp only [length_cons,length_nil,Nat.zero_add,Nat.reduceAdd])) only [go_sem,↓reduceIte,Nat.reduceAdd,Int.reduceNeg,Int.reduceAdd,Int.reduceSub,Int.reduceMul,Int.reduceLT,Int.reduceLE,Int.reduceEq,Int.reduceToNat,Nat.reduceBEq,fl_it]
  simp only [u_spec_l14Reduce_j9]
  simp (disch:=first | omega | (simp only [length_take,length_drop,length_append,map_cons,map_nil,length_map,length_cons,length_nil,length_set,length_replicate];omega) | (simp only [length_cons,length_nil,Nat.zero_add,Nat.reduceAdd])) only [go_sem,↓reduceIte,Nat.reduceAdd,Int.reduceNeg,Int.reduceAdd,Int.reduceSub,Int.reduceMul,Int.reduceLT,Int.reduceLE,Int.reduceEq,Int.reduceToNat,Nat.reduceBEq,true_and]
  refine lp (fun s : Nat × (Nat→Nat→It) × List Stp=>[.sc (.int .i64 (s.1 : Nat)),.sl 39 3 ((gridL W s.2.1 (R * W)).map encIt),.sl 3 1 ((pivL s.2.2).map encZ),.sl 39 3 ((facL s.2.2).map encIt)]) (fun s=>s.1≤W∧redS W R f0 s.1 = some (s.2.1,s.2.2)) (fun s=>W - s.1) (0,f0,[]) rfl ⟨by simp,rfl⟩ ?_
  rintro ⟨c,f,st⟩ ⟨g1,g2⟩
  simp only at g1 g2 ⊢
  obtain ⟨g3,g4⟩:=redS_len g2
  have hpl : (pivL st).length = st.length:=by simp [pivL]
  simp only [u_spec_l14Reduce_l8]
  simp (disch:=first | omega | (simp only [length_take,length_drop,length_append,map_cons,map_nil,length_map,length_cons,length_nil,length_set,length_replicate];omega) | (simp only [length_cons,length_nil,Nat.zero_add,Nat.reduceAdd])) only [go_sem,↓reduceIte,Nat.reduceAdd,Int.reduceNeg,Int.reduceAdd,Int.reduceSub,Int.reduceMul,Int.reduceLT,Int.reduceLE,Int.reduceEq,Int.reduceToNat,Nat.reduceBEq,true_and]
  refine br_if (fun hc=>?_) (fun hc=>?_)
  rotate_left
  · obtain rfl : W = c:=by omega
    rw [g2]
    simp (disch:=first | omega | (simp only [length_take,length_drop,length_append,map_cons,map_nil,length_map,length_cons,length_nil,length_set,length_replicate];omega) | (simp only [length_cons,length_nil,Nat.zero_add,Nat.reduceAdd])) only [go_sem,↓reduceIte,Nat.reduceAdd,Int.reduceNeg,Int.reduceAdd,Int.reduceSub,Int.reduceMul,Int.reduceLT,Int.reduceLE,Int.reduceEq,Int.reduceToNat,Nat.reduceBEq,true_and]
    rfl
  simp (disch:=first | omega | (simp only [length_take,length_drop,length_append,map_cons,map_nil,length_map,length_cons,length_nil,length_set,length_replicate];omega) | (simp only [length_cons,length_nil,Nat.zero_add,Nat.reduceAdd])) only [go_sem,↓reduceIte,Nat.reduceAdd,Int.reduceNeg,Int.reduceAdd,Int.reduceSub,Int.reduceMul,Int.reduceLT,Int.reduceLE,Int.reduceEq,Int.reduceToNat,Nat.reduceBEq,hpl]
  refine br_if (fun hr=>?_) (fun hr=>?_)
  rotate_left
  · rw [redS_idle g2 (by omega) g1]
    simp (disch:=first | omega | (simp only [length_take,length_drop,length_append,map_cons,map_nil,length_map,length_cons,length_nil,length_set,length_replicate];omega) | (simp only [length_cons,length_nil,Nat.zero_add,Nat.reduceAdd])) only [go_sem,↓reduceIte,Nat.reduceAdd,Int.reduceNeg,Int.reduceAdd,Int.reduceSub,Int.reduceMul,Int.reduceLT,Int.reduceLE,Int.reduceEq,Int.reduceToNat,Nat.reduceBEq,true_and]
    rfl
  have hrR : st.length < R:=by omega
  have hcW : c < W:=by omega
  have hfl:=facL_len st
  generalize hrr : st.length = r at *
  refine jn (JsS W R c f0) ?_ ?_
  rotate_left
  · rintro vs - ⟨x0,x1,x2,x3,f',st',rfl,h1⟩
    simp only [u_spec_l14Reduce_j7]
    simp (disch:=first | omega | (simp only [length_take,length_drop,length_append,map_cons,map_nil,length_map,length_cons,length_nil,length_set,length_replicate];omega) | (simp only [length_cons,length_nil,Nat.zero_add,Nat.reduceAdd])) only [go_sem,↓reduceIte,Nat.reduceAdd,Int.reduceNeg,Int.reduceAdd,Int.reduceSub,Int.reduceMul,Int.reduceLT,Int.reduceLE,Int.reduceEq,Int.reduceToNat,Nat.reduceBEq,nat1]
    exact ⟨(c + 1,f',st'),rfl,⟨by simp only;omega,h1⟩,by simp only;omega⟩
  have hstep:=redS_step g2
  unfold red1 at hstep
  rw [hrr,if_neg (by omega)] at hstep
  have bR : ∀ i,i < R→i * W≤10000:=fun i hi=>by
    have : i * W≤100 * 100:=Nat.mul_le_mul (by omega) hW
    omega
  simp (disch:=first | omega | (simp only [length_take,length_drop,length_append,map_cons,map_nil,length_map,length_cons,length_nil,length_set,length_replicate];omega) | (simp only [length_cons,length_nil,Nat.zero_add,Nat.reduceAdd])) only [go_sem,↓reduceIte,Nat.reduceAdd,Int.reduceNeg,Int.reduceAdd,Int.reduceSub,Int.reduceMul,Int.reduceLT,Int.reduceLE,Int.reduceEq,Int.reduceToNat,Nat.reduceBEq,hpl]
  refine jn (Jnz R c r f) ?_ ?_
  · refine lp (fun k : Nat=>[.sc (.int .i64 (k : Nat))]) (fun k=>r≤k∧k≤R∧∀ i,r≤i→i < k→(f i c).num = 0) (fun k=>R - k) r (by simp (disch:=first | omega | (simp only [length_take,length_drop,length_append,map_cons,map_nil,length_map,length_cons,length_nil,length_set,length_replicate];omega) | (simp only [length_cons,length_nil,Nat.zero_add,Nat.reduceAdd])) only [go_sem,↓reduceIte,Nat.reduceAdd,Int.reduceNeg,Int.reduceAdd,Int.reduceSub,Int.reduceMul,Int.reduceLT,Int.reduceLE,Int.reduceEq,Int.reduceToNat,Nat.reduceBEq,hrr,hpl]) ⟨Nat.le_refl _,by omega,fun i h1 h2=>by omega⟩ ?_
    rintro k ⟨k1,k2,k3⟩
    simp only [u_spec_l14Reduce_l0]
    simp (disch:=first | omega | (simp only [length_take,length_drop,length_append,map_cons,map_nil,length_map,length_cons,length_nil,length_set,length_replicate];omega) | (simp only [length_cons,length_nil,Nat.zero_add,Nat.reduceAdd])) only [go_sem,↓reduceIte,Nat.reduceAdd,Int.reduceNeg,Int.reduceAdd,Int.reduceSub,Int.reduceMul,Int.reduceLT,Int.reduceLE,Int.reduceEq,Int.reduceToNat,Nat.reduceBEq,true_and]
    refine br_if (fun hk=>?_) (fun hk=>?_)
    · have hkR : k < R:=by omega
      have bk:=bR k hkR
      simp (disch:=first | omega | (simp only [length_take,length_drop,length_append,map_cons,map_nil,length_map,length_cons,length_nil,length_set,length_replicate];omega) | (simp only [length_cons,length_nil,Nat.zero_add,Nat.reduceAdd])) only [go_sem,↓reduceIte,Nat.reduceAdd,Int.reduceNeg,Int.reduceAdd,Int.reduceSub,Int.reduceMul,Int.reduceLT,Int.reduceLE,Int.reduceEq,Int.reduceToNat,Nat.reduceBEq,nm,na,ix_g,chk_g,encIt]
      refine br_if (fun h0=>?_) (fun h0=>?_)
      · simp (disch:=first | omega | (simp only [length_take,length_drop,length_append,map_cons,map_nil,length_map,length_cons,length_nil,length_set,length_replicate];omega) | (simp only [length_cons,length_nil,Nat.zero_add,Nat.reduceAdd])) only [go_sem,↓reduceIte,Nat.reduceAdd,Int.reduceNeg,Int.reduceAdd,Int.reduceSub,Int.reduceMul,Int.reduceLT,Int.reduceLE,Int.reduceEq,Int.reduceToNat,Nat.reduceBEq,nat1]
        exact ⟨k + 1,rfl,⟨by omega,by omega,fun i h1 h2=>by
          rcases Nat.lt_or_ge i k with h | h
          · exact k3 i h1 h
          · obtain rfl : i = k:=by omega
            exact h0⟩,by omega⟩
      · have hn:=nz_is k2 k1 k3 (.inr h0)
        simp (disch:=first | omega | (simp only [length_take,length_drop,length_append,map_cons,map_nil,length_map,length_cons,length_nil,length_set,length_replicate];omega) | (simp only [length_cons,length_nil,Nat.zero_add,Nat.reduceAdd])) only [go_sem,↓reduceIte,Nat.reduceAdd,Int.reduceNeg,Int.reduceAdd,Int.reduceSub,Int.reduceMul,Int.reduceLT,Int.reduceLE,Int.reduceEq,Int.reduceToNat,Nat.reduceBEq,true_and]
        exact ⟨_,by rw [hn],by omega,by omega⟩
    · obtain rfl : k = R:=by omega
      have hn:=nz_is k2 k1 k3 (.inl rfl)
      simp (disch:=first | omega | (simp only [length_take,length_drop,length_append,map_cons,map_nil,length_map,length_cons,length_nil,length_set,length_replicate];omega) | (simp only [length_cons,length_nil,Nat.zero_add,Nat.reduceAdd])) only [go_sem,↓reduceIte,Nat.reduceAdd,Int.reduceNeg,Int.reduceAdd,Int.reduceSub,Int.reduceMul,Int.reduceLT,Int.reduceLE,Int.reduceEq,Int.reduceToNat,Nat.reduceBEq,true_and]
      exact ⟨_,by rw [hn],by omega,by omega⟩
  rintro vs - ⟨x0,rfl,n1,n2⟩
  generalize hk0 : nz f c R r = k at *
  simp only [u_spec_l14Reduce_j6]
  simp (disch:=first | omega | (simp only [length_take,length_drop,length_append,map_cons,map_nil,length_map,length_cons,length_nil,length_set,length_replicate];omega) | (simp only [length_cons,length_nil,Nat.zero_add,Nat.reduceAdd])) only [go_sem,↓reduceIte,Nat.reduceAdd,Int.reduceNeg,Int.reduceAdd,Int.reduceSub,Int.reduceMul,Int.reduceLT,Int.reduceLE,Int.reduceEq,Int.reduceToNat,Nat.reduceBEq,true_and]
  refine br_if (fun hk=>?_) (fun hk=>?_)
  · rw [if_pos (by omega)] at hstep
    simp (disch:=first | omega | (simp only [length_take,length_drop,length_append,map_cons,map_nil,length_map,length_cons,length_nil,length_set,length_replicate];omega) | (simp only [length_cons,length_nil,Nat.zero_add,Nat.reduceAdd])) only [go_sem,↓reduceIte,Nat.reduceAdd,Int.reduceNeg,Int.reduceAdd,Int.reduceSub,Int.reduceMul,Int.reduceLT,Int.reduceLE,Int.reduceEq,Int.reduceToNat,Nat.reduceBEq,true_and]
    exact ⟨_,_,_,_,f,st,rfl,hstep⟩
  have hkR : k < R:=by omega
  rw [if_neg (by omega)] at hstep
  have br:=bR r hrR
  have bk:=bR k hkR
  have fl1 : ∀ x : It,eFlat (some (.sl 39 3 [[.sc (.int .i64 x.num),.sc (.int .i64 x.den),.sc (.string x.text)]])) = some []:=fun _=>rfl
  have ap1 : ∀ (l : List It) (x : It),l.map encIt ++ [[.sc (.int .i64 x.num),.sc (.int .i64 x.den),.sc (.string x.text)]] = (l ++ [x]).map encIt:=fun l x=>by rw [List.map_append];rfl
  have hap:=facL_app st (c,f k c,decide (k ≠ r))
  simp (disch:=first | omega | (simp only [length_take,length_drop,length_append,map_cons,map_nil,length_map,length_cons,length_nil,length_set,length_replicate];omega) | (simp only [length_cons,length_nil,Nat.zero_add,Nat.reduceAdd])) only [go_sem,↓reduceIte,Nat.reduceAdd,Int.reduceNeg,Int.reduceAdd,Int.reduceSub,Int.reduceMul,Int.reduceLT,Int.reduceLE,Int.reduceEq,Int.reduceToNat,Nat.reduceBEq,nm,na,ix_g,chk_g,encIt,fl1,ap1]
  refine jn_eq [.sl 39 3 ((facL (st ++ [(c,f k c,decide (k ≠ r))])).map encIt)] ?_ ?_
  · refine br_ifn (fun h=>?_) (fun h=>?_)
    · have : k = r:=by omega
      simp (disch:=first | omega | (simp only [length_take,length_drop,length_append,map_cons,map_nil,length_map,length_cons,length_nil,length_set,length_replicate];omega) | (simp only [length_cons,length_nil,Nat.zero_add,Nat.reduceAdd])) only [go_sem,↓reduceIte,Nat.reduceAdd,Int.reduceNeg,Int.reduceAdd,Int.reduceSub,Int.reduceMul,Int.reduceLT,Int.reduceLE,Int.reduceEq,Int.reduceToNat,Nat.reduceBEq,true_and]
      rw [hap];simp [this]
    · have : k ≠ r:=by omega
      simp (disch:=first | omega | (simp only [length_take,length_drop,length_append,map_cons,map_nil,length_map,length_cons,length_nil,length_set,length_replicate];omega) | (simp only [length_cons,length_nil,Nat.zero_add,Nat.reduceAdd])) only [go_sem,↓reduceIte,Nat.reduceAdd,Int.reduceNeg,Int.reduceAdd,Int.reduceSub,Int.reduceMul,Int.reduceLT,Int.reduceLE,Int.reduceEq,Int.reduceToNat,Nat.reduceBEq,true_and]
      refine cl_ok (mL2Num (-1)) rfl ?_
      have hl2 : (facL st ++ [f k c]).length≤1000:=by simp;omega
      simp (disch:=first | omega | (simp only [length_take,length_drop,length_append,map_cons,map_nil,length_map,length_cons,length_nil,length_set,length_replicate];omega) | (simp only [length_cons,length_nil,Nat.zero_add,Nat.reduceAdd])) only [go_sem,↓reduceIte,Nat.reduceAdd,Int.reduceNeg,Int.reduceAdd,Int.reduceSub,Int.reduceMul,Int.reduceLT,Int.reduceLE,Int.reduceEq,Int.reduceToNat,Nat.reduceBEq,encIt,fl1,ap1]
      rw [hap];simp [this]
  generalize hp : f k c = p at *
  simp only [u_spec_l14Reduce_j5]
  simp (disch:=first | omega | (simp only [length_take,length_drop,length_append,map_cons,map_nil,length_map,length_cons,length_nil,length_set,length_replicate];omega) | (simp only [length_cons,length_nil,Nat.zero_add,Nat.reduceAdd])) only [go_sem,↓reduceIte,Nat.reduceAdd,Int.reduceNeg,Int.reduceAdd,Int.reduceSub,Int.reduceMul,Int.reduceLT,Int.reduceLE,Int.reduceEq,Int.reduceToNat,Nat.reduceBEq,true_and]
  refine lp_n W (fun j=>[.sc (.int .i64 (j : Nat)),.sl 39 3 ((gridL W (sdJ r k p f j) (R * W)).map encIt)]) (by rw [sdJ_0];rfl) fun j hj=>?_
  simp only [u_spec_l14Reduce_l4]
  simp (disch:=first | omega | (simp only [length_take,length_drop,length_append,map_cons,map_nil,length_map,length_cons,length_nil,length_set,length_replicate];omega) | (simp only [length_cons,length_nil,Nat.zero_add,Nat.reduceAdd])) only [go_sem,↓reduceIte,Nat.reduceAdd,Int.reduceNeg,Int.reduceAdd,Int.reduceSub,Int.reduceMul,Int.reduceLT,Int.reduceLE,Int.reduceEq,Int.reduceToNat,Nat.reduceBEq,true_and]
  refine br_if (fun h=>?_) (fun h=>?_)
  · have hjW : j < W:=by omega
    simp (disch:=first | omega | (simp only [length_take,length_drop,length_append,map_cons,map_nil,length_map,length_cons,length_nil,length_set,length_replicate];omega) | (simp only [length_cons,length_nil,Nat.zero_add,Nat.reduceAdd])) only [go_sem,↓reduceIte,Nat.reduceAdd,Int.reduceNeg,Int.reduceAdd,Int.reduceSub,Int.reduceMul,Int.reduceLT,Int.reduceLE,Int.reduceEq,Int.reduceToNat,Nat.reduceBEq,nm,na,ix_g,chk_g,encIt,st_g,sdJ_at]
    refine cl_ok (mSpecDiv (f k j) p) rfl ?_
    simp (disch:=first | omega | (simp only [length_take,length_drop,length_append,map_cons,map_nil,length_map,length_cons,length_nil,length_set,length_replicate];omega) | (simp only [length_cons,length_nil,Nat.zero_add,Nat.reduceAdd])) only [go_sem,↓reduceIte,Nat.reduceAdd,Int.reduceNeg,Int.reduceAdd,Int.reduceSub,Int.reduceMul,Int.reduceLT,Int.reduceLE,Int.reduceEq,Int.reduceToNat,Nat.reduceBEq,nm,na,ix_g,chk_g,encIt,st_g,sdJ_at,sdJ_step,nat1]
    exact hjW
  obtain rfl : W = j:=by omega
  have hgf : elJ r c W (sdJ r k p f W) R 0 = stepF W R r k c f:=by unfold stepF;rw [hp]
  generalize sdJ r k p f W = g at *
  simp (disch:=first | omega | (simp only [length_take,length_drop,length_append,map_cons,map_nil,length_map,length_cons,length_nil,length_set,length_replicate];omega) | (simp only [length_cons,length_nil,Nat.zero_add,Nat.reduceAdd])) only [go_sem,↓reduceIte,Nat.reduceAdd,Int.reduceNeg,Int.reduceAdd,Int.reduceSub,Int.reduceMul,Int.reduceLT,Int.reduceLE,Int.reduceEq,Int.reduceToNat,Nat.reduceBEq,true_and]
  refine lp_n R (fun i=>[.sc (.int .i64 (i : Nat)),.sl 39 3 ((gridL W (elJ r c W g i 0) (R * W)).map encIt)]) (by rw [elJ_0];rfl) fun i hi=>?_
  simp only [u_spec_l14Reduce_l3]
  simp (disch:=first | omega | (simp only [length_take,length_drop,length_append,map_cons,map_nil,length_map,length_cons,length_nil,length_set,length_replicate];omega) | (simp only [length_cons,length_nil,Nat.zero_add,Nat.reduceAdd])) only [go_sem,↓reduceIte,Nat.reduceAdd,Int.reduceNeg,Int.reduceAdd,Int.reduceSub,Int.reduceMul,Int.reduceLT,Int.reduceLE,Int.reduceEq,Int.reduceToNat,Nat.reduceBEq,true_and]
  refine br_if (fun h=>?_) (fun h=>?_)
  · have hiR : i < R:=by omega
    have bi:=bR i hiR
    simp (disch:=first | omega | (simp only [length_take,length_drop,length_append,map_cons,map_nil,length_map,length_cons,length_nil,length_set,length_replicate];omega) | (simp only [length_cons,length_nil,Nat.zero_add,Nat.reduceAdd])) only [go_sem,↓reduceIte,Nat.reduceAdd,Int.reduceNeg,Int.reduceAdd,Int.reduceSub,Int.reduceMul,Int.reduceLT,Int.reduceLE,Int.reduceEq,Int.reduceToNat,Nat.reduceBEq,true_and]
    refine jn (fun vs=>∃ y0 y1 y3 y4 y5,vs = [y0,y1,.sl 39 3 ((gridL W (elJ r c W g (i + 1) 0) (R * W)).map encIt),y3,y4,y5]) ?_ ?_
    rotate_left
    · rintro vs - ⟨y0,y1,y3,y4,y5,rfl⟩
      simp only [u_spec_l14Reduce_j2]
      simp (disch:=first | omega | (simp only [length_take,length_drop,length_append,map_cons,map_nil,length_map,length_cons,length_nil,length_set,length_replicate];omega) | (simp only [length_cons,length_nil,Nat.zero_add,Nat.reduceAdd])) only [go_sem,↓reduceIte,Nat.reduceAdd,Int.reduceNeg,Int.reduceAdd,Int.reduceSub,Int.reduceMul,Int.reduceLT,Int.reduceLE,Int.reduceEq,Int.reduceToNat,Nat.reduceBEq,nat1]
      exact hiR
    simp (disch:=first | omega | (simp only [length_take,length_drop,length_append,map_cons,map_nil,length_map,length_cons,length_nil,length_set,length_replicate];omega) | (simp only [length_cons,length_nil,Nat.zero_add,Nat.reduceAdd])) only [go_sem,↓reduceIte,Nat.reduceAdd,Int.reduceNeg,Int.reduceAdd,Int.reduceSub,Int.reduceMul,Int.reduceLT,Int.reduceLE,Int.reduceEq,Int.reduceToNat,Nat.reduceBEq,nm,na,ix_g,chk_g,encIt,elJ_c hcW]
    refine lp_n W (fun j=>[.sc (.int .i64 (j : Nat)),.sl 39 3 ((gridL W (elJ r c W g i j) (R * W)).map encIt)]) rfl fun j hj=>?_
    simp only [u_spec_l14Reduce_l1]
    simp (disch:=first | omega | (simp only [length_take,length_drop,length_append,map_cons,map_nil,length_map,length_cons,length_nil,length_set,length_replicate];omega) | (simp only [length_cons,length_nil,Nat.zero_add,Nat.reduceAdd])) only [go_sem,↓reduceIte,Nat.reduceAdd,Int.reduceNeg,Int.reduceAdd,Int.reduceSub,Int.reduceMul,Int.reduceLT,Int.reduceLE,Int.reduceEq,Int.reduceToNat,Nat.reduceBEq,true_and]
    refine br_ifn (fun hir=>?_) (fun hir=>?_)
    · simp (disch:=first | omega | (simp only [length_take,length_drop,length_append,map_cons,map_nil,length_map,length_cons,length_nil,length_set,length_replicate];omega) | (simp only [length_cons,length_nil,Nat.zero_add,Nat.reduceAdd])) only [go_sem,↓reduceIte,Nat.reduceAdd,Int.reduceNeg,Int.reduceAdd,Int.reduceSub,Int.reduceMul,Int.reduceLT,Int.reduceLE,Int.reduceEq,Int.reduceToNat,Nat.reduceBEq,elJ_skip' (g:=g) (c:=c) (W:=W) (i:=i) (j:=j) (r:=r) (Or.inl (by omega))]
      exact ⟨_,_,_,_,_,rfl⟩
    have hir' : i ≠ r:=by omega
    simp (disch:=first | omega | (simp only [length_take,length_drop,length_append,map_cons,map_nil,length_map,length_cons,length_nil,length_set,length_replicate];omega) | (simp only [length_cons,length_nil,Nat.zero_add,Nat.reduceAdd])) only [go_sem,↓reduceIte,Nat.reduceAdd,Int.reduceNeg,Int.reduceAdd,Int.reduceSub,Int.reduceMul,Int.reduceLT,Int.reduceLE,Int.reduceEq,Int.reduceToNat,Nat.reduceBEq,true_and]
    refine br_ifn (fun hn=>?_) (fun hn=>?_)
    · simp (disch:=first | omega | (simp only [length_take,length_drop,length_append,map_cons,map_nil,length_map,length_cons,length_nil,length_set,length_replicate];omega) | (simp only [length_cons,length_nil,Nat.zero_add,Nat.reduceAdd])) only [go_sem,↓reduceIte,Nat.reduceAdd,Int.reduceNeg,Int.reduceAdd,Int.reduceSub,Int.reduceMul,Int.reduceLT,Int.reduceLE,Int.reduceEq,Int.reduceToNat,Nat.reduceBEq,elJ_skip' (g:=g) (c:=c) (W:=W) (i:=i) (j:=j) (r:=r) (Or.inr hn)]
      exact ⟨_,_,_,_,_,rfl⟩
    simp (disch:=first | omega | (simp only [length_take,length_drop,length_append,map_cons,map_nil,length_map,length_cons,length_nil,length_set,length_replicate];omega) | (simp only [length_cons,length_nil,Nat.zero_add,Nat.reduceAdd])) only [go_sem,↓reduceIte,Nat.reduceAdd,Int.reduceNeg,Int.reduceAdd,Int.reduceSub,Int.reduceMul,Int.reduceLT,Int.reduceLE,Int.reduceEq,Int.reduceToNat,Nat.reduceBEq,true_and]
    refine br_if (fun h=>?_) (fun h=>?_)
    · have hjW : j < W:=by omega
      simp (disch:=first | omega | (simp only [length_take,length_drop,length_append,map_cons,map_nil,length_map,length_cons,length_nil,length_set,length_replicate];omega) | (simp only [length_cons,length_nil,Nat.zero_add,Nat.reduceAdd])) only [go_sem,↓reduceIte,Nat.reduceAdd,Int.reduceNeg,Int.reduceAdd,Int.reduceSub,Int.reduceMul,Int.reduceLT,Int.reduceLE,Int.reduceEq,Int.reduceToNat,Nat.reduceBEq,nm,na,ix_g,chk_g,encIt,elJ_at,elJ_r]
      refine cl_ok (mSpecMul (g i c) (g r j)) rfl ?_
      simp (disch:=first | omega | (simp only [length_take,length_drop,length_append,map_cons,map_nil,length_map,length_cons,length_nil,length_set,length_replicate];omega) | (simp only [length_cons,length_nil,Nat.zero_add,Nat.reduceAdd])) only [go_sem,↓reduceIte,Nat.reduceAdd,Int.reduceNeg,Int.reduceAdd,Int.reduceSub,Int.reduceMul,Int.reduceLT,Int.reduceLE,Int.reduceEq,Int.reduceToNat,Nat.reduceBEq,encIt]
      refine cl_ok (mSpecSub (g i j) _) rfl ?_
      simp (disch:=first | omega | (simp only [length_take,length_drop,length_append,map_cons,map_nil,length_map,length_cons,length_nil,length_set,length_replicate];omega) | (simp only [length_cons,length_nil,Nat.zero_add,Nat.reduceAdd])) only [go_sem,↓reduceIte,Nat.reduceAdd,Int.reduceNeg,Int.reduceAdd,Int.reduceSub,Int.reduceMul,Int.reduceLT,Int.reduceLE,Int.reduceEq,Int.reduceToNat,Nat.reduceBEq,nm,na,ix_g,chk_g,encIt,st_g,elJ_step hir' hn hjW,nat1]
      exact hjW
    · obtain rfl : W = j:=by omega
      simp (disch:=first | omega | (simp only [length_take,length_drop,length_append,map_cons,map_nil,length_map,length_cons,length_nil,length_set,length_replicate];omega) | (simp only [length_cons,length_nil,Nat.zero_add,Nat.reduceAdd])) only [go_sem,↓reduceIte,Nat.reduceAdd,Int.reduceNeg,Int.reduceAdd,Int.reduceSub,Int.reduceMul,Int.reduceLT,Int.reduceLE,Int.reduceEq,Int.reduceToNat,Nat.reduceBEq,elJ_W]
      exact ⟨_,_,_,_,_,rfl⟩
  obtain rfl : R = i:=by omega
  rw [hgf]
  have hall:=l14Known_m R W (gridL W (stepF W R r k c f) (R * W)) (by rw [gridL_len];omega)
  simp only [encMt,encIts] at hall
  generalize hsf : stepF W R r k c f = sf at *
  have hpv:=pivL_app st (c,p,decide (k ≠ r))
  have hst : (pivL st).map encZ ++ [[.sc (.int .i64 (c : Nat))]] = (pivL (st ++ [(c,p,decide (k ≠ r))])).map encZ:=by
    rw [hpv,List.map_append];rfl
  have hpl2 : (pivL st).length≤1000:=by omega
  simp (disch:=first | omega | (simp only [length_take,length_drop,length_append,map_cons,map_nil,length_map,length_cons,length_nil,length_set,length_replicate];omega) | (simp only [length_cons,length_nil,Nat.zero_add,Nat.reduceAdd])) only [go_sem,↓reduceIte,Nat.reduceAdd,Int.reduceNeg,Int.reduceAdd,Int.reduceSub,Int.reduceMul,Int.reduceLT,Int.reduceLE,Int.reduceEq,Int.reduceToNat,Nat.reduceBEq,fl1_z,hst]
  refine cl_ok hall rfl ?_
  simp (disch:=first | omega | (simp only [length_take,length_drop,length_append,map_cons,map_nil,length_map,length_cons,length_nil,length_set,length_replicate];omega) | (simp only [length_cons,length_nil,Nat.zero_add,Nat.reduceAdd])) only [go_sem,↓reduceIte,Nat.reduceAdd,Int.reduceNeg,Int.reduceAdd,Int.reduceSub,Int.reduceMul,Int.reduceLT,Int.reduceLE,Int.reduceEq,Int.reduceToNat,Nat.reduceBEq,true_and]
  refine br_nb (fun ha=>?_) (fun ha=>?_)
  · rw [if_pos ha] at hstep
    simp (disch:=first | omega | (simp only [length_take,length_drop,length_append,map_cons,map_nil,length_map,length_cons,length_nil,length_set,length_replicate];omega) | (simp only [length_cons,length_nil,Nat.zero_add,Nat.reduceAdd])) only [go_sem,↓reduceIte,Nat.reduceAdd,Int.reduceNeg,Int.reduceAdd,Int.reduceSub,Int.reduceMul,Int.reduceLT,Int.reduceLE,Int.reduceEq,Int.reduceToNat,Nat.reduceBEq,true_and]
    exact ⟨_,_,_,_,sf,_,rfl,hstep⟩
  · rw [if_neg (by simp [ha])] at hstep
    rw [redS_none hstep (by omega)]
    simp (disch:=first | omega | (simp only [length_take,length_drop,length_append,map_cons,map_nil,length_map,length_cons,length_nil,length_set,length_replicate];omega) | (simp only [length_cons,length_nil,Nat.zero_add,Nat.reduceAdd])) only [go_sem,↓reduceIte,Nat.reduceAdd,Int.reduceNeg,Int.reduceAdd,Int.reduceSub,Int.reduceMul,Int.reduceLT,Int.reduceLE,Int.reduceEq,Int.reduceToNat,Nat.reduceBEq,true_and]
    rfl
theorem ix_st {t : Nat} {l : List Stp} {kd : IntKind} {z : Int} (h : 0≤z) (h1 : z < l.length) : eIdx 5 (some (.sl t 5 (l.map encSt))) (some (.sc (.int kd z))) = some (encSt (l.getD z.toNat default)):=e_idx_map (fun _=>rfl) h h1
end Go.Proofs.Ytpilbhbbdldpeaa

namespace Go.Proofs.Ytpilbhbbdldpeaa
open List (length_take length_drop length_append map_cons map_nil length_map length_cons length_nil length_set length_replicate)
open Go.RowKit
set_option maxRecDepth 100000
theorem redS_piv {W R : Nat} {f0 : Nat→Nat→It} : ∀ {c : Nat} {f : Nat→Nat→It} {st : List Stp},redS W R f0 c = some (f,st)→(∀ x ∈ st,x.1 < c)∧st.Pairwise (fun x y=>x.1 < y.1)
  | 0,f,st,h=>by simp only [redS] at h;injection h with h;injection h with _ h;subst h;simp
  | c + 1,f,st,h=>by
    simp only [redS] at h
    split at h
    · cases h
    · rename_i g s1 h1
      obtain ⟨i1,i2⟩:=redS_piv h1
      have i3 : ∀ x ∈ s1,x.1 < c + 1:=fun x hx=>Nat.lt_succ_of_lt (i1 x hx)
      unfold red1 at h
      split at h
      · injection h with h;injection h with _ h;subst h;exact ⟨i3,i2⟩
      · split at h
        · injection h with h;injection h with _ h;subst h;exact ⟨i3,i2⟩
        · split at h
          · injection h with h;injection h with _ h;subst h
            refine ⟨fun x hx=>?_,?_⟩
            · rcases List.mem_append.1 hx with hx | hx
              · exact i3 x hx
              · rw [List.mem_singleton.1 hx];exact Nat.lt_succ_self _
            · rw [List.pairwise_append]
              refine ⟨i2,by simp,fun x hx y hy=>?_⟩
              rw [List.mem_singleton.1 hy];exact i1 x hx
          · cases h
def big (c : Nat) (st : List Stp) : Bool:=st.any fun x=>decide (c≤x.1)
theorem big_get {c i : Nat} {st : List Stp} (h : i < st.length) (hb : c≤(st.getD i default).1) : big c st = true:=by
  unfold big
  rw [List.any_eq_true]
  rw [List.getD_eq_getElem?_getD,List.getElem?_eq_getElem h] at hb
  exact ⟨st[i],List.getElem_mem h,by simpa using hb⟩
theorem big_lt {c i : Nat} {st : List Stp} (h : i < st.length) (hb : big c st = false) : (st.getD i default).1 < c:=by
  rcases Nat.lt_or_ge (st.getD i default).1 c with h1 | h1
  · exact h1
  · rw [big_get h h1] at hb;cases hb
theorem piv_lt {W R c i : Nat} {f0 f : Nat→Nat→It} {st : List Stp} (h : redS W R f0 c = some (f,st)) (hi : i < st.length) : (st.getD i default).1 < c:=by
  rw [List.getD_eq_getElem?_getD,List.getElem?_eq_getElem hi]
  exact (redS_piv h).1 _ (List.getElem_mem hi)
theorem pivL_getD {st : List Stp} {i : Nat} (h : i < st.length) : (pivL st).getD i default = ((st.getD i default).1 : Int):=by
  unfold pivL
  rw [List.getD_eq_getElem?_getD,List.getD_eq_getElem?_getD,List.getElem?_map,List.getElem?_eq_getElem h];rfl
theorem pivL_len (st : List Stp) : (pivL st).length = st.length:=by simp [pivL]
theorem besL_len' (a b : Nat) (la lb : List It) (n : Nat) (ha : la.length = n * a) (hb : lb.length = n * b) : ∀ i,i≤n→(besL a b la lb i).length = i * (a + b)
  | 0,_=>by simp [besL]
  | i + 1,hi=>by
    have k1 : i * a + a≤n * a:=by rw [← Nat.succ_mul];exact Nat.mul_le_mul_right _ hi
    have k2 : i * b + b≤n * b:=by rw [← Nat.succ_mul];exact Nat.mul_le_mul_right _ hi
    have:=besL_len' a b la lb n ha hb i (by omega)
    simp only [besL,List.length_append,List.length_take,List.length_drop,Nat.succ_mul]
    omega
set_option maxHeartbeats 1000000 in
theorem specBeside_m (n a b : Nat) (r : Int) (la lb : List It) (hn : n≤12) (ha : a≤12) (hb : b≤12) (hla : la.length = n * a) (hlb : lb.length = n * b) :
    Meets Try.prog 36 [(true,encMt ⟨n,a,la⟩),(true,encMt ⟨r,b,lb⟩)] [(true,encMt ⟨n,(a + b : Nat),besL a b la lb n⟩,true)]:=by
  refine meets_upf Try.func36 u_spec_l14Beside_g rfl ?_;simp only [u_spec_l14Beside_u]
  simp (disch:=first | omega | (simp only [length_take,length_drop,length_append,map_cons,map_nil,length_map,length_cons,length_nil,length_set,length_replicate];omega) | (simp only [length_cons,length_nil,Nat.zero_add,Nat.reduceAdd])) only [go_sem,↓reduceIte,Nat.reduceAdd,Int.reduceNeg,Int.reduceAdd,Int.reduceSub,Int.reduceMul,Int.reduceLT,Int.reduceLE,Int.reduceEq,Int.reduceToNat,Nat.reduceBEq,encMt,encIts]
  refine lp_n n (fun i=>[.sc (.int .i64 (i : Nat)),.sl 39 3 ((besL a b la lb i).map encIt)]) rfl fun i hi=>?_
  have h1 : i * a≤12 * 12:=Nat.mul_le_mul (by omega) (by omega)
  have h2 : i * b≤12 * 12:=Nat.mul_le_mul (by omega) (by omega)
  have h3:=besL_len a b la lb i
  have h4 : i * (a + b)≤12 * 24:=Nat.mul_le_mul (by omega) (by omega)
  have g1 : (i : Int) * a = ((i * a : Nat) : Int):=by simp
  have g2 : (i : Int) * b = ((i * b : Nat) : Int):=by simp
  simp only [u_spec_l14Beside_l0]
  simp (disch:=first | omega | (simp only [length_take,length_drop,length_append,map_cons,map_nil,length_map,length_cons,length_nil,length_set,length_replicate];omega) | (simp only [length_cons,length_nil,Nat.zero_add,Nat.reduceAdd])) only [go_sem,↓reduceIte,Nat.reduceAdd,Int.reduceNeg,Int.reduceAdd,Int.reduceSub,Int.reduceMul,Int.reduceLT,Int.reduceLE,Int.reduceEq,Int.reduceToNat,Nat.reduceBEq,nat1,g1,g2,na]
  refine br_if (fun h=>?_) (fun h=>?_)
  · have hlt : i < n:=by omega
    have k1 : i * a + a≤n * a:=by rw [← Nat.succ_mul];exact Nat.mul_le_mul_right _ hlt
    have k2 : i * b + b≤n * b:=by rw [← Nat.succ_mul];exact Nat.mul_le_mul_right _ hlt
    simp (disch:=first | omega | (simp only [length_take,length_drop,length_append,map_cons,map_nil,length_map,length_cons,length_nil,length_set,length_replicate];omega) | (simp only [length_cons,length_nil,Nat.zero_add,Nat.reduceAdd])) only [go_sem,↓reduceIte,Nat.reduceAdd,Int.reduceNeg,Int.reduceAdd,Int.reduceSub,Int.reduceMul,Int.reduceLT,Int.reduceLE,Int.reduceEq,Int.reduceToNat,Nat.reduceBEq,nat1,g1,g2,na,fl_it]
    refine ⟨?_,hlt⟩
    simp [besL]
  · have : i = n:=by omega
    subst this
    simp (disch:=first | omega | (simp only [length_take,length_drop,length_append,map_cons,map_nil,length_map,length_cons,length_nil,length_set,length_replicate];omega) | (simp only [length_cons,length_nil,Nat.zero_add,Nat.reduceAdd])) only [go_sem,↓reduceIte,Nat.reduceAdd,Int.reduceNeg,Int.reduceAdd,Int.reduceSub,Int.reduceMul,Int.reduceLT,Int.reduceLE,Int.reduceEq,Int.reduceToNat,Nat.reduceBEq,true_and]
    rfl
theorem fl1_i {t : Nat} {a b : Int} {d : ByteArray} : eFlat (some (.sl t 3 [[.sc (.int .i64 a),.sc (.int .i64 b),.sc (.string d)]])) = some []:=rfl
def augR (n a b : Nat) (la lb : List It) : Option ((Nat→Nat→It) × List Stp):=redS (a + b) n (celF (a + b) (besL a b la lb n)) (a + b)
theorem implAug_m (n a b : Nat) (la lb : List It) (hn : n≤12) (ha : a≤12) (hb : b≤12) (hla : la.length = n * a) (hlb : lb.length = n * b) :
    Meets Try.prog 28 [(true,encMt ⟨n,(a + b : Nat),besL a b la lb n⟩)] (resI (a + b) n (augR n a b la lb)):=by
  have hk:=implRed_m n (a + b) (celF (a + b) (besL a b la lb n)) (by omega) (by omega)
  rw [← grid_of (besL_len' a b la lb n hla hlb n (Nat.le_refl _))] at hk
  exact hk
theorem specAug_m (n a b : Nat) (la lb : List It) (hn : n≤12) (ha : a≤12) (hb : b≤12) (hla : la.length = n * a) (hlb : lb.length = n * b) :
    Meets Try.prog 35 [(true,encMt ⟨n,(a + b : Nat),besL a b la lb n⟩)] (resS (a + b) n (augR n a b la lb)):=by
  have hk:=specRed_m n (a + b) (celF (a + b) (besL a b la lb n)) (by omega) (by omega)
  rw [← grid_of (besL_len' a b la lb n hla hlb n (Nat.le_refl _))] at hk
  exact hk
def solL (c : Nat) (f : Nat→Nat→It) (st : List Stp) : Nat→List It
  | 0=>List.replicate c (l2N 0)
  | i + 1=>(solL c f st i).set (st.getD i default).1 (f i c)
theorem solL_len (c : Nat) (f : Nat→Nat→It) (st : List Stp) : ∀ i,(solL c f st i).length = c
  | 0=>by simp [solL]
  | i + 1=>by simp [solL,solL_len c f st i]
def slvE (n c : Nat) (la lb : List It) : Option (List It):=match augR n c 1 la lb with
  | none=>none
  | some x=>if big c x.2 = true then none else some (solL c x.1 x.2 x.2.length)
end Go.Proofs.Ytpilbhbbdldpeaa

namespace Go.Proofs.Ytpilbhbbdldpeaa
open Go.RowKit
def val (x : It) : Rat:=Rat.divInt x.num x.den
theorem numB_den {x : It} (h : numB x = true) : x.den ≠ 0:=by have:=(numB_iff.1 h).2.1;omega
theorem val_redN {n d : Int} (h : d ≠ 0) : val (redN n d) = Rat.divInt n d:=by
  have hd:=redN_den (n:=n) h
  obtain ⟨h1,h2,h3⟩:=gcd_pos (n:=n) h
  unfold val
  rw [Rat.divInt_eq_divInt_iff (by omega) h]
  obtain ⟨p,hp⟩:=h2
  obtain ⟨q,hq⟩:=h3
  unfold redN
  simp only
  have e1 : n / (Int.gcd n d : Int) = p := by conv => lhs; lhs; rw [hp]
                                              exact Int.mul_ediv_cancel_left _ (by omega)
  have e2 : d / (Int.gcd n d : Int) = q := by conv => lhs; lhs; rw [hq]
                                              exact Int.mul_ediv_cancel_left _ (by omega)
  split
  · rw [Int.neg_ediv_of_dvd ⟨p,hp⟩,Int.neg_ediv_of_dvd ⟨q,hq⟩,e1,e2]
    conv=>lhs;rhs;rw [hq]
    conv=>rhs;lhs;rw [hp]
    simp only [Int.neg_mul,Int.mul_neg]
    grind
  · rw [e1,e2]
    conv=>lhs;rhs;rw [hq]
    conv=>rhs;lhs;rw [hp]
    grind
theorem val_mk {n d : Int} (h : numB (mkN n d) = true) : d ≠ 0∧val (mkN n d) = Rat.divInt n d:=by
  unfold mkN at h ⊢
  split
  · rename_i hc;rw [if_pos hc,numB_it0] at h;cases h
  · rename_i hc
    rw [if_neg hc] at h
    have h0 : d ≠ 0:=fun e=>hc (Or.inl e)
    split
    · exact ⟨h0,val_redN h0⟩
    · rename_i hn;rw [if_neg hn,numB_it0] at h;cases h
theorem val_add {x y : It} (h : numB (addN x y) = true) : numB x = true∧numB y = true∧val (addN x y) = val x + val y:=by
  unfold addN at h ⊢
  split
  · rename_i hc
    rw [if_pos hc] at h
    rw [Bool.and_eq_true] at hc
    refine ⟨hc.1,hc.2,?_⟩
    rw [(val_mk h).2]
    unfold val
    rw [Rat.divInt_add_divInt _ _ (numB_den hc.1) (numB_den hc.2)]
  · rename_i hc;rw [if_neg hc,numB_it0] at h;cases h
theorem val_mul {x y : It} (h : numB (mulN x y) = true) : numB x = true∧numB y = true∧val (mulN x y) = val x * val y:=by
  unfold mulN at h ⊢
  split
  · rename_i hc
    rw [if_pos hc] at h
    rw [Bool.and_eq_true] at hc
    refine ⟨hc.1,hc.2,?_⟩
    rw [(val_mk h).2]
    unfold val
    rw [Rat.divInt_mul_divInt]
  · rename_i hc;rw [if_neg hc,numB_it0] at h;cases h
theorem val_neg {x : It} (h : numB x = true) : numB (negN x) = true∧val (negN x) = - val x:=by
  unfold negN
  rw [if_pos h]
  obtain ⟨h1,h2,h3,h4⟩:=numB_iff.1 h
  refine ⟨numB_iff.2 ⟨rfl,h2,by simp only;omega,by simp only [Int.neg_gcd];exact h4⟩,?_⟩
  unfold val
  simp only [Rat.neg_divInt]
theorem numB_neg {x : It} (h : numB (negN x) = true) : numB x = true:=by
  unfold negN at h
  split at h
  · assumption
  · rw [numB_it0] at h;cases h
theorem val_sub {x y : It} (h : numB (subN x y) = true) : numB x = true∧numB y = true∧val (subN x y) = val x - val y:=by
  unfold subN at h ⊢
  obtain ⟨h1,h2,h3⟩:=val_add h
  have h4:=numB_neg h2
  exact ⟨h1,h4,by rw [h3,(val_neg h4).2,Rat.sub_eq_add_neg]⟩
theorem val_zero {x : It} (h : numB x = true) : val x = 0 ↔ x.num = 0:=by
  unfold val
  have e : (0 : Rat) = Rat.divInt 0 1:=by simp
  rw [e,Rat.divInt_eq_divInt_iff (numB_den h) (by omega)]
  omega
theorem val_div {x y : It} (h : numB (divN x y) = true) : numB x = true∧numB y = true∧val y ≠ 0∧val (divN x y) * val y = val x:=by
  unfold divN at h ⊢
  split
  · rename_i hc
    rw [if_pos hc] at h
    rw [Bool.and_eq_true] at hc
    obtain ⟨h0,h1⟩:=val_mk h
    have hy : y.num ≠ 0:=fun e=>h0 (by rw [e,Int.mul_zero])
    refine ⟨hc.1,hc.2,fun e=>hy ((val_zero hc.2).1 e),?_⟩
    rw [h1]
    unfold val
    rw [Rat.divInt_mul_divInt,Rat.divInt_eq_divInt_iff (Int.mul_ne_zero h0 (numB_den hc.2)) (numB_den hc.1)]
    grind
  · rename_i hc;rw [if_neg hc,numB_it0] at h;cases h
theorem val_l2N (n : Int) : val (l2N n) = n:=by
  unfold val
  show Rat.divInt n 1 = n
  exact (Rat.mk_eq_divInt (num:=n) (den:=1) (nz:=by decide) (c:=Nat.coprime_one_right _)).symm
def sumQ : Nat→(Nat→Rat)→Rat
  | 0,_=>0
  | n + 1,g=>sumQ n g + g n
theorem sumQ_congr {n : Nat} {f g : Nat→Rat} (h : ∀ i,i < n→f i = g i) : sumQ n f = sumQ n g:=by
  induction n with
  | zero=>rfl
  | succ n ih=>rw [sumQ,sumQ,ih fun i hi=>h i (by omega),h n (by omega)]
theorem sumQ_add {n : Nat} {f g : Nat→Rat} : sumQ n (fun i=>f i + g i) = sumQ n f + sumQ n g:=by
  induction n with
  | zero=>simp only [sumQ];grind
  | succ n ih=>simp only [sumQ,ih];grind
theorem sumQ_mul {n : Nat} {f : Nat→Rat} {c : Rat} : sumQ n (fun i=>c * f i) = c * sumQ n f:=by
  induction n with
  | zero=>simp only [sumQ];grind
  | succ n ih=>simp only [sumQ,ih];grind
theorem sumQ_zero {n : Nat} {f : Nat→Rat} (h : ∀ i,i < n→f i = 0) : sumQ n f = 0:=by
  induction n with
  | zero=>rfl
  | succ n ih=>rw [sumQ,ih fun i hi=>h i (by omega),h n (by omega)];grind
theorem sumQ_single {n : Nat} {f : Nat→Rat} {k : Nat} (hk : k < n) (h : ∀ i,i < n→i ≠ k→f i = 0) : sumQ n f = f k:=by
  induction n with
  | zero=>omega
  | succ n ih =>
    rw [sumQ]
    by_cases e : k = n
    · subst e;rw [sumQ_zero fun i hi=>h i (by omega) (by omega)];grind
    · rw [ih (by omega) fun i hi he=>h i (by omega) he,h n (by omega) (by omega)];grind
theorem sumQ_upd {n : Nat} {f g : Nat→Rat} {k : Nat} (hk : k < n) (h : ∀ i,i < n→i ≠ k→f i = g i) : sumQ n f = sumQ n g - g k + f k:=by
  induction n with
  | zero=>omega
  | succ n ih =>
    rw [sumQ,sumQ]
    by_cases e : k = n
    · subst e;rw [sumQ_congr (f:=f) (g:=g) fun i hi=>h i (by omega) (by omega)];grind
    · rw [ih (by omega) fun i hi he=>h i (by omega) he,h n (by omega) (by omega)];grind
def sw (r k a : Nat) : Nat:=if a = r then k else if a = k then r else a
theorem sumQ_sw {n r k : Nat} {f : Nat→Rat} (hr : r < n) (hk : k < n) : sumQ n (fun a=>f (sw r k a)) = sumQ n f:=by
  by_cases e : r = k
  · subst e
    refine sumQ_congr fun i _=>?_
    unfold sw;split
    · rename_i h;rw [h]
    · rfl
  · have h1:=sumQ_upd (f:=fun a=>f (sw r k a)) (g:=fun a=>if a = k then f r else f a) hr fun i _ hi=>by unfold sw;rw [if_neg hi];split <;> rfl
    have h2:=sumQ_upd (f:=fun a=>if a = k then f r else f a) (g:=f) hk fun i _ hi=>by rw [if_neg hi]
    rw [h1,h2]
    simp only [sw,if_true,if_neg e]
    grind
structure StepQ (R W r k c : Nat) (F N : Nat→Nat→Rat) : Prop where
  hr : r < R
  hk : k < R
  hc : c < W
  p0 : F k c ≠ 0
  pr : ∀ b,b < W→N r b * F k c = F k b
  el : ∀ a,a < R→a ≠ r→∀ b,b < W→N a b = F (sw r k a) b - F (sw r k a) c * N r b
variable {R W r k c : Nat} {F N : Nat→Nat→Rat}
def Sat (R W : Nat) (F : Nat→Nat→Rat) (v : Nat→Rat) : Prop:=∀ a,a < R→sumQ W (fun b=>F a b * v b) = 0
theorem sw_sw (r k a : Nat) : sw r k (sw r k a) = a:=by unfold sw;grind
theorem sw_lt (hr : r < R) (hk : k < R) {a : Nat} (ha : a < R) : sw r k a < R:=by unfold sw;grind
theorem StepQ.sat (h : StepQ R W r k c F N) {v : Nat→Rat} (hs : Sat R W N v) : Sat R W F v:=by
  have hr:=hs r h.hr
  have key : ∀ a,a < R→a ≠ r→sumQ W (fun b=>F (sw r k a) b * v b) = 0:=by
    intro a ha hne
    have e : sumQ W (fun b=>F (sw r k a) b * v b) = sumQ W (fun b=>N a b * v b + F (sw r k a) c * (N r b * v b)):=sumQ_congr fun b hb=>by rw [h.el a ha hne b hb];grind
    rw [e,sumQ_add,hs a ha,sumQ_mul,hr];grind
  intro a ha
  by_cases e : a = k
  · subst e
    have e : sumQ W (fun b=>F a b * v b) = sumQ W (fun b=>F a c * (N r b * v b)):=sumQ_congr fun b hb=>by rw [← h.pr b hb];grind
    rw [e,sumQ_mul,hr];grind
  · have:=key (sw r k a) (sw_lt h.hr h.hk ha) (by unfold sw;grind)
    rwa [sw_sw] at this
def Ind (R W : Nat) (F : Nat→Nat→Rat) : Prop:=∀ u : Nat→Rat,(∀ b,b < W→sumQ R (fun a=>u a * F a b) = 0)→∀ a,a < R→u a = 0
theorem StepQ.ind (h : StepQ R W r k c F N) (hi : Ind R W F) : Ind R W N:=by
  intro u hu
  obtain ⟨s,hs⟩ : ∃ s : Rat,s = sumQ R (fun a=>if a = r then 0 else u a * F (sw r k a) c):=⟨_,rfl⟩
  obtain ⟨w,hw⟩ : ∃ w : Nat→Rat,w = fun a=>if a = k then (u r - s) * (F k c)⁻¹ else u (sw r k a):=⟨_,rfl⟩
  have hp:=h.p0
  have hwz:=hi w fun b hb=>by
    have e1 : sumQ R (fun a=>w a * F a b) = sumQ R (fun a=>w (sw r k a) * F (sw r k a) b):=(sumQ_sw (f:=fun a=>w a * F a b) h.hr h.hk).symm
    have e2 : sumQ R (fun a=>w (sw r k a) * F (sw r k a) b) = sumQ R (fun a=>u a * N a b + N r b * (if a = r then 0 - s else u a * F (sw r k a) c)):=by
      refine sumQ_congr fun a ha=>?_
      by_cases e : a = r
      · subst e
        rw [if_pos rfl]
        have hk' : sw a k a = k:=by unfold sw;rw [if_pos rfl]
        have hpr:=h.pr b hb
        rw [hk',hw]
        simp only [if_true]
        rw [← hpr]
        have : (F k c)⁻¹ * F k c = 1:=Rat.inv_mul_cancel _ hp
        grind
      · rw [if_neg e]
        have hne : sw r k a ≠ k:=by unfold sw;grind
        have hel:=h.el a ha e b hb
        rw [hw]
        simp only [if_neg hne,sw_sw]
        rw [hel]
        grind
    rw [e1,e2,sumQ_add,hu b hb,sumQ_mul]
    have e3:=sumQ_upd (f:=fun a=>if a = r then 0 - s else u a * F (sw r k a) c) (g:=fun a=>if a = r then 0 else u a * F (sw r k a) c) h.hr fun i _ hne=>by simp only [if_neg hne]
    rw [e3,← hs]
    simp only [if_true]
    grind
  have hother : ∀ a,a < R→a ≠ r→u a = 0:=by
    intro a ha e
    have:=hwz (sw r k a) (sw_lt h.hr h.hk ha)
    have hne : sw r k a ≠ k:=by unfold sw;grind
    rw [hw] at this
    simpa only [if_neg hne,sw_sw] using this
  have hs0 : s = 0:=by
    rw [hs]
    refine sumQ_zero fun a ha=>?_
    by_cases e : a = r
    · rw [if_pos e]
    · rw [if_neg e,hother a ha e];grind
  intro a ha
  by_cases e : a = r
  · subst e
    have:=hwz k h.hk
    rw [hw] at this
    simp only [if_true,hs0] at this
    have h2 : (F k c)⁻¹ * F k c = 1:=Rat.inv_mul_cancel _ hp
    have : u a * ((F k c)⁻¹ * F k c) = 0:=by grind
    rw [h2] at this
    grind
  · exact hother a ha e
end Go.Proofs.Ytpilbhbbdldpeaa

namespace Go.Proofs.Ytpilbhbbdldpeaa
open Go.RowKit
def vf (f : Nat→Nat→It) (a b : Nat) : Rat:=val (f a b)
theorem nz_spec (f : Nat→Nat→It) (c R r : Nat) : (nz f c R r = R∧∀ i,r≤i→i < R→(f i c).num = 0) ∨ (r≤nz f c R r∧nz f c R r < R∧(f (nz f c R r) c).num ≠ 0):=by
  unfold nz
  cases h : (List.range R).find? fun i=>decide (r≤i) && !decide ((f i c).num = 0) with
  | none =>
    left
    refine ⟨rfl,fun i hi hR=>?_⟩
    rw [List.find?_range_eq_none] at h
    have:=h i hR
    simp only [Bool.not_eq_true',Bool.and_eq_false_iff,decide_eq_false_iff_not,Bool.not_eq_false',decide_eq_true_eq] at this
    rcases this with h1 | h1
    · exact absurd hi h1
    · exact h1
  | some k =>
    right
    rw [List.find?_range_eq_some] at h
    obtain ⟨h1,h2,-⟩:=h
    simp only [Bool.and_eq_true,decide_eq_true_eq,Bool.not_eq_true',decide_eq_false_iff_not] at h1
    exact ⟨h1.1,List.mem_range.1 h2,h1.2⟩
theorem grid_nb {R W : Nat} {f : Nat→Nat→It} (h : allN (gridL W f (R * W)) = true) {a b : Nat} (ha : a < R) (hb : b < W) : numB (f a b) = true:=by
  unfold allN at h
  rw [List.all_eq_true] at h
  exact h _ (List.mem_of_getElem? (gridL_get f hb (grid_lt ha hb)))
theorem stepF_q {R W r k c : Nat} {f : Nat→Nat→It} (hr : r < R) (hk : k < R) (hc : c < W) (hp : (f k c).num ≠ 0) (hf : ∀ a b,a < R→b < W→numB (f a b) = true) (hn : allN (gridL W (stepF W R r k c f) (R * W)) = true) :
    StepQ R W r k c (vf f) (vf (stepF W R r k c f)):=by
  have hnb:=fun a b (ha : a < R) (hb : b < W)=>grid_nb hn ha hb
  have er : ∀ b,b < W→stepF W R r k c f r b = divN (f k b) (f k c):=by
    intro b hb
    unfold stepF elJ
    rw [if_neg (by rintro ⟨_,h,_⟩;exact h rfl)]
    unfold sdJ
    rw [if_pos hb,if_pos rfl]
  have eg : ∀ a b,a ≠ r→b < W→sdJ r k (f k c) f W a b = f (sw r k a) b:=by
    intro a b ha hb
    unfold sdJ sw
    rw [if_pos hb,if_neg ha,if_neg ha]
    split <;> rfl
  refine ⟨hr,hk,hc,fun e=>hp ((val_zero (hf k c hk hc)).1 e),fun b hb=>?_,fun a ha hne b hb=>?_⟩
  · have h:=hnb r b hr hb
    unfold vf
    rw [er b hb] at h ⊢
    exact (val_div h).2.2.2
  · have h:=hnb a b ha hb
    have hrb:=hnb r b hr hb
    have hs:=sw_lt hr hk ha
    unfold vf
    rw [er b hb] at hrb ⊢
    have e : stepF W R r k c f a b = if (f (sw r k a) c).num ≠ 0 then subN (f (sw r k a) b) (mulN (f (sw r k a) c) (divN (f k b) (f k c))) else f (sw r k a) b:=by
      have e2 : sdJ r k (f k c) f W r b = divN (f k b) (f k c):=by unfold sdJ;rw [if_pos hb,if_pos rfl]
      unfold stepF elJ
      rw [eg a c hne hc,eg a b hne hb,e2]
      by_cases h0 : (f (sw r k a) c).num ≠ 0
      · rw [if_pos h0,if_pos ⟨Or.inl ⟨ha,hb⟩,hne,h0⟩]
      · rw [if_neg h0,if_neg (fun x=>h0 x.2.2)]
    rw [e] at h ⊢
    split
    · rename_i h0
      rw [if_pos h0] at h
      obtain ⟨h1,h2,h3⟩:=val_sub h
      rw [h3,(val_mul h2).2.2]
    · rename_i h0
      have : val (f (sw r k a) c) = 0:=(val_zero (hf _ _ hs hc)).2 (by simpa using h0)
      rw [this];grind
structure RInv (R W c : Nat) (f0 f : Nat→Nat→It) (st : List Stp) : Prop where
  nb : ∀ a b,a < R→b < W→numB (f a b) = true
  sat : ∀ v,Sat R W (vf f) v→Sat R W (vf f0) v
  ind : Ind R W (vf f0)→Ind R W (vf f)
  le : st.length≤R
  un : ∀ j,j < st.length→∀ a,a < R→vf f a (st.getD j default).1 = if a = j then 1 else 0
  ze : ∀ a,st.length≤a→a < R→∀ b,b < c→vf f a b = 0
  lt : ∀ j,j < st.length→(st.getD j default).1 < c
theorem getD_app_l {α : Type} [Inhabited α] {l m : List α} {j : Nat} (h : j < l.length) : (l ++ m).getD j default = l.getD j default:=by
  rw [List.getD_eq_getElem?_getD,List.getD_eq_getElem?_getD,List.getElem?_append_left h]
theorem getD_app_r {α : Type} [Inhabited α] {l : List α} {x : α} : (l ++ [x]).getD l.length default = x:=by
  rw [List.getD_eq_getElem?_getD,List.getElem?_append_right (Nat.le_refl _)];simp
theorem RInv.step {R W c : Nat} {f0 f f' : Nat→Nat→It} {st st' : List Stp} (hc : c < W) (h : RInv R W c f0 f st) (hs : red1 W R c f st = some (f',st')) : RInv R W (c + 1) f0 f' st':=by
  have lt' : ∀ j,j < st.length→(st.getD j default).1 < c + 1:=fun j hj=>Nat.lt_succ_of_lt (h.lt j hj)
  unfold red1 at hs
  split at hs
  · rename_i hR
    injection hs with hs;injection hs with e1 e2;subst e1 e2
    exact ⟨h.nb,h.sat,h.ind,h.le,h.un,fun a ha haR=>by omega,lt'⟩
  · rename_i hR
    rcases nz_spec f c R st.length with ⟨h1,h2⟩ | ⟨h1,h2,h3⟩
    · rw [if_pos h1] at hs
      injection hs with hs;injection hs with e1 e2;subst e1 e2
      refine ⟨h.nb,h.sat,h.ind,h.le,h.un,fun a ha haR b hb=>?_,lt'⟩
      by_cases e : b = c
      · subst e;exact (val_zero (h.nb a b haR hc)).2 (h2 a ha haR)
      · exact h.ze a ha haR b (by omega)
    · rw [if_neg (by omega)] at hs
      split at hs
      · rename_i hn
        generalize nz f c R st.length = k at *
        injection hs with hs;injection hs with e1 e2;subst e1 e2
        have hq:=stepF_q (by omega) h2 hc h3 h.nb hn
        have hpc : ∀ j,j < st.length→(st.getD j default).1 < W:=fun j hj=>by have:=h.lt j hj;omega
        have rz : ∀ b,b < W→vf f k b = 0→vf (stepF W R st.length k c f) st.length b = 0:=by
          intro b hb hz
          have:=hq.pr b hb
          rw [hz] at this
          have h4:=hq.p0
          rcases Rat.mul_eq_zero.1 this with h5 | h5
          · exact h5
          · exact absurd h5 h4
        have r1 : vf (stepF W R st.length k c f) st.length c = 1:=by
          have:=hq.pr c hc
          have h4:=hq.p0
          have h5 : vf f k c * (vf f k c)⁻¹ = 1:=Rat.mul_inv_cancel _ h4
          grind
        refine ⟨fun a b ha hb=>grid_nb hn ha hb,fun v hv=>h.sat v (hq.sat hv),fun hi=>hq.ind (h.ind hi),by simp;omega,?_,?_,?_⟩
        · intro j hj a ha
          rw [List.length_append,List.length_singleton] at hj
          by_cases e : j < st.length
          · rw [getD_app_l e]
            have hz:=rz _ (hpc j e) (by rw [h.un j e k h2,if_neg (by omega)])
            by_cases ea : a = st.length
            · subst ea
              rw [hz,if_neg (by omega)]
            · rw [hq.el a ha ea _ (hpc j e),hz,h.un j e _ (sw_lt (by omega) h2 ha)]
              unfold sw
              rw [if_neg ea]
              by_cases ek : a = k
              · rw [if_pos ek,if_neg (by omega),if_neg (by omega)];grind
              · rw [if_neg ek];grind
          · obtain rfl : j = st.length:=by omega
            rw [getD_app_r]
            simp only
            by_cases ea : a = st.length
            · subst ea;rw [r1,if_pos rfl]
            · rw [hq.el a ha ea c hc,r1,if_neg ea];grind
        · intro a ha haR b hb
          rw [List.length_append,List.length_singleton] at ha
          have ea : a ≠ st.length:=by omega
          by_cases e : b = c
          · subst e
            rw [hq.el a haR ea b hc,r1];grind
          · rw [hq.el a haR ea b (by omega),rz b (by omega) (h.ze k h1 h2 b (by omega))]
            have : vf f (sw st.length k a) b = 0:=by
              refine h.ze _ ?_ (sw_lt (by omega) h2 haR) b (by omega)
              unfold sw;rw [if_neg ea];split <;> omega
            rw [this];grind
        · intro j hj
          rw [List.length_append,List.length_singleton] at hj
          by_cases e : j < st.length
          · rw [getD_app_l e];exact lt' j e
          · obtain rfl : j = st.length:=by omega
            rw [getD_app_r];exact Nat.lt_succ_self _
      · cases hs
theorem redS_inv {R W : Nat} {f0 : Nat→Nat→It} (h0 : ∀ a b,a < R→b < W→numB (f0 a b) = true) : ∀ {c : Nat} {f : Nat→Nat→It} {st : List Stp},c≤W→redS W R f0 c = some (f,st)→RInv R W c f0 f st
  | 0,f,st,_,h=>by
    simp only [redS] at h
    injection h with h;injection h with e1 e2;subst e1 e2
    exact ⟨h0,fun _ h=>h,fun h=>h,by simp,fun j hj=>by simp at hj,fun a _ _ b hb=>by omega,fun j hj=>by simp at hj⟩
  | c + 1,f,st,hc,h=>by
    simp only [redS] at h
    split at h
    · cases h
    · rename_i g s1 h1
      exact (redS_inv h0 (by omega) h1).step (by omega) h
end Go.Proofs.Ytpilbhbbdldpeaa

namespace Go.Proofs.Ytpilbhbbdldpeaa
open Go.RowKit
set_option maxRecDepth 100000
theorem besL_getD {a b : Nat} {la lb : List It} {n : Nat} (hla : la.length = n * a) (hlb : lb.length = n * b) : ∀ m,m≤n→∀ i j,i < m→j < a + b→(besL a b la lb m).getD (i * (a + b) + j) default = if j < a then la.getD (i * a + j) default else lb.getD (i * b + (j - a)) default
  | 0,_,i,j,hi,_=>by omega
  | m + 1,hm,i,j,hi,hj=>by
    have hl:=besL_len' a b la lb n hla hlb m (by omega)
    by_cases e : i < m
    · rw [← besL_getD hla hlb m (by omega) i j e hj]
      have:=grid_lt (R:=m) (W:=a + b) e hj
      unfold besL
      rw [List.getD_eq_getElem?_getD,List.getElem?_append_left (by omega),List.getD_eq_getElem?_getD]
      cases m <;> rfl
    · obtain rfl : i = m:=by omega
      have k1 : i * a + a≤n * a:=by rw [← Nat.succ_mul];exact Nat.mul_le_mul_right _ hm
      have k2 : i * b + b≤n * b:=by rw [← Nat.succ_mul];exact Nat.mul_le_mul_right _ hm
      unfold besL
      have e1 : ∀ (x : List It),(besL a b la lb i ++ x).getD (i * (a + b) + j) default = x.getD j default:=by
        intro x
        rw [List.getD_eq_getElem?_getD,List.getElem?_append_right (by omega),hl,Nat.add_sub_cancel_left,List.getD_eq_getElem?_getD]
      have e2 : ((la.drop (i * a)).take a).length = a:=by rw [List.length_take,List.length_drop];omega
      have e3 : (besL a b la lb i ++ ((la.drop (i * a)).take a ++ (lb.drop (i * b)).take b)).getD (i * (a + b) + j) default = if j < a then la.getD (i * a + j) default else lb.getD (i * b + (j - a)) default:=by
        rw [e1,List.getD_eq_getElem?_getD]
        split
        · rename_i hja
          rw [List.getElem?_append_left (by omega),List.getElem?_take,if_pos hja,List.getElem?_drop,List.getD_eq_getElem?_getD]
        · rename_i hja
          rw [List.getElem?_append_right (by omega),e2,List.getElem?_take,if_pos (by omega),List.getElem?_drop,List.getD_eq_getElem?_getD]
      exact e3
theorem allN_getD {l : List It} (h : allN l = true) {i : Nat} (hi : i < l.length) : numB (l.getD i default) = true:=by
  unfold allN at h
  rw [List.all_eq_true] at h
  rw [List.getD_eq_getElem?_getD,List.getElem?_eq_getElem hi]
  exact h _ (List.getElem_mem hi)
theorem mulS_val {C K : Nat} {la lb : List It} {i k : Nat} : ∀ {n : Nat},numB (mulS C K la lb i k n) = true→val (mulS C K la lb i k n) = sumQ n (fun m=>val (cel C la i m) * val (cel K lb m k))
  | 0,h=>by
    simp only [mulS,sumQ]
    rw [val_l2N];rfl
  | n + 1,h=>by
    simp only [mulS,sumQ] at h ⊢
    obtain ⟨h1,h2,h3⟩:=val_add h
    rw [h3,mulS_val h1,(val_mul h2).2.2]
theorem mt_len {m : Mt} (h : mtB m = true) : m.cells.length = m.rows.toNat * m.cols.toNat∧allN m.cells = true∧m.rows.toNat≤12∧m.cols.toNat≤12:=by
  obtain ⟨h1,h2,h3,h4,h5⟩:=mtB_dims h
  have : ((m.rows.toNat * m.cols.toNat : Nat) : Int) = m.rows * m.cols:=by rw [Int.natCast_mul,Int.toNat_of_nonneg h1,Int.toNat_of_nonneg h3]
  refine ⟨by omega,by rw [mtB_true ⟨h1,h2,h3,h4,h5⟩] at h;exact h,by omega,by omega⟩
end Go.Proofs.Ytpilbhbbdldpeaa

namespace Go.Proofs.Ytpilbhbbdldpeaa
open Go.RowKit
set_option maxRecDepth 100000
theorem solL_row {R c : Nat} {f0 f : Nat→Nat→It} {st : List Stp} (hi : RInv R (c + 1) (c + 1) f0 f st) (hb : big c st = false) (hp : st.Pairwise fun x y=>x.1 < y.1) {i : Nat} (hiR : i < R) :
    ∀ m,m≤st.length→sumQ c (fun b=>vf f i b * val ((solL c f st m).getD b default)) = (if i < m then vf f i c else 0)∧∀ j,m≤j→j < st.length→val ((solL c f st m).getD (st.getD j default).1 default) = 0
  | 0,_=>by
    have hz : ∀ b,b < c→val ((solL c f st 0).getD b default) = 0:=by
      intro b hb
      simp only [solL]
      rw [List.getD_eq_getElem?_getD,List.getElem?_replicate,if_pos hb]
      exact val_l2N 0
    refine ⟨?_,fun j _ hj=>hz _ (big_lt hj hb)⟩
    rw [if_neg (by omega)]
    exact sumQ_zero fun b hb=>by rw [hz b hb];grind
  | m + 1,hm=>by
    obtain ⟨h1,h2⟩:=solL_row hi hb hp hiR m (by omega)
    have hpc:=big_lt (i:=m) (by omega) hb
    have hlen:=solL_len c f st m
    have hset : ∀ b,b < c→(solL c f st (m + 1)).getD b default = if b = (st.getD m default).1 then f m c else (solL c f st m).getD b default:=by
      intro b hb
      simp only [solL]
      rw [List.getD_eq_getElem?_getD,List.getElem?_set]
      by_cases e : (st.getD m default).1 = b
      · rw [if_pos e,if_pos (by omega),if_pos e.symm];rfl
      · rw [if_neg e,if_neg (fun x=>e x.symm),List.getD_eq_getElem?_getD]
    constructor
    · rw [sumQ_upd (g:=fun b=>vf f i b * val ((solL c f st m).getD b default)) hpc (fun b hb hne=>by rw [hset b hb,if_neg hne]),h1,hset _ hpc,if_pos rfl,h2 m (Nat.le_refl _) (by omega),hi.un m (by omega) i hiR]
      by_cases e : i = m
      · subst e
        rw [if_neg (by omega),if_pos rfl,if_pos (by omega)]
        unfold vf;grind
      · rw [if_neg e]
        by_cases e2 : i < m
        · rw [if_pos e2,if_pos (by omega)];grind
        · rw [if_neg e2,if_neg (by omega)];grind
    · intro j hj hjl
      have hpj:=big_lt (i:=j) hjl hb
      have hne : (st.getD j default).1 ≠ (st.getD m default).1:=by
        have:=List.pairwise_iff_getElem.1 hp m j (by omega) hjl (by omega)
        rw [List.getD_eq_getElem?_getD,List.getD_eq_getElem?_getD,List.getElem?_eq_getElem hjl,List.getElem?_eq_getElem (show m < st.length by omega)]
        simp only [Option.getD_some];omega
      rw [hset _ hpj,if_neg hne]
      exact h2 j (by omega) hjl
theorem slv_sat {n c : Nat} {la lb l : List It} (hla : la.length = n * c) (hlb : lb.length = n * 1) (na : allN la = true) (nb : allN lb = true) (h : slvE n c la lb = some l) {i : Nat} (hi : i < n) :
    sumQ c (fun b=>val (la.getD (i * c + b) default) * val (l.getD b default)) = val (lb.getD i default):=by
  unfold slvE at h
  split at h
  · cases h
  · rename_i x hx
    obtain ⟨f,st⟩:=x
    simp only at h
    split at h
    · cases h
    · rename_i hbig
      have hbig : big c st = false:=by simpa using hbig
      injection h with h
      subst h
      unfold augR at hx
      have h0 : ∀ a b,a < n→b < c + 1→numB (celF (c + 1) (besL c 1 la lb n) a b) = true:=by
        intro a b ha hb
        unfold celF
        rw [besL_getD hla hlb n (Nat.le_refl _) a b ha hb]
        split
        · exact allN_getD na (by rw [hla];exact grid_lt ha ‹_›)
        · exact allN_getD nb (by rw [hlb];omega)
      have inv:=redS_inv h0 (Nat.le_refl _) hx
      have hpw:=(redS_piv hx).2
      have hrow:=fun i (hi : i < n)=>(solL_row inv hbig hpw hi st.length (Nat.le_refl _)).1
      have hsat:=inv.sat (fun b=>if b < c then val ((solL c f st st.length).getD b default) else -1) (by
        intro a ha
        rw [sumQ]
        dsimp only
        have e : sumQ c (fun b=>vf f a b * (if b < c then val ((solL c f st st.length).getD b default) else -1)) = sumQ c (fun b=>vf f a b * val ((solL c f st st.length).getD b default)):=sumQ_congr fun b hb=>by rw [if_pos hb]
        rw [e,hrow a ha,if_neg (Nat.lt_irrefl c)]
        split
        · grind
        · rename_i hge
          rw [inv.ze a (by omega) ha c (by omega)];grind) i hi
      rw [sumQ] at hsat
      dsimp only at hsat
      rw [if_neg (Nat.lt_irrefl c)] at hsat
      have e1 : sumQ c (fun b=>vf (celF (c + 1) (besL c 1 la lb n)) i b * (if b < c then val ((solL c f st st.length).getD b default) else -1)) = sumQ c (fun b=>val (la.getD (i * c + b) default) * val ((solL c f st st.length).getD b default)):=by
        refine sumQ_congr fun b hb=>?_
        unfold vf celF
        rw [if_pos hb,besL_getD hla hlb n (Nat.le_refl _) i b hi (by omega),if_pos hb]
      have e2 : vf (celF (c + 1) (besL c 1 la lb n)) i c = val (lb.getD i default):=by
        unfold vf celF
        rw [besL_getD hla hlb n (Nat.le_refl _) i c hi (by omega),if_neg (Nat.lt_irrefl c)]
        congr 2;omega
      rw [e1,e2] at hsat
      grind
end Go.Proofs.Ytpilbhbbdldpeaa

namespace Go.Proofs.Ytpilbhbbdldpeaa
open Go.RowKit
set_option maxRecDepth 100000
theorem cel_turn {R C : Nat} {l : List It} {i k : Nat} (hl : l.length = R * C) (hi : i < C) (hk : k < R) : cel R (turnL R C l (C * R)) i k = cel C l k i:=by
  have hlt:=grid_lt (R:=C) (W:=R) hi hk
  unfold cel turnL
  rw [List.getElem?_map,List.getElem?_range hlt]
  simp only [Option.map_some,Option.getD_some,turnAt]
  rw [(grid_ix hk).1,(grid_ix hk).2,List.getD_eq_getElem?_getD]
end Go.Proofs.Ytpilbhbbdldpeaa

namespace Go.Proofs.Ytpilbhbbdldpeaa
open Go.RowKit
set_option maxRecDepth 100000
def u_impl_FitMatrix_h : List Hint:=[⟨2000001,7,⟨[(81,.p false [.d 51]),(16,.p false [.d 48]),(17,.p false [.ptr 11 11 0]),(73,.p false [.d 50]),(72,.p false [.d 48]),(71,.p false [.d 46]),(70,.p false [.own 8 8]),(15,.p false [.own 10 10]),(66,.p false [.d 44]),(14,.p false [.d 41]),(13,.p false [.own 8 8]),(12,.p false [.ptr 9 9 0]),(56,.p false [.d 33]),(11,.p false [.d 29]),(10,.p false [.ptr 6 6 0]),(9,.p false [.d 20]),(8,.p false [.ptr 4 4 0]),(6,.p false [.ptr 2 2 0]),(32,.p false [.d 10]),(5,.p false [.d 4]),(4,.p false [.nil]),(2,.p false [.ptr 0 0 0]),(0,.p true [.d 0,.d 1,.d 2]),(1,.p false [.d 3])],[(0,.var 0 26 [.d 0,.d 1,.d 2]),(2,.var 2 26 [.d 11,.d 12,.own 1 1]),(1,.row 1 39 3 13),(4,.var 4 26 [.d 17,.d 18,.own 3 3]),(3,.row 3 39 3 19),(6,.var 6 26 [.d 26,.d 27,.own 5 5]),(5,.row 5 39 3 28),(9,.var 9 26 [.d 37,.d 38,.own 7 7]),(7,.row 7 39 3 39),(8,.row 8 55 5 40),(10,.row 10 39 3 52),(11,.var 11 55 [.d 53,.d 54,.d 55,.d 56,.d 57])],12,12,58,[(50,true),(44,false),(33,false),(32,false),(10,false),(8,false),(6,false),(4,false)]⟩,[]⟩,⟨3000013,2,⟨[(72,.p false [.d 48]),(71,.p false [.d 46]),(70,.p false [.own 8 8]),(15,.p false [.own 10 10]),(66,.p false [.d 44]),(14,.p false [.d 41]),(13,.p false [.own 8 8]),(12,.p false [.ptr 9 9 0]),(56,.p false [.d 33]),(11,.p false [.d 29]),(10,.p false [.ptr 6 6 0]),(9,.p false [.d 20]),(8,.p false [.ptr 4 4 0]),(6,.p false [.ptr 2 2 0]),(32,.p false [.d 10]),(5,.p false [.d 4]),(4,.p false [.nil]),(2,.p false [.ptr 0 0 0]),(0,.p true [.d 0,.d 1,.d 2]),(1,.p false [.d 3])],[(0,.var 0 26 [.d 0,.d 1,.d 2]),(2,.var 2 26 [.d 11,.d 12,.own 1 1]),(1,.row 1 39 3 13),(4,.var 4 26 [.d 17,.d 18,.own 3 3]),(3,.row 3 39 3 19),(6,.var 6 26 [.d 26,.d 27,.own 5 5]),(5,.row 5 39 3 28),(9,.var 9 26 [.d 37,.d 38,.own 7 7]),(7,.row 7 39 3 39),(8,.row 8 55 5 40),(10,.row 10 39 3 49)],11,11,50,[(44,false),(33,false),(32,false),(10,false),(8,false),(6,false),(4,false)]⟩,[]⟩]
def u_impl_FitMatrix_d : List (Nat × Nat × Bool × List Nat):=[(16,9,false,[]),(5,8,false,[6])]
def u_impl_FitMatrix_j0 : UP:=.po (.k (.int .i64 1)) <| .po (.bin .add false 9 0) <| .jump 0 [0,7]
def u_impl_FitMatrix_l1 : UP:=.po (.bin .lss false 1 3) <| .ite 0 (.sel [1,2,6,7,8,9,10] <| .join 7 u_impl_FitMatrix_j0 <| .po (.isI 1) <| .po (.chk 5 2 1) <| .po (.idx 5 2 1) <| .po (.k (.int .i64 0)) <| .po (.k (.int .i64 0)) <| .po (.k (.int .i64 0)) <| .po (.k (.string ⟨#[]⟩)) <| .po (.k (.bool false)) <| .po (.bin .lss false 9 16) <| .ite 0 (.po (.sc 10) <| .po (.sc 16) <| .po (.sc 15) <| .po (.sc 17) <| .sel [0,6,7,8,9,10,11,12,14,15,16,17] <| .cl 30 [(true,[10,9,8]),(false,[7]),(false,[11])] [(true,[none,none,none],true)] <| .po (.isI 8) <| .po (.chk 3 9 8) <| .po (.sc 2) <| .po (.sc 1) <| .po (.sc 0) <| .po (.set 3 9 8 0 [2,1,0]) <| .jump 1 [4,0,9,8,7,6,5]) <| .jump 1 [0,11,10,9,8,7,6]) <| .po (.k (.bool true)) <| .po (.sc 0) <| .ret [(false,[2]),(false,[0])]
def u_impl_FitMatrix_u : UP:=.po (.k (.bool false)) <| .cl 23 [(true,[4,3,2])] [(false,[none],true)] <| .po (.un .not 0) <| .ite 0 (.po (.k (.bool true)) <| .po (.k (.bool true)) <| .po (.k (.bool false)) <| .po (.e 39 3) <| .po (.sc 1) <| .ret [(false,[0]),(false,[1])]) <| .po (.lenL 3) <| .po (.bin .neq false 0 7) <| .ite 0 (.po (.k (.bool true)) <| .po (.k (.bool false)) <| .po (.e 39 3) <| .po (.sc 1) <| .ret [(false,[0]),(false,[1])]) <| .sel [5,6,7,8] <| .cl 24 [(false,[0])] [(false,[none],true)] <| .po (.un .not 0) <| .ite 0 (.po (.k (.bool false)) <| .po (.e 39 3) <| .po (.sc 1) <| .ret [(false,[0]),(false,[1])]) <| .cl 25 [(true,[5,4,3])] [(true,[none,none,some (39,3)],true),(false,[none],true)] <| .po (.k (.int .i64 0)) <| .po (.k (.int .i64 0)) <| .sel [3,4,5,8,9,10,11] <| .cl 26 [(true,[2,1,0]),(true,[6,5,4])] [(true,[none,none,some (39,3)],true),(false,[none],true)] <| .po (.k (.int .i64 0)) <| .po (.k (.int .i64 0)) <| .po (.sc 8) <| .po (.sc 7) <| .sel [2,3,4,5,6,7,8,9,11] <| .cl 27 [(false,[7])] [(true,[none,none,some (39,3)],true)] <| .cl 26 [(true,[9,8,7]),(true,[2,1,0])] [(true,[none,none,some (39,3)],true),(false,[none],true)] <| .po (.k (.int .i64 0)) <| .po (.k (.int .i64 0)) <| .po (.un .not 9) <| .ite 0 (.po (.k (.bool true)) <| .po (.k (.bool false)) <| .po (.e 39 3) <| .po (.sc 1) <| .ret [(false,[0]),(false,[1])]) <| .po (.un .not 3) <| .ite 0 (.po (.k (.bool false)) <| .po (.e 39 3) <| .po (.sc 1) <| .ret [(false,[0]),(false,[1])]) <| .sel [5,6,7,12,13,14,19] <| .cl 29 [(true,[5,4,3]),(true,[2,1,0])] [(true,[none,none,some (39,3)],true)] <| .sel [0,1,2,9] <| .cl 28 [(true,[2,1,0])] [(true,[none,none,some (39,3)],true),(false,[some (55,5)],true),(false,[none],true)] <| .po (.k (.int .i64 0)) <| .po (.k (.int .i64 0)) <| .po (.un .not 2) <| .ite 0 (.po (.k (.bool false)) <| .po (.e 39 3) <| .po (.sc 1) <| .ret [(false,[0]),(false,[1])]) <| .po (.make 39 3 32 [.sc (.int .i64 0),.sc (.int .i64 0),.sc (.string ⟨#[]⟩)] 11) <| .po (.lenL 5) <| .po (.k (.int .i64 0)) <| .sel [0,1,2,7,8,9,10,14] <| .loop [0,2] u_impl_FitMatrix_l1
theorem u_impl_FitMatrix_g : toUPf Try.prog 6 Try.f6 owA u_impl_FitMatrix_h u_impl_FitMatrix_d = some ([(true,3),(false,1)],u_impl_FitMatrix_u):=by kernel_rfl
def u_spec_FitMatrix_h : List Hint:=[⟨2000003,2,⟨[(92,.p false [.d 57]),(83,.p false [.d 44]),(17,.p false [.d 53]),(70,.p false [.d 51]),(16,.p false [.d 49]),(15,.p false [.own 10 10]),(14,.p false [.d 44]),(12,.p false [.own 8 8]),(11,.p false [.ptr 9 9 0]),(55,.p false [.d 35]),(10,.p false [.d 31]),(9,.p false [.ptr 6 6 0]),(8,.p false [.d 22]),(7,.p false [.ptr 4 4 0]),(6,.p false [.ptr 2 2 0]),(33,.p false [.d 13]),(5,.p false [.d 4]),(4,.p false [.nil]),(2,.p false [.ptr 0 0 0]),(0,.p true [.d 0,.d 1,.d 2]),(1,.p false [.d 3])],[(0,.var 0 26 [.d 0,.d 1,.d 2]),(2,.var 2 26 [.d 14,.d 15,.own 1 1]),(1,.row 1 39 3 16),(4,.var 4 26 [.d 19,.d 20,.own 3 3]),(3,.row 3 39 3 21),(6,.var 6 26 [.d 28,.d 29,.own 5 5]),(5,.row 5 39 3 30),(9,.var 9 26 [.d 39,.d 40,.own 7 7]),(7,.row 7 39 3 41),(8,.row 8 3 1 42),(10,.row 10 39 3 58)],11,11,59,[(44,true),(56,true),(51,false),(35,false),(34,false),(13,false),(8,false),(6,false),(4,false)]⟩,[]⟩,⟨3000015,2,⟨[(17,.p false [.d 53]),(70,.p false [.d 51]),(16,.p false [.d 49]),(15,.p false [.own 10 10]),(14,.p false [.d 44]),(12,.p false [.own 8 8]),(11,.p false [.ptr 9 9 0]),(55,.p false [.d 35]),(10,.p false [.d 31]),(9,.p false [.ptr 6 6 0]),(8,.p false [.d 22]),(7,.p false [.ptr 4 4 0]),(6,.p false [.ptr 2 2 0]),(33,.p false [.d 13]),(5,.p false [.d 4]),(4,.p false [.nil]),(2,.p false [.ptr 0 0 0]),(0,.p true [.d 0,.d 1,.d 2]),(1,.p false [.d 3])],[(0,.var 0 26 [.d 0,.d 1,.d 2]),(2,.var 2 26 [.d 14,.d 15,.own 1 1]),(1,.row 1 39 3 16),(4,.var 4 26 [.d 19,.d 20,.own 3 3]),(3,.row 3 39 3 21),(6,.var 6 26 [.d 28,.d 29,.own 5 5]),(5,.row 5 39 3 30),(9,.var 9 26 [.d 39,.d 40,.own 7 7]),(7,.row 7 39 3 41),(8,.row 8 3 1 42),(10,.row 10 39 3 54)],11,11,55,[(51,false),(35,false),(34,false),(13,false),(8,false),(6,false),(4,false)]⟩,[]⟩,⟨3000011,2,⟨[(16,.p false [.d 49]),(15,.p false [.own 10 10]),(14,.p false [.d 44]),(12,.p false [.own 8 8]),(11,.p false [.ptr 9 9 0]),(55,.p false [.d 35]),(10,.p false [.d 31]),(9,.p false [.ptr 6 6 0]),(8,.p false [.d 22]),(7,.p false [.ptr 4 4 0]),(6,.p false [.ptr 2 2 0]),(33,.p false [.d 13]),(5,.p false [.d 4]),(4,.p false [.nil]),(2,.p false [.ptr 0 0 0]),(0,.p true [.d 0,.d 1,.d 2]),(1,.p false [.d 3])],[(0,.var 0 26 [.d 0,.d 1,.d 2]),(2,.var 2 26 [.d 14,.d 15,.own 1 1]),(1,.row 1 39 3 16),(4,.var 4 26 [.d 19,.d 20,.own 3 3]),(3,.row 3 39 3 21),(6,.var 6 26 [.d 28,.d 29,.own 5 5]),(5,.row 5 39 3 30),(9,.var 9 26 [.d 39,.d 40,.own 7 7]),(7,.row 7 39 3 41),(8,.row 8 3 1 42),(10,.row 10 39 3 50)],11,11,51,[(35,false),(34,false),(13,false),(8,false),(6,false),(4,false)]⟩,[]⟩]
def u_spec_FitMatrix_d : List (Nat × Nat × Bool × List Nat):=[(18,17,false,[]),(17,7,false,[]),(5,8,false,[6])]
def u_spec_FitMatrix_j0 : UP:=.po (.k (.int .i64 1)) <| .po (.bin .add false 4 0) <| .jump 1 [0,2]
def u_spec_FitMatrix_l1 : UP:=.po (.lenL 5) <| .po (.bin .lss false 2 0) <| .ite 0 (.ite 6 (.sel [2,3,7,8,9,10] <| .join 2 u_spec_FitMatrix_j0 <| .po (.isI 1) <| .po (.chk 1 2 1) <| .po (.idx 1 2 1) <| .po (.sc 0) <| .po (.sc 6) <| .po (.bin .lss false 0 6) <| .po (.sc 0) <| .ite 0 (.po (.isI 3) <| .po (.chk 1 4 3) <| .po (.idx 1 4 3) <| .po (.sc 0) <| .po (.sc 7) <| .po (.bin .mul false 4 7) <| .po (.sc 0) <| .po (.sc 9) <| .po (.bin .add false 0 9) <| .po (.sc 0) <| .po (.isI 0) <| .po (.chk 3 8 0) <| .po (.idx 3 8 0) <| .po (.sc 2) <| .po (.sc 1) <| .po (.sc 0) <| .po (.isI 5) <| .po (.chk 3 8 5) <| .po (.sc 2) <| .po (.sc 1) <| .po (.sc 0) <| .po (.set 3 8 5 0 [2,1,0]) <| .jump 2 [7,0]) <| .jump 2 [0,2]) <| .po (.un .not 6) <| .ite 0 (.po (.mk 39 3 []) <| .po (.k (.bool false)) <| .po (.sc 0) <| .ret [(false,[1]),(false,[0])]) <| .po (.k (.bool true)) <| .po (.sc 0) <| .ret [(false,[4]),(false,[0])]) <| .po (.k (.bool false)) <| .po (.un .not 7) <| .ite 0 (.po (.mk 39 3 []) <| .po (.k (.bool false)) <| .po (.sc 0) <| .ret [(false,[1]),(false,[0])]) <| .po (.k (.bool true)) <| .po (.sc 0) <| .ret [(false,[5]),(false,[0])]
def u_spec_FitMatrix_l2 : UP:=.po (.bin .lss false 1 8) <| .ite 0 (.po (.k (.int .i64 0)) <| .po (.k (.int .i64 0)) <| .po (.k (.string ⟨#[]⟩)) <| .po (.sc 2) <| .po (.sc 1) <| .po (.sc 0) <| .po (.mk 39 3 [[2,1,0]]) <| .po (.flat 0) <| .po (.app 39 3 32 5 0) <| .po (.k (.int .i64 1)) <| .po (.bin .add false 8 0) <| .jump 0 [0,2]) <| .po (.k (.int .i64 0)) <| .sel [0,2,6,7,8,9,10] <| .loop [0,1] u_spec_FitMatrix_l1
def u_spec_FitMatrix_u : UP:=.po (.k (.bool false)) <| .cl 31 [(true,[4,3,2])] [(false,[none],true)] <| .po (.un .not 0) <| .ite 0 (.po (.k (.bool true)) <| .po (.k (.bool true)) <| .po (.mk 39 3 []) <| .po (.k (.bool false)) <| .po (.sc 0) <| .ret [(false,[1]),(false,[0])]) <| .po (.lenL 3) <| .po (.bin .neq false 0 7) <| .ite 0 (.po (.k (.bool true)) <| .po (.mk 39 3 []) <| .po (.k (.bool false)) <| .po (.sc 0) <| .ret [(false,[1]),(false,[0])]) <| .sel [5,6,7,8] <| .cl 33 [(false,[0])] [(true,[none,none,some (39,3)],true)] <| .cl 32 [(true,[2,1,0])] [(false,[none],true)] <| .po (.un .not 0) <| .ite 0 (.po (.mk 39 3 []) <| .po (.k (.bool false)) <| .po (.sc 0) <| .ret [(false,[1]),(false,[0])]) <| .sel [5,6,7,8] <| .cl 34 [(true,[3,2,1])] [(true,[none,none,some (39,3)],true)] <| .po (.k (.int .i64 0)) <| .po (.k (.int .i64 0)) <| .cl 11 [(true,[4,3,2]),(true,[8,7,6])] [(true,[none,none,some (39,3)],true),(false,[none],true)] <| .po (.k (.int .i64 0)) <| .po (.k (.int .i64 0)) <| .po (.sc 10) <| .po (.sc 9) <| .sel [2,3,4,5,8,9,10,11,13] <| .cl 33 [(false,[7])] [(true,[none,none,some (39,3)],true)] <| .cl 11 [(true,[9,8,7]),(true,[2,1,0])] [(true,[none,none,some (39,3)],true),(false,[none],true)] <| .po (.k (.int .i64 0)) <| .po (.k (.int .i64 0)) <| .po (.un .not 9) <| .ite 0 (.po (.k (.bool true)) <| .po (.mk 39 3 []) <| .po (.k (.bool false)) <| .po (.sc 0) <| .ret [(false,[1]),(false,[0])]) <| .po (.un .not 3) <| .ite 0 (.po (.mk 39 3 []) <| .po (.k (.bool false)) <| .po (.sc 0) <| .ret [(false,[1]),(false,[0])]) <| .sel [5,6,7,12,13,14,19] <| .cl 36 [(true,[5,4,3]),(true,[2,1,0])] [(true,[none,none,some (39,3)],true)] <| .sel [0,1,2,9] <| .cl 35 [(true,[2,1,0])] [(true,[none,none,some (39,3)],true),(false,[some (3,1)],true),(false,[some (39,3)],true),(false,[none],true)] <| .po (.k (.int .i64 0)) <| .po (.k (.int .i64 0)) <| .po (.mk 39 3 []) <| .po (.k (.int .i64 0)) <| .sel [0,1,4,6,7,8,13] <| .loop [0,1] u_spec_FitMatrix_l2
theorem u_spec_FitMatrix_g : toUPf Try.prog 7 Try.f7 owA u_spec_FitMatrix_h u_spec_FitMatrix_d = some ([(true,3),(false,1)],u_spec_FitMatrix_u):=by kernel_rfl
end Go.Proofs.Ytpilbhbbdldpeaa

namespace Go.Proofs.Ytpilbhbbdldpeaa
open List (length_take length_drop length_append map_cons map_nil length_map length_cons length_nil length_set length_replicate)
open Go.RowKit
set_option maxRecDepth 100000
def fitL (c : Nat) (f : Nat→Nat→It) (st : List Stp) : Nat→List It
  | 0=>List.replicate c it0
  | i + 1=>if (st.getD i default).1 < c then (fitL c f st i).set (st.getD i default).1 (f i c) else fitL c f st i
theorem fitL_len (c : Nat) (f : Nat→Nat→It) (st : List Stp) : ∀ i,(fitL c f st i).length = c
  | 0=>by simp [fitL]
  | i + 1=>by
    unfold fitL
    split
    · rw [List.length_set,fitL_len c f st i]
    · exact fitL_len c f st i
def fitE (c : Nat) (la lb : List It) : Option (List It):=match augR c c 1 la lb with
  | none=>none
  | some x=>some (fitL c x.1 x.2 x.2.length)
def fitO (x : Mt) (y : List It) : Option (List It) :=
  if mtB x = true∧(y.length : Int) = x.rows∧allN y = true then
    if mulB (turnM x) x = true∧mulB (turnM x) ⟨y.length,1,y⟩ = true then fitE x.cols.toNat (mulM (turnM x) x).cells (mulM (turnM x) ⟨y.length,1,y⟩).cells
    else none
  else none
def fitR (x : Mt) (y : List It) : List It:=(fitO x y).getD []
theorem fitR_len (x : Mt) (y : List It) : (fitR x y).length≤144:=by
  unfold fitR fitO
  split
  · rename_i h
    obtain ⟨g1,g2,g3,g4,-⟩:=mtB_dims h.1
    split
    · unfold fitE
      split
      · simp
      · simp only [Option.getD_some,fitL_len];omega
    · simp
  · simp
theorem fit_none {x : Mt} {y : List It} (h : ¬ (mtB x = true∧(y.length : Int) = x.rows∧allN y = true)) : fitO x y = none:=by unfold fitO;rw [if_neg h]
theorem fit_none2 {x : Mt} {y : List It} (h : ¬ (mulB (turnM x) x = true∧mulB (turnM x) ⟨y.length,1,y⟩ = true)) : fitO x y = none:=by
  unfold fitO
  rw [if_neg h]
  split <;> rfl
theorem mulM_dim {a b : Mt} (h : mulB a b = true) : ∃ l,mulM a b = ⟨a.rows,b.cols,l⟩∧l.length = a.rows.toNat * b.cols.toNat:=⟨_,mulM_true h,by simp [mulL,gridL_len]⟩
theorem turn_true {x : Mt} (h : mtB x = true) : (turnM x).rows = x.cols∧(turnM x).cols = x.rows:=by unfold turnM;rw [if_pos h];exact ⟨rfl,rfl⟩
theorem fit_some {n c : Nat} {l y la lb : List It} (h1 : mtB ⟨n,c,l⟩ = true) (h2 : (y.length : Int) = n) (h3 : allN y = true) (h4 : mulB (turnM ⟨n,c,l⟩) ⟨n,c,l⟩ = true) (h5 : mulB (turnM ⟨n,c,l⟩) ⟨y.length,1,y⟩ = true)
    (h6 : (mulM (turnM ⟨n,c,l⟩) ⟨n,c,l⟩).cells = la) (h7 : (mulM (turnM ⟨n,c,l⟩) ⟨y.length,1,y⟩).cells = lb) : fitO ⟨n,c,l⟩ y = fitE c la lb:=by
  unfold fitO;rw [if_pos ⟨h1,h2,h3⟩,if_pos ⟨h4,h5⟩,h6,h7];rfl
theorem rep_it0 (c : Nat) : (List.replicate c it0).map encIt = List.replicate c [.sc (.int .i64 0),.sc (.int .i64 0),.sc (.string ⟨#[]⟩)]:=by rw [List.map_replicate];rfl
set_option maxHeartbeats 2000000 in
theorem implFit_m (x : Mt) (y : List It) (hy : y.length≤100000000) : Meets Try.prog 6 [(true,encMt x),(false,[encIts y])] [(false,[encIts (fitR x y)],true),(false,[.sc (.bool (fitO x y).isSome)],true)]:=by
  obtain ⟨r,c,l⟩:=x
  have hm:=isMt_m ⟨r,c,l⟩
  have ht:=implTurn_m ⟨r,c,l⟩
  have hm1:=implMul_m (turnM ⟨r,c,l⟩) ⟨r,c,l⟩
  have hm2:=implMul_m (turnM ⟨r,c,l⟩) ⟨y.length,1,y⟩
  have hco:=columnMatrix_m y (by omega)
  unfold fitR
  refine meets_upf Try.func6 u_impl_FitMatrix_g rfl ?_;simp only [u_impl_FitMatrix_u]
  simp only [encMt,encIts] at hm ht hm1 hm2 hco ⊢
  simp (disch:=first | omega | (simp only [length_take,length_drop,length_append,map_cons,map_nil,length_map,length_cons,length_nil,length_set,length_replicate];omega) | (simp only [length_cons,length_nil,Nat.zero_add,Nat.reduceAdd])) only [go_sem,↓reduceIte,Nat.reduceAdd,Int.reduceNeg,Int.reduceAdd,Int.reduceSub,Int.reduceMul,Int.reduceLT,Int.reduceLE,Int.reduceEq,Int.reduceToNat,Nat.reduceBEq,true_and]
  refine cl_ok hm rfl ?_
  cases hA : mtB ⟨r,c,l⟩
  · rw [fit_none (by simp [hA])]
    simp (disch:=first | omega | (simp only [length_take,length_drop,length_append,map_cons,map_nil,length_map,length_cons,length_nil,length_set,length_replicate];omega) | (simp only [length_cons,length_nil,Nat.zero_add,Nat.reduceAdd])) only [go_sem,↓reduceIte,Nat.reduceAdd,Int.reduceNeg,Int.reduceAdd,Int.reduceSub,Int.reduceMul,Int.reduceLT,Int.reduceLE,Int.reduceEq,Int.reduceToNat,Nat.reduceBEq,true_and]
    rfl
  simp (disch:=first | omega | (simp only [length_take,length_drop,length_append,map_cons,map_nil,length_map,length_cons,length_nil,length_set,length_replicate];omega) | (simp only [length_cons,length_nil,Nat.zero_add,Nat.reduceAdd])) only [go_sem,↓reduceIte,Nat.reduceAdd,Int.reduceNeg,Int.reduceAdd,Int.reduceSub,Int.reduceMul,Int.reduceLT,Int.reduceLE,Int.reduceEq,Int.reduceToNat,Nat.reduceBEq,true_and]
  refine br_ifn (fun h1=>?_) (fun h1=>?_)
  rotate_left
  · rw [fit_none (by simp only;rintro ⟨-,h,-⟩;exact h1 h)]
    simp (disch:=first | omega | (simp only [length_take,length_drop,length_append,map_cons,map_nil,length_map,length_cons,length_nil,length_set,length_replicate];omega) | (simp only [length_cons,length_nil,Nat.zero_add,Nat.reduceAdd])) only [go_sem,↓reduceIte,Nat.reduceAdd,Int.reduceNeg,Int.reduceAdd,Int.reduceSub,Int.reduceMul,Int.reduceLT,Int.reduceLE,Int.reduceEq,Int.reduceToNat,Nat.reduceBEq,true_and]
    rfl
  obtain ⟨g1,g2,g3,g4,g5⟩:=mtB_dims hA
  simp only at g1 g2 g3 g4 g5
  have hal:=allNumbers_m y (by omega)
  simp only [encIts] at hal
  simp (disch:=first | omega | (simp only [length_take,length_drop,length_append,map_cons,map_nil,length_map,length_cons,length_nil,length_set,length_replicate];omega) | (simp only [length_cons,length_nil,Nat.zero_add,Nat.reduceAdd])) only [go_sem,↓reduceIte,Nat.reduceAdd,Int.reduceNeg,Int.reduceAdd,Int.reduceSub,Int.reduceMul,Int.reduceLT,Int.reduceLE,Int.reduceEq,Int.reduceToNat,Nat.reduceBEq,true_and]
  refine cl_ok hal rfl ?_
  cases hN : allN y
  · rw [fit_none (by simp [hN])]
    simp (disch:=first | omega | (simp only [length_take,length_drop,length_append,map_cons,map_nil,length_map,length_cons,length_nil,length_set,length_replicate];omega) | (simp only [length_cons,length_nil,Nat.zero_add,Nat.reduceAdd])) only [go_sem,↓reduceIte,Nat.reduceAdd,Int.reduceNeg,Int.reduceAdd,Int.reduceSub,Int.reduceMul,Int.reduceLT,Int.reduceLE,Int.reduceEq,Int.reduceToNat,Nat.reduceBEq,true_and]
    rfl
  simp (disch:=first | omega | (simp only [length_take,length_drop,length_append,map_cons,map_nil,length_map,length_cons,length_nil,length_set,length_replicate];omega) | (simp only [length_cons,length_nil,Nat.zero_add,Nat.reduceAdd])) only [go_sem,↓reduceIte,Nat.reduceAdd,Int.reduceNeg,Int.reduceAdd,Int.reduceSub,Int.reduceMul,Int.reduceLT,Int.reduceLE,Int.reduceEq,Int.reduceToNat,Nat.reduceBEq,true_and]
  refine cl_ok ht rfl ?_
  simp (disch:=first | omega | (simp only [length_take,length_drop,length_append,map_cons,map_nil,length_map,length_cons,length_nil,length_set,length_replicate];omega) | (simp only [length_cons,length_nil,Nat.zero_add,Nat.reduceAdd])) only [go_sem,↓reduceIte,Nat.reduceAdd,Int.reduceNeg,Int.reduceAdd,Int.reduceSub,Int.reduceMul,Int.reduceLT,Int.reduceLE,Int.reduceEq,Int.reduceToNat,Nat.reduceBEq,true_and]
  refine cl_ok hm1 rfl ?_
  simp (disch:=first | omega | (simp only [length_take,length_drop,length_append,map_cons,map_nil,length_map,length_cons,length_nil,length_set,length_replicate];omega) | (simp only [length_cons,length_nil,Nat.zero_add,Nat.reduceAdd])) only [go_sem,↓reduceIte,Nat.reduceAdd,Int.reduceNeg,Int.reduceAdd,Int.reduceSub,Int.reduceMul,Int.reduceLT,Int.reduceLE,Int.reduceEq,Int.reduceToNat,Nat.reduceBEq,true_and]
  refine cl_ok hco rfl ?_
  simp (disch:=first | omega | (simp only [length_take,length_drop,length_append,map_cons,map_nil,length_map,length_cons,length_nil,length_set,length_replicate];omega) | (simp only [length_cons,length_nil,Nat.zero_add,Nat.reduceAdd])) only [go_sem,↓reduceIte,Nat.reduceAdd,Int.reduceNeg,Int.reduceAdd,Int.reduceSub,Int.reduceMul,Int.reduceLT,Int.reduceLE,Int.reduceEq,Int.reduceToNat,Nat.reduceBEq,true_and]
  refine cl_ok hm2 rfl ?_
  cases hB1 : mulB (turnM ⟨r,c,l⟩) ⟨r,c,l⟩
  · rw [fit_none2 (by simp [hB1])]
    simp (disch:=first | omega | (simp only [length_take,length_drop,length_append,map_cons,map_nil,length_map,length_cons,length_nil,length_set,length_replicate];omega) | (simp only [length_cons,length_nil,Nat.zero_add,Nat.reduceAdd])) only [go_sem,↓reduceIte,Nat.reduceAdd,Int.reduceNeg,Int.reduceAdd,Int.reduceSub,Int.reduceMul,Int.reduceLT,Int.reduceLE,Int.reduceEq,Int.reduceToNat,Nat.reduceBEq,true_and]
    rfl
  simp (disch:=first | omega | (simp only [length_take,length_drop,length_append,map_cons,map_nil,length_map,length_cons,length_nil,length_set,length_replicate];omega) | (simp only [length_cons,length_nil,Nat.zero_add,Nat.reduceAdd])) only [go_sem,↓reduceIte,Nat.reduceAdd,Int.reduceNeg,Int.reduceAdd,Int.reduceSub,Int.reduceMul,Int.reduceLT,Int.reduceLE,Int.reduceEq,Int.reduceToNat,Nat.reduceBEq,true_and]
  cases hB2 : mulB (turnM ⟨r,c,l⟩) ⟨y.length,1,y⟩
  · rw [fit_none2 (by simp [hB2])]
    simp (disch:=first | omega | (simp only [length_take,length_drop,length_append,map_cons,map_nil,length_map,length_cons,length_nil,length_set,length_replicate];omega) | (simp only [length_cons,length_nil,Nat.zero_add,Nat.reduceAdd])) only [go_sem,↓reduceIte,Nat.reduceAdd,Int.reduceNeg,Int.reduceAdd,Int.reduceSub,Int.reduceMul,Int.reduceLT,Int.reduceLE,Int.reduceEq,Int.reduceToNat,Nat.reduceBEq,true_and]
    rfl
  simp (disch:=first | omega | (simp only [length_take,length_drop,length_append,map_cons,map_nil,length_map,length_cons,length_nil,length_set,length_replicate];omega) | (simp only [length_cons,length_nil,Nat.zero_add,Nat.reduceAdd])) only [go_sem,↓reduceIte,Nat.reduceAdd,Int.reduceNeg,Int.reduceAdd,Int.reduceSub,Int.reduceMul,Int.reduceLT,Int.reduceLE,Int.reduceEq,Int.reduceToNat,Nat.reduceBEq,true_and]
  obtain ⟨n,rfl⟩:=Int.eq_ofNat_of_zero_le g1
  obtain ⟨c,rfl⟩:=Int.eq_ofNat_of_zero_le g3
  obtain ⟨k1,k2⟩:=turn_true hA
  obtain ⟨la,e1,e2⟩:=mulM_dim hB1
  obtain ⟨lb,e3,e4⟩:=mulM_dim hB2
  rw [fit_some hA h1 hN hB1 hB2 (congrArg Mt.cells e1) (congrArg Mt.cells e3)]
  simp only at k1 k2
  rw [k1] at e1 e2 e3 e4
  simp only at e1 e2 e3 e4
  rw [e1,e3]
  have hbe:=implBeside_m c c 1 c la lb (by omega) (by omega) (by omega) (by simpa using e2) (by simpa using e4)
  have hau:=implAug_m c c 1 la lb (by omega) (by omega) (by omega) (by simpa using e2) (by simpa using e4)
  unfold fitE
  simp only [encMt,encIts] at hbe hau
  refine cl_ok hbe rfl ?_
  simp (disch:=first | omega | (simp only [length_take,length_drop,length_append,map_cons,map_nil,length_map,length_cons,length_nil,length_set,length_replicate];omega) | (simp only [length_cons,length_nil,Nat.zero_add,Nat.reduceAdd])) only [go_sem,↓reduceIte,Nat.reduceAdd,Int.reduceNeg,Int.reduceAdd,Int.reduceSub,Int.reduceMul,Int.reduceLT,Int.reduceLE,Int.reduceEq,Int.reduceToNat,Nat.reduceBEq,true_and]
  cases hd : augR c c 1 la lb with
  | none =>
    rw [hd] at hau
    simp only [resI,encMt,encIts] at hau
    refine cl_ok hau rfl ?_
    simp (disch:=first | omega | (simp only [length_take,length_drop,length_append,map_cons,map_nil,length_map,length_cons,length_nil,length_set,length_replicate];omega) | (simp only [length_cons,length_nil,Nat.zero_add,Nat.reduceAdd])) only [go_sem,↓reduceIte,Nat.reduceAdd,Int.reduceNeg,Int.reduceAdd,Int.reduceSub,Int.reduceMul,Int.reduceLT,Int.reduceLE,Int.reduceEq,Int.reduceToNat,Nat.reduceBEq,true_and]
    rfl
  | some x =>
    obtain ⟨f,st⟩:=x
    rw [hd] at hau
    simp only [resI,encMt,encIts,encSts] at hau
    obtain ⟨l1,l2⟩:=redS_len hd
    refine cl_ok hau rfl ?_
    simp (disch:=first | omega | (simp only [length_take,length_drop,length_append,map_cons,map_nil,length_map,length_cons,length_nil,length_set,length_replicate];omega) | (simp only [length_cons,length_nil,Nat.zero_add,Nat.reduceAdd])) only [go_sem,↓reduceIte,Nat.reduceAdd,Int.reduceNeg,Int.reduceAdd,Int.reduceSub,Int.reduceMul,Int.reduceLT,Int.reduceLE,Int.reduceEq,Int.reduceToNat,Nat.reduceBEq,true_and]
    refine lp_n st.length (fun i=>[.sc (.int .i64 (i : Nat)),.sl 39 3 ((fitL c f st i).map encIt)]) (by rw [fitL,rep_it0];rfl) fun i hi=>?_
    have hsl:=fitL_len c f st i
    simp only [u_impl_FitMatrix_l1]
    simp (disch:=first | omega | (simp only [length_take,length_drop,length_append,map_cons,map_nil,length_map,length_cons,length_nil,length_set,length_replicate];omega) | (simp only [length_cons,length_nil,Nat.zero_add,Nat.reduceAdd])) only [go_sem,↓reduceIte,Nat.reduceAdd,Int.reduceNeg,Int.reduceAdd,Int.reduceSub,Int.reduceMul,Int.reduceLT,Int.reduceLE,Int.reduceEq,Int.reduceToNat,Nat.reduceBEq,true_and]
    refine br_if (fun h=>?_) (fun h=>?_)
    · have hlt : i < st.length:=by omega
      have hp:=piv_lt hd hlt
      have hs:=cellAt_g (r:=(c : Int)) f (show i < c by omega) (show c < c + 1 by omega) (by omega) (by omega)
      simp only [encMt,encIts] at hs
      refine jn (fun vs=>∃ y0 y1 y2 y3 y4 y5,vs = [y0,.sl 39 3 ((fitL c f st (i + 1)).map encIt),y1,y2,y3,y4,y5]) ?_ ?_
      · simp (disch:=first | omega | (simp only [length_take,length_drop,length_append,map_cons,map_nil,length_map,length_cons,length_nil,length_set,length_replicate];omega) | (simp only [length_cons,length_nil,Nat.zero_add,Nat.reduceAdd])) only [go_sem,↓reduceIte,Nat.reduceAdd,Int.reduceNeg,Int.reduceAdd,Int.reduceSub,Int.reduceMul,Int.reduceLT,Int.reduceLE,Int.reduceEq,Int.reduceToNat,Nat.reduceBEq,ix_st,encSt]
        refine br_if (fun h2=>?_) (fun h2=>?_)
        · simp (disch:=first | omega | (simp only [length_take,length_drop,length_append,map_cons,map_nil,length_map,length_cons,length_nil,length_set,length_replicate];omega) | (simp only [length_cons,length_nil,Nat.zero_add,Nat.reduceAdd])) only [go_sem,↓reduceIte,Nat.reduceAdd,Int.reduceNeg,Int.reduceAdd,Int.reduceSub,Int.reduceMul,Int.reduceLT,Int.reduceLE,Int.reduceEq,Int.reduceToNat,Nat.reduceBEq,true_and]
          refine cl_ok hs rfl ?_
          simp (disch:=first | omega | (simp only [length_take,length_drop,length_append,map_cons,map_nil,length_map,length_cons,length_nil,length_set,length_replicate];omega) | (simp only [length_cons,length_nil,Nat.zero_add,Nat.reduceAdd])) only [go_sem,↓reduceIte,Nat.reduceAdd,Int.reduceNeg,Int.reduceAdd,Int.reduceSub,Int.reduceMul,Int.reduceLT,Int.reduceLE,Int.reduceEq,Int.reduceToNat,Nat.reduceBEq,encIt,st_it]
          rw [fitL,if_pos (by omega),List.map_set]
          exact ⟨_,_,_,_,_,_,rfl⟩
        · simp (disch:=first | omega | (simp only [length_take,length_drop,length_append,map_cons,map_nil,length_map,length_cons,length_nil,length_set,length_replicate];omega) | (simp only [length_cons,length_nil,Nat.zero_add,Nat.reduceAdd])) only [go_sem,↓reduceIte,Nat.reduceAdd,Int.reduceNeg,Int.reduceAdd,Int.reduceSub,Int.reduceMul,Int.reduceLT,Int.reduceLE,Int.reduceEq,Int.reduceToNat,Nat.reduceBEq,true_and]
          rw [fitL,if_neg (by omega)]
          exact ⟨_,_,_,_,_,_,rfl⟩
      · rintro vs - ⟨y0,y1,y2,y3,y4,y5,rfl⟩
        simp only [u_impl_FitMatrix_j0]
        simp (disch:=first | omega | (simp only [length_take,length_drop,length_append,map_cons,map_nil,length_map,length_cons,length_nil,length_set,length_replicate];omega) | (simp only [length_cons,length_nil,Nat.zero_add,Nat.reduceAdd])) only [go_sem,↓reduceIte,Nat.reduceAdd,Int.reduceNeg,Int.reduceAdd,Int.reduceSub,Int.reduceMul,Int.reduceLT,Int.reduceLE,Int.reduceEq,Int.reduceToNat,Nat.reduceBEq,nat1]
        exact hlt
    · obtain rfl : i = st.length:=by omega
      simp (disch:=first | omega | (simp only [length_take,length_drop,length_append,map_cons,map_nil,length_map,length_cons,length_nil,length_set,length_replicate];omega) | (simp only [length_cons,length_nil,Nat.zero_add,Nat.reduceAdd])) only [go_sem,↓reduceIte,Nat.reduceAdd,Int.reduceNeg,Int.reduceAdd,Int.reduceSub,Int.reduceMul,Int.reduceLT,Int.reduceLE,Int.reduceEq,Int.reduceToNat,Nat.reduceBEq,true_and]
      rfl
set_option maxHeartbeats 2000000 in
theorem specFit_m (x : Mt) (y : List It) (hy : y.length≤100000000) : Meets Try.prog 7 [(true,encMt x),(false,[encIts y])] [(false,[encIts (fitR x y)],true),(false,[.sc (.bool (fitO x y).isSome)],true)]:=by
  obtain ⟨r,c,l⟩:=x
  have hm:=specIsMt_m ⟨r,c,l⟩
  have hm1:=specMul_m (turnM ⟨r,c,l⟩) ⟨r,c,l⟩
  have hm2:=specMul_m (turnM ⟨r,c,l⟩) ⟨y.length,1,y⟩
  have hco:=l23Column_m y (by omega)
  unfold fitR
  refine meets_upf Try.func7 u_spec_FitMatrix_g rfl ?_;simp only [u_spec_FitMatrix_u]
  simp only [encMt,encIts] at hm hm1 hm2 hco ⊢
  simp (disch:=first | omega | (simp only [length_take,length_drop,length_append,map_cons,map_nil,length_map,length_cons,length_nil,length_set,length_replicate];omega) | (simp only [length_cons,length_nil,Nat.zero_add,Nat.reduceAdd])) only [go_sem,↓reduceIte,Nat.reduceAdd,Int.reduceNeg,Int.reduceAdd,Int.reduceSub,Int.reduceMul,Int.reduceLT,Int.reduceLE,Int.reduceEq,Int.reduceToNat,Nat.reduceBEq,true_and]
  refine cl_ok hm rfl ?_
  cases hA : mtB ⟨r,c,l⟩
  · rw [fit_none (by simp [hA])]
    simp (disch:=first | omega | (simp only [length_take,length_drop,length_append,map_cons,map_nil,length_map,length_cons,length_nil,length_set,length_replicate];omega) | (simp only [length_cons,length_nil,Nat.zero_add,Nat.reduceAdd])) only [go_sem,↓reduceIte,Nat.reduceAdd,Int.reduceNeg,Int.reduceAdd,Int.reduceSub,Int.reduceMul,Int.reduceLT,Int.reduceLE,Int.reduceEq,Int.reduceToNat,Nat.reduceBEq,true_and]
    rfl
  simp (disch:=first | omega | (simp only [length_take,length_drop,length_append,map_cons,map_nil,length_map,length_cons,length_nil,length_set,length_replicate];omega) | (simp only [length_cons,length_nil,Nat.zero_add,Nat.reduceAdd])) only [go_sem,↓reduceIte,Nat.reduceAdd,Int.reduceNeg,Int.reduceAdd,Int.reduceSub,Int.reduceMul,Int.reduceLT,Int.reduceLE,Int.reduceEq,Int.reduceToNat,Nat.reduceBEq,true_and]
  refine br_ifn (fun h1=>?_) (fun h1=>?_)
  rotate_left
  · rw [fit_none (by simp only;rintro ⟨-,h,-⟩;exact h1 h)]
    simp (disch:=first | omega | (simp only [length_take,length_drop,length_append,map_cons,map_nil,length_map,length_cons,length_nil,length_set,length_replicate];omega) | (simp only [length_cons,length_nil,Nat.zero_add,Nat.reduceAdd])) only [go_sem,↓reduceIte,Nat.reduceAdd,Int.reduceNeg,Int.reduceAdd,Int.reduceSub,Int.reduceMul,Int.reduceLT,Int.reduceLE,Int.reduceEq,Int.reduceToNat,Nat.reduceBEq,true_and]
    rfl
  obtain ⟨g1,g2,g3,g4,g5⟩:=mtB_dims hA
  simp only at g1 g2 g3 g4 g5
  have hal:=l14Known_m y.length 1 y (by omega)
  simp only [encMt,encIts] at hal
  simp (disch:=first | omega | (simp only [length_take,length_drop,length_append,map_cons,map_nil,length_map,length_cons,length_nil,length_set,length_replicate];omega) | (simp only [length_cons,length_nil,Nat.zero_add,Nat.reduceAdd])) only [go_sem,↓reduceIte,Nat.reduceAdd,Int.reduceNeg,Int.reduceAdd,Int.reduceSub,Int.reduceMul,Int.reduceLT,Int.reduceLE,Int.reduceEq,Int.reduceToNat,Nat.reduceBEq,true_and]
  refine cl_ok hco rfl ?_
  simp (disch:=first | omega | (simp only [length_take,length_drop,length_append,map_cons,map_nil,length_map,length_cons,length_nil,length_set,length_replicate];omega) | (simp only [length_cons,length_nil,Nat.zero_add,Nat.reduceAdd])) only [go_sem,↓reduceIte,Nat.reduceAdd,Int.reduceNeg,Int.reduceAdd,Int.reduceSub,Int.reduceMul,Int.reduceLT,Int.reduceLE,Int.reduceEq,Int.reduceToNat,Nat.reduceBEq,true_and]
  refine cl_ok hal rfl ?_
  cases hN : allN y
  · rw [fit_none (by simp [hN])]
    simp (disch:=first | omega | (simp only [length_take,length_drop,length_append,map_cons,map_nil,length_map,length_cons,length_nil,length_set,length_replicate];omega) | (simp only [length_cons,length_nil,Nat.zero_add,Nat.reduceAdd])) only [go_sem,↓reduceIte,Nat.reduceAdd,Int.reduceNeg,Int.reduceAdd,Int.reduceSub,Int.reduceMul,Int.reduceLT,Int.reduceLE,Int.reduceEq,Int.reduceToNat,Nat.reduceBEq,true_and]
    rfl
  obtain ⟨n,rfl⟩:=Int.eq_ofNat_of_zero_le g1
  obtain ⟨c,rfl⟩:=Int.eq_ofNat_of_zero_le g3
  have ht:=l14Turn_m n c l (by exact_mod_cast g5) (by omega) (by omega)
  have htm : turnM ⟨n,c,l⟩ = ⟨c,n,turnL n c l (c * n)⟩:=by unfold turnM;rw [if_pos hA];rfl
  rw [← htm] at ht
  simp only [encMt,encIts] at ht
  simp (disch:=first | omega | (simp only [length_take,length_drop,length_append,map_cons,map_nil,length_map,length_cons,length_nil,length_set,length_replicate];omega) | (simp only [length_cons,length_nil,Nat.zero_add,Nat.reduceAdd])) only [go_sem,↓reduceIte,Nat.reduceAdd,Int.reduceNeg,Int.reduceAdd,Int.reduceSub,Int.reduceMul,Int.reduceLT,Int.reduceLE,Int.reduceEq,Int.reduceToNat,Nat.reduceBEq,true_and]
  refine cl_ok ht rfl ?_
  simp (disch:=first | omega | (simp only [length_take,length_drop,length_append,map_cons,map_nil,length_map,length_cons,length_nil,length_set,length_replicate];omega) | (simp only [length_cons,length_nil,Nat.zero_add,Nat.reduceAdd])) only [go_sem,↓reduceIte,Nat.reduceAdd,Int.reduceNeg,Int.reduceAdd,Int.reduceSub,Int.reduceMul,Int.reduceLT,Int.reduceLE,Int.reduceEq,Int.reduceToNat,Nat.reduceBEq,true_and]
  refine cl_ok hm1 rfl ?_
  simp (disch:=first | omega | (simp only [length_take,length_drop,length_append,map_cons,map_nil,length_map,length_cons,length_nil,length_set,length_replicate];omega) | (simp only [length_cons,length_nil,Nat.zero_add,Nat.reduceAdd])) only [go_sem,↓reduceIte,Nat.reduceAdd,Int.reduceNeg,Int.reduceAdd,Int.reduceSub,Int.reduceMul,Int.reduceLT,Int.reduceLE,Int.reduceEq,Int.reduceToNat,Nat.reduceBEq,true_and]
  refine cl_ok hco rfl ?_
  simp (disch:=first | omega | (simp only [length_take,length_drop,length_append,map_cons,map_nil,length_map,length_cons,length_nil,length_set,length_replicate];omega) | (simp only [length_cons,length_nil,Nat.zero_add,Nat.reduceAdd])) only [go_sem,↓reduceIte,Nat.reduceAdd,Int.reduceNeg,Int.reduceAdd,Int.reduceSub,Int.reduceMul,Int.reduceLT,Int.reduceLE,Int.reduceEq,Int.reduceToNat,Nat.reduceBEq,true_and]
  refine cl_ok hm2 rfl ?_
  cases hB1 : mulB (turnM ⟨n,c,l⟩) ⟨n,c,l⟩
  · rw [fit_none2 (by simp [hB1])]
    simp (disch:=first | omega | (simp only [length_take,length_drop,length_append,map_cons,map_nil,length_map,length_cons,length_nil,length_set,length_replicate];omega) | (simp only [length_cons,length_nil,Nat.zero_add,Nat.reduceAdd])) only [go_sem,↓reduceIte,Nat.reduceAdd,Int.reduceNeg,Int.reduceAdd,Int.reduceSub,Int.reduceMul,Int.reduceLT,Int.reduceLE,Int.reduceEq,Int.reduceToNat,Nat.reduceBEq,true_and]
    rfl
  simp (disch:=first | omega | (simp only [length_take,length_drop,length_append,map_cons,map_nil,length_map,length_cons,length_nil,length_set,length_replicate];omega) | (simp only [length_cons,length_nil,Nat.zero_add,Nat.reduceAdd])) only [go_sem,↓reduceIte,Nat.reduceAdd,Int.reduceNeg,Int.reduceAdd,Int.reduceSub,Int.reduceMul,Int.reduceLT,Int.reduceLE,Int.reduceEq,Int.reduceToNat,Nat.reduceBEq,true_and]
  cases hB2 : mulB (turnM ⟨n,c,l⟩) ⟨y.length,1,y⟩
  · rw [fit_none2 (by simp [hB2])]
    simp (disch:=first | omega | (simp only [length_take,length_drop,length_append,map_cons,map_nil,length_map,length_cons,length_nil,length_set,length_replicate];omega) | (simp only [length_cons,length_nil,Nat.zero_add,Nat.reduceAdd])) only [go_sem,↓reduceIte,Nat.reduceAdd,Int.reduceNeg,Int.reduceAdd,Int.reduceSub,Int.reduceMul,Int.reduceLT,Int.reduceLE,Int.reduceEq,Int.reduceToNat,Nat.reduceBEq,true_and]
    rfl
  simp (disch:=first | omega | (simp only [length_take,length_drop,length_append,map_cons,map_nil,length_map,length_cons,length_nil,length_set,length_replicate];omega) | (simp only [length_cons,length_nil,Nat.zero_add,Nat.reduceAdd])) only [go_sem,↓reduceIte,Nat.reduceAdd,Int.reduceNeg,Int.reduceAdd,Int.reduceSub,Int.reduceMul,Int.reduceLT,Int.reduceLE,Int.reduceEq,Int.reduceToNat,Nat.reduceBEq,true_and]
  obtain ⟨k1,k2⟩:=turn_true hA
  obtain ⟨la,e1,e2⟩:=mulM_dim hB1
  obtain ⟨lb,e3,e4⟩:=mulM_dim hB2
  rw [fit_some hA h1 hN hB1 hB2 (congrArg Mt.cells e1) (congrArg Mt.cells e3)]
  simp only at k1 k2
  rw [k1] at e1 e2 e3 e4
  simp only at e1 e2 e3 e4
  rw [e1,e3]
  have hbe:=specBeside_m c c 1 c la lb (by omega) (by omega) (by omega) (by simpa using e2) (by simpa using e4)
  have hau:=specAug_m c c 1 la lb (by omega) (by omega) (by omega) (by simpa using e2) (by simpa using e4)
  unfold fitE
  simp only [encMt,encIts] at hbe hau
  refine cl_ok hbe rfl ?_
  simp (disch:=first | omega | (simp only [length_take,length_drop,length_append,map_cons,map_nil,length_map,length_cons,length_nil,length_set,length_replicate];omega) | (simp only [length_cons,length_nil,Nat.zero_add,Nat.reduceAdd])) only [go_sem,↓reduceIte,Nat.reduceAdd,Int.reduceNeg,Int.reduceAdd,Int.reduceSub,Int.reduceMul,Int.reduceLT,Int.reduceLE,Int.reduceEq,Int.reduceToNat,Nat.reduceBEq,true_and]
  cases hd : augR c c 1 la lb with
  | none =>
    rw [hd] at hau
    simp only [resS,encMt,encIts,encZs] at hau
    refine cl_ok hau rfl ?_
    simp (disch:=first | omega | (simp only [length_take,length_drop,length_append,map_cons,map_nil,length_map,length_cons,length_nil,length_set,length_replicate];omega) | (simp only [length_cons,length_nil,Nat.zero_add,Nat.reduceAdd])) only [go_sem,↓reduceIte,Nat.reduceAdd,Int.reduceNeg,Int.reduceAdd,Int.reduceSub,Int.reduceMul,Int.reduceLT,Int.reduceLE,Int.reduceEq,Int.reduceToNat,Nat.reduceBEq,true_and]
    refine lp_n c (fun i=>[.sc (.int .i64 (i : Nat)),.sl 39 3 ((List.replicate i it0).map encIt)]) rfl fun i hi=>?_
    simp only [u_spec_FitMatrix_l2]
    simp (disch:=first | omega | (simp only [length_take,length_drop,length_append,map_cons,map_nil,length_map,length_cons,length_nil,length_set,length_replicate];omega) | (simp only [length_cons,length_nil,Nat.zero_add,Nat.reduceAdd])) only [go_sem,↓reduceIte,Nat.reduceAdd,Int.reduceNeg,Int.reduceAdd,Int.reduceSub,Int.reduceMul,Int.reduceLT,Int.reduceLE,Int.reduceEq,Int.reduceToNat,Nat.reduceBEq,true_and]
    refine br_if (fun h=>?_) (fun h=>?_)
    · have hlt : i < c:=by omega
      simp (disch:=first | omega | (simp only [length_take,length_drop,length_append,map_cons,map_nil,length_map,length_cons,length_nil,length_set,length_replicate];omega) | (simp only [length_cons,length_nil,Nat.zero_add,Nat.reduceAdd])) only [go_sem,↓reduceIte,Nat.reduceAdd,Int.reduceNeg,Int.reduceAdd,Int.reduceSub,Int.reduceMul,Int.reduceLT,Int.reduceLE,Int.reduceEq,Int.reduceToNat,Nat.reduceBEq,nat1,fl1_i]
      refine ⟨?_,hlt⟩
      rw [List.replicate_succ',List.map_append];rfl
    · obtain rfl : c = i:=by omega
      simp (disch:=first | omega | (simp only [length_take,length_drop,length_append,map_cons,map_nil,length_map,length_cons,length_nil,length_set,length_replicate];omega) | (simp only [length_cons,length_nil,Nat.zero_add,Nat.reduceAdd])) only [go_sem,↓reduceIte,Nat.reduceAdd,Int.reduceNeg,Int.reduceAdd,Int.reduceSub,Int.reduceMul,Int.reduceLT,Int.reduceLE,Int.reduceEq,Int.reduceToNat,Nat.reduceBEq,true_and]
      refine lp_n 0 (fun i=>[.sc (.int .i64 (i : Nat)),.sl 39 3 ((List.replicate c it0).map encIt)]) rfl fun i hi=>?_
      obtain rfl : i = 0:=by omega
      simp only [u_spec_FitMatrix_l1]
      simp (disch:=first | omega | (simp only [length_take,length_drop,length_append,map_cons,map_nil,length_map,length_cons,length_nil,length_set,length_replicate];omega) | (simp only [length_cons,length_nil,Nat.zero_add,Nat.reduceAdd])) only [go_sem,↓reduceIte,Nat.reduceAdd,Int.reduceNeg,Int.reduceAdd,Int.reduceSub,Int.reduceMul,Int.reduceLT,Int.reduceLE,Int.reduceEq,Int.reduceToNat,Nat.reduceBEq,true_and]
      rfl
  | some x =>
    obtain ⟨f,st⟩:=x
    rw [hd] at hau
    simp only [resS,encMt,encIts,encZs] at hau
    obtain ⟨l1,l2⟩:=redS_len hd
    have hpl : ((pivL st).map encZ).length = st.length:=by rw [List.length_map];exact pivL_len st
    have hpl':=pivL_len st
    refine cl_ok hau rfl ?_
    simp (disch:=first | omega | (simp only [length_take,length_drop,length_append,map_cons,map_nil,length_map,length_cons,length_nil,length_set,length_replicate];omega) | (simp only [length_cons,length_nil,Nat.zero_add,Nat.reduceAdd])) only [go_sem,↓reduceIte,Nat.reduceAdd,Int.reduceNeg,Int.reduceAdd,Int.reduceSub,Int.reduceMul,Int.reduceLT,Int.reduceLE,Int.reduceEq,Int.reduceToNat,Nat.reduceBEq,true_and]
    refine lp_n c (fun i=>[.sc (.int .i64 (i : Nat)),.sl 39 3 ((List.replicate i it0).map encIt)]) rfl fun i hi=>?_
    simp only [u_spec_FitMatrix_l2]
    simp (disch:=first | omega | (simp only [length_take,length_drop,length_append,map_cons,map_nil,length_map,length_cons,length_nil,length_set,length_replicate];omega) | (simp only [length_cons,length_nil,Nat.zero_add,Nat.reduceAdd])) only [go_sem,↓reduceIte,Nat.reduceAdd,Int.reduceNeg,Int.reduceAdd,Int.reduceSub,Int.reduceMul,Int.reduceLT,Int.reduceLE,Int.reduceEq,Int.reduceToNat,Nat.reduceBEq,true_and]
    refine br_if (fun h=>?_) (fun h=>?_)
    · have hlt : i < c:=by omega
      simp (disch:=first | omega | (simp only [length_take,length_drop,length_append,map_cons,map_nil,length_map,length_cons,length_nil,length_set,length_replicate];omega) | (simp only [length_cons,length_nil,Nat.zero_add,Nat.reduceAdd])) only [go_sem,↓reduceIte,Nat.reduceAdd,Int.reduceNeg,Int.reduceAdd,Int.reduceSub,Int.reduceMul,Int.reduceLT,Int.reduceLE,Int.reduceEq,Int.reduceToNat,Nat.reduceBEq,nat1,fl1_i]
      refine ⟨?_,hlt⟩
      rw [List.replicate_succ',List.map_append];rfl
    obtain rfl : c = i:=by omega
    simp (disch:=first | omega | (simp only [length_take,length_drop,length_append,map_cons,map_nil,length_map,length_cons,length_nil,length_set,length_replicate];omega) | (simp only [length_cons,length_nil,Nat.zero_add,Nat.reduceAdd])) only [go_sem,↓reduceIte,Nat.reduceAdd,Int.reduceNeg,Int.reduceAdd,Int.reduceSub,Int.reduceMul,Int.reduceLT,Int.reduceLE,Int.reduceEq,Int.reduceToNat,Nat.reduceBEq,true_and]
    refine lp_n st.length (fun i=>[.sc (.int .i64 (i : Nat)),.sl 39 3 ((fitL c f st i).map encIt)]) rfl fun i hi=>?_
    have hsl:=fitL_len c f st i
    simp only [u_spec_FitMatrix_l1]
    simp (disch:=first | omega | (simp only [length_take,length_drop,length_append,map_cons,map_nil,length_map,length_cons,length_nil,length_set,length_replicate];omega) | (simp only [length_cons,length_nil,Nat.zero_add,Nat.reduceAdd])) only [go_sem,↓reduceIte,Nat.reduceAdd,Int.reduceNeg,Int.reduceAdd,Int.reduceSub,Int.reduceMul,Int.reduceLT,Int.reduceLE,Int.reduceEq,Int.reduceToNat,Nat.reduceBEq,hpl]
    refine br_if (fun h=>?_) (fun h=>?_)
    · have hlt : i < st.length:=by omega
      have hp:=piv_lt hd hlt
      have hpg:=pivL_getD hlt
      have hbd : i * (c + 1)≤12 * 13:=Nat.mul_le_mul (by omega) (by omega)
      simp (disch:=first | omega | (simp only [length_take,length_drop,length_append,map_cons,map_nil,length_map,length_cons,length_nil,length_set,length_replicate];omega) | (simp only [length_cons,length_nil,Nat.zero_add,Nat.reduceAdd])) only [go_sem,↓reduceIte,Nat.reduceAdd,Int.reduceNeg,Int.reduceAdd,Int.reduceSub,Int.reduceMul,Int.reduceLT,Int.reduceLE,Int.reduceEq,Int.reduceToNat,Nat.reduceBEq,hpl,ix_z,hpg,encZ]
      refine jn (fun vs=>∃ y0,vs = [y0,.sl 39 3 ((fitL c f st (i + 1)).map encIt)]) ?_ ?_
      · simp (disch:=first | omega | (simp only [length_take,length_drop,length_append,map_cons,map_nil,length_map,length_cons,length_nil,length_set,length_replicate];omega) | (simp only [length_cons,length_nil,Nat.zero_add,Nat.reduceAdd])) only [go_sem,↓reduceIte,Nat.reduceAdd,Int.reduceNeg,Int.reduceAdd,Int.reduceSub,Int.reduceMul,Int.reduceLT,Int.reduceLE,Int.reduceEq,Int.reduceToNat,Nat.reduceBEq,hpl,ix_z,hpg,encZ]
        refine br_if (fun h2=>?_) (fun h2=>?_)
        · simp (disch:=first | omega | (simp only [length_take,length_drop,length_append,map_cons,map_nil,length_map,length_cons,length_nil,length_set,length_replicate];omega) | (simp only [length_cons,length_nil,Nat.zero_add,Nat.reduceAdd])) only [go_sem,↓reduceIte,Nat.reduceAdd,Int.reduceNeg,Int.reduceAdd,Int.reduceSub,Int.reduceMul,Int.reduceLT,Int.reduceLE,Int.reduceEq,Int.reduceToNat,Nat.reduceBEq,hpl,ix_z,hpg,encZ,nm,na,ix_g (R:=c) (W:=c + 1) (i:=i) (k:=c) (show i < c by omega) (show c < c + 1 by omega),chk_g (R:=c) (W:=c + 1) (i:=i) (k:=c) (show i < c by omega) (show c < c + 1 by omega),encIt,st_it]
          rw [fitL,if_pos (by omega),List.map_set]
          exact ⟨_,rfl⟩
        · simp (disch:=first | omega | (simp only [length_take,length_drop,length_append,map_cons,map_nil,length_map,length_cons,length_nil,length_set,length_replicate];omega) | (simp only [length_cons,length_nil,Nat.zero_add,Nat.reduceAdd])) only [go_sem,↓reduceIte,Nat.reduceAdd,Int.reduceNeg,Int.reduceAdd,Int.reduceSub,Int.reduceMul,Int.reduceLT,Int.reduceLE,Int.reduceEq,Int.reduceToNat,Nat.reduceBEq,true_and]
          rw [fitL,if_neg (by omega)]
          exact ⟨_,rfl⟩
      · rintro vs - ⟨y0,rfl⟩
        simp only [u_spec_FitMatrix_j0]
        simp (disch:=first | omega | (simp only [length_take,length_drop,length_append,map_cons,map_nil,length_map,length_cons,length_nil,length_set,length_replicate];omega) | (simp only [length_cons,length_nil,Nat.zero_add,Nat.reduceAdd])) only [go_sem,↓reduceIte,Nat.reduceAdd,Int.reduceNeg,Int.reduceAdd,Int.reduceSub,Int.reduceMul,Int.reduceLT,Int.reduceLE,Int.reduceEq,Int.reduceToNat,Nat.reduceBEq,nat1]
        exact hlt
    · obtain rfl : i = st.length:=by omega
      simp (disch:=first | omega | (simp only [length_take,length_drop,length_append,map_cons,map_nil,length_map,length_cons,length_nil,length_set,length_replicate];omega) | (simp only [length_cons,length_nil,Nat.zero_add,Nat.reduceAdd])) only [go_sem,↓reduceIte,Nat.reduceAdd,Int.reduceNeg,Int.reduceAdd,Int.reduceSub,Int.reduceMul,Int.reduceLT,Int.reduceLE,Int.reduceEq,Int.reduceToNat,Nat.reduceBEq,true_and]
      rfl
end Go.Proofs.Ytpilbhbbdldpeaa

namespace Go.Proofs.Ytpilbhbbdldpeaa
open Go.RowKit
set_option maxRecDepth 100000
def u_impl_CheckFit_h : List Hint:=[⟨3000009,1,⟨[(49,.p false [.d 31]),(48,.p false [.d 29]),(47,.p false [.own 4 4]),(45,.p false [.d 28]),(12,.p false [.d 25]),(11,.p false [.ptr 5 5 0]),(9,.p false [.ptr 3 3 0]),(29,.p false [.d 11]),(8,.p false [.d 7]),(7,.p false [.own 1 1]),(6,.p false [.d 5]),(3,.p false [.ptr 0 0 0]),(0,.p true [.d 0,.d 1,.d 2]),(1,.p false [.d 3]),(2,.p false [.d 4])],[(0,.var 0 26 [.d 0,.d 1,.d 2]),(1,.row 1 39 3 6),(3,.var 3 26 [.d 12,.d 13,.own 2 2]),(2,.row 2 39 3 14),(5,.var 5 26 [.d 22,.d 23,.own 4 4]),(4,.row 4 39 3 24)],6,6,32,[(28,false),(11,false),(8,false),(5,false)]⟩,[]⟩]
def u_impl_CheckFit_d : List (Nat × Nat × Bool × List Nat):=[(5,10,false,[8])]
def u_impl_CheckFit_l0 : UP:=.po (.bin .lss false 0 2) <| .ite 0 (.po (.isI 1) <| .po (.chk 3 4 1) <| .po (.idx 3 4 1) <| .po (.k (.int .i64 0)) <| .po (.k (.int .i64 0)) <| .po (.k (.string ⟨#[]⟩)) <| .po (.k (.int .i64 0)) <| .po (.bin .neq false 6 0) <| .ite 0 (.po (.k (.bool false)) <| .po (.sc 0) <| .ret [(false,[0])]) <| .po (.k (.int .i64 1)) <| .po (.bin .add false 10 0) <| .jump 0 [0]) <| .po (.k (.bool true)) <| .po (.sc 0) <| .ret [(false,[0])]
def u_impl_CheckFit_u : UP:=.po (.k (.bool false)) <| .cl 9 [(true,[5,4,3]),(false,[1])] [(false,[some (39,3)],true),(false,[none],true)] <| .po (.un .not 0) <| .ite 0 (.po (.k (.bool true)) <| .po (.k (.bool false)) <| .po (.sc 0) <| .ret [(false,[0])]) <| .po (.lenL 2) <| .po (.lenL 6) <| .po (.bin .neq false 1 0) <| .ite 0 (.po (.k (.bool false)) <| .po (.sc 0) <| .ret [(false,[0])]) <| .sel [5,8,9,10,11] <| .cl 25 [(true,[4,3,2])] [(true,[none,none,some (39,3)],true),(false,[none],true)] <| .po (.k (.int .i64 0)) <| .po (.k (.int .i64 0)) <| .po (.sc 5) <| .po (.sc 4) <| .sel [3,4,5,6,7] <| .cl 43 [(false,[4]),(false,[3])] [(false,[some (39,3)],true)] <| .cl 27 [(false,[0])] [(true,[none,none,some (39,3)],true)] <| .cl 26 [(true,[6,5,4]),(true,[2,1,0])] [(true,[none,none,some (39,3)],true),(false,[none],true)] <| .po (.k (.int .i64 0)) <| .po (.k (.int .i64 0)) <| .po (.un .not 2) <| .ite 0 (.po (.k (.bool false)) <| .po (.sc 0) <| .ret [(false,[0])]) <| .po (.lenL 4) <| .po (.k (.int .i64 0)) <| .sel [0,1,6] <| .loop [0] u_impl_CheckFit_l0
theorem u_impl_CheckFit_g : toUPf Try.prog 14 Try.f14 owA u_impl_CheckFit_h u_impl_CheckFit_d = some ([(true,3),(false,1),(false,1)],u_impl_CheckFit_u):=by kernel_rfl
def u_impl_lessItems_h : List Hint:=[⟨3000003,2,⟨[(5,.p false [.own 0 0]),(9,.p false [.d 5]),(8,.p false [.d 2]),(4,.p false [.nil]),(0,.p false [.d 0]),(1,.p false [.d 1])],[(0,.row 0 39 3 6)],1,1,7,[]⟩,[⟨true,5,0,39,3⟩]⟩]
def u_impl_lessItems_d : List (Nat × Nat × Bool × List Nat):=[(5,11,false,[])]
def u_impl_lessItems_l0 : UP:=.po (.bin .lss false 1 4) <| .ite 0 (.po (.isI 2) <| .po (.idx 3 7 2) <| .po (.sc 2) <| .po (.sc 1) <| .po (.sc 0) <| .po (.isI 5) <| .po (.idx 3 9 5) <| .po (.sc 2) <| .po (.sc 1) <| .po (.sc 0) <| .sel [0,1,2,3,4,5,7,8] <| .cl 56 [(true,[5,4,3]),(true,[2,1,0])] [(true,[none,none,none],true)] <| .po (.mk 39 3 [[2,1,0]]) <| .po (.sc 3) <| .po (.sc 2) <| .po (.sc 1) <| .po (.mk 39 3 [[3,2,1]]) <| .po (.flat 0) <| .po (.app 39 3 32 11 0) <| .po (.k (.int .i64 1)) <| .po (.bin .add false 14 0) <| .jump 0 [0,2]) <| .ret [(false,[1])]
def u_impl_lessItems_u : UP:=.po (.lenL 1) <| .po (.k (.int .i64 0)) <| .po (.e 39 3) <| .loop [1,0] u_impl_lessItems_l0
theorem u_impl_lessItems_g : toUPf Try.prog 43 Try.f43 owA u_impl_lessItems_h u_impl_lessItems_d = some ([(false,1),(false,1)],u_impl_lessItems_u):=by kernel_rfl
end Go.Proofs.Ytpilbhbbdldpeaa

namespace Go.Proofs.Ytpilbhbbdldpeaa
open List (length_take length_drop length_append map_cons map_nil length_map length_cons length_nil length_set length_replicate)
open Go.RowKit
set_option maxRecDepth 100000
def lessL (a b : List It) (i : Nat) : List It:=(List.range i).map fun j=>subN (a.getD j default) (b.getD j default)
theorem lessL_succ (a b : List It) (i : Nat) : lessL a b (i + 1) = lessL a b i ++ [subN (a.getD i default) (b.getD i default)]:=by simp [lessL,List.range_succ]
theorem lessL_len (a b : List It) (i : Nat) : (lessL a b i).length = i:=by simp [lessL]
theorem fl1_it {t : Nat} {x : It} : eFlat (some (.sl t 3 [[.sc (.int .i64 x.num),.sc (.int .i64 x.den),.sc (.string x.text)]])) = some []:=rfl
set_option maxHeartbeats 1000000 in
theorem lessItems_m (a b : List It) (hab : a.length = b.length) (hl : a.length≤100000000) : Meets Try.prog 43 [(false,[encIts a]),(false,[encIts b])] [(false,[encIts (lessL a b a.length)],true)]:=by
  refine meets_upf Try.func43 u_impl_lessItems_g rfl ?_;simp only [u_impl_lessItems_u]
  simp (disch:=first | omega | (simp only [length_take,length_drop,length_append,map_cons,map_nil,length_map,length_cons,length_nil,length_set,length_replicate];omega) | (simp only [length_cons,length_nil,Nat.zero_add,Nat.reduceAdd])) only [go_sem,↓reduceIte,Nat.reduceAdd,Int.reduceNeg,Int.reduceAdd,Int.reduceSub,Int.reduceMul,Int.reduceLT,Int.reduceLE,Int.reduceEq,Int.reduceToNat,Nat.reduceBEq,encIts]
  refine lp_n a.length (fun i=>[.sc (.int .i64 (i : Nat)),.sl 39 3 ((lessL a b i).map encIt)]) rfl fun i hi=>?_
  have h1:=lessL_len a b i
  simp only [u_impl_lessItems_l0]
  simp (disch:=first | omega | (simp only [length_take,length_drop,length_append,map_cons,map_nil,length_map,length_cons,length_nil,length_set,length_replicate];omega) | (simp only [length_cons,length_nil,Nat.zero_add,Nat.reduceAdd])) only [go_sem,↓reduceIte,Nat.reduceAdd,Int.reduceNeg,Int.reduceAdd,Int.reduceSub,Int.reduceMul,Int.reduceLT,Int.reduceLE,Int.reduceEq,Int.reduceToNat,Nat.reduceBEq,true_and]
  refine br_if (fun h=>?_) (fun h=>?_)
  · simp (disch:=first | omega | (simp only [length_take,length_drop,length_append,map_cons,map_nil,length_map,length_cons,length_nil,length_set,length_replicate];omega) | (simp only [length_cons,length_nil,Nat.zero_add,Nat.reduceAdd])) only [go_sem,↓reduceIte,Nat.reduceAdd,Int.reduceNeg,Int.reduceAdd,Int.reduceSub,Int.reduceMul,Int.reduceLT,Int.reduceLE,Int.reduceEq,Int.reduceToNat,Nat.reduceBEq,ix_it,encIt]
    have hs:=mImplSub (a.getD i default) (b.getD i default)
    simp only [encIt] at hs
    refine cl_ok hs rfl ?_
    simp (disch:=first | omega | (simp only [length_take,length_drop,length_append,map_cons,map_nil,length_map,length_cons,length_nil,length_set,length_replicate];omega) | (simp only [length_cons,length_nil,Nat.zero_add,Nat.reduceAdd])) only [go_sem,↓reduceIte,Nat.reduceAdd,Int.reduceNeg,Int.reduceAdd,Int.reduceSub,Int.reduceMul,Int.reduceLT,Int.reduceLE,Int.reduceEq,Int.reduceToNat,Nat.reduceBEq,fl1_it,nat1]
    refine ⟨?_,by omega⟩
    rw [lessL_succ,List.map_append];rfl
  · have : i = a.length:=by omega
    subst this
    simp (disch:=first | omega | (simp only [length_take,length_drop,length_append,map_cons,map_nil,length_map,length_cons,length_nil,length_set,length_replicate];omega) | (simp only [length_cons,length_nil,Nat.zero_add,Nat.reduceAdd])) only [go_sem,↓reduceIte,Nat.reduceAdd,Int.reduceNeg,Int.reduceAdd,Int.reduceSub,Int.reduceMul,Int.reduceLT,Int.reduceLE,Int.reduceEq,Int.reduceToNat,Nat.reduceBEq,true_and]
    rfl
def zeroB (l : List It) : Bool:=l.all fun x=>decide (x.num = 0)
def chkM (x : Mt) (y p : List It) : Mt:=⟨(lessL y p y.length).length,1,lessL y p y.length⟩
def chkB (x : Mt) (y b : List It) : Bool:=prB x b && (decide (y.length = (prL x b).length) && (mulB (turnM x) (chkM x y (prL x b)) && zeroB (mulM (turnM x) (chkM x y (prL x b))).cells))
theorem zeroB_get {l : List It} {i : Nat} (h : i < l.length) : zeroB (l.take (i + 1)) = (zeroB (l.take i) && decide ((l.getD i default).num = 0)):=by
  unfold zeroB
  rw [List.take_succ_eq_append_getElem h,List.all_append,List.getD_eq_getElem?_getD,List.getElem?_eq_getElem h];simp
theorem zeroB_false {l : List It} {i : Nat} (h : i < l.length) (hz : ¬ (l.getD i default).num = 0) : zeroB l = false:=by
  unfold zeroB
  rw [List.all_eq_false]
  rw [List.getD_eq_getElem?_getD,List.getElem?_eq_getElem h] at hz
  exact ⟨l[i],List.getElem_mem h,by simpa using hz⟩
set_option maxHeartbeats 2000000 in
theorem implChk_m (x : Mt) (y b : List It) (hy : y.length≤100000000) (hb : b.length≤100000000) : Meets Try.prog 14 [(true,encMt x),(false,[encIts y]),(false,[encIts b])] [(false,[.sc (.bool (chkB x y b))],true)]:=by
  have hp:=implPred_m x b (by omega)
  have ht:=implTurn_m x
  unfold chkB
  generalize prL x b = p at *
  generalize prB x b = pb at *
  have hmul:=implMul_m (turnM x) (chkM x y p)
  have hml:=mulM_len (turnM x) (chkM x y p)
  generalize mulM (turnM x) (chkM x y p) = T at *
  generalize mulB (turnM x) (chkM x y p) = tb at *
  obtain ⟨r2,c2,l2⟩:=T
  generalize turnM x = U at *
  generalize mtB x = ub at *
  obtain ⟨r,c,l⟩:=x
  obtain ⟨r1,c1,l1⟩:=U
  refine meets_upf Try.func14 u_impl_CheckFit_g rfl ?_;simp only [u_impl_CheckFit_u]
  simp only [encMt,encIts,chkM] at hp ht hmul ⊢
  simp (disch:=first | omega | (simp only [length_take,length_drop,length_append,map_cons,map_nil,length_map,length_cons,length_nil,length_set,length_replicate];omega) | (simp only [length_cons,length_nil,Nat.zero_add,Nat.reduceAdd])) only [go_sem,↓reduceIte,Nat.reduceAdd,Int.reduceNeg,Int.reduceAdd,Int.reduceSub,Int.reduceMul,Int.reduceLT,Int.reduceLE,Int.reduceEq,Int.reduceToNat,Nat.reduceBEq,true_and]
  refine cl_ok hp rfl ?_
  cases pb
  · simp (disch:=first | omega | (simp only [length_take,length_drop,length_append,map_cons,map_nil,length_map,length_cons,length_nil,length_set,length_replicate];omega) | (simp only [length_cons,length_nil,Nat.zero_add,Nat.reduceAdd])) only [go_sem,↓reduceIte,Nat.reduceAdd,Int.reduceNeg,Int.reduceAdd,Int.reduceSub,Int.reduceMul,Int.reduceLT,Int.reduceLE,Int.reduceEq,Int.reduceToNat,Nat.reduceBEq,Bool.false_and]
    rfl
  simp (disch:=first | omega | (simp only [length_take,length_drop,length_append,map_cons,map_nil,length_map,length_cons,length_nil,length_set,length_replicate];omega) | (simp only [length_cons,length_nil,Nat.zero_add,Nat.reduceAdd])) only [go_sem,↓reduceIte,Nat.reduceAdd,Int.reduceNeg,Int.reduceAdd,Int.reduceSub,Int.reduceMul,Int.reduceLT,Int.reduceLE,Int.reduceEq,Int.reduceToNat,Nat.reduceBEq,Bool.true_and]
  refine br_ifn (fun h=>?_) (fun h=>?_)
  rotate_left
  · have h' : ¬ y.length = p.length:=by omega
    simp (disch:=first | omega | (simp only [length_take,length_drop,length_append,map_cons,map_nil,length_map,length_cons,length_nil,length_set,length_replicate];omega) | (simp only [length_cons,length_nil,Nat.zero_add,Nat.reduceAdd])) only [go_sem,↓reduceIte,Nat.reduceAdd,Int.reduceNeg,Int.reduceAdd,Int.reduceSub,Int.reduceMul,Int.reduceLT,Int.reduceLE,Int.reduceEq,Int.reduceToNat,Nat.reduceBEq,h',Bool.false_and]
    rfl
  have h' : y.length = p.length:=by omega
  simp only [h',decide_true,Bool.true_and]
  simp (disch:=first | omega | (simp only [length_take,length_drop,length_append,map_cons,map_nil,length_map,length_cons,length_nil,length_set,length_replicate];omega) | (simp only [length_cons,length_nil,Nat.zero_add,Nat.reduceAdd])) only [go_sem,↓reduceIte,Nat.reduceAdd,Int.reduceNeg,Int.reduceAdd,Int.reduceSub,Int.reduceMul,Int.reduceLT,Int.reduceLE,Int.reduceEq,Int.reduceToNat,Nat.reduceBEq,true_and]
  refine cl_ok ht rfl ?_
  simp (disch:=first | omega | (simp only [length_take,length_drop,length_append,map_cons,map_nil,length_map,length_cons,length_nil,length_set,length_replicate];omega) | (simp only [length_cons,length_nil,Nat.zero_add,Nat.reduceAdd])) only [go_sem,↓reduceIte,Nat.reduceAdd,Int.reduceNeg,Int.reduceAdd,Int.reduceSub,Int.reduceMul,Int.reduceLT,Int.reduceLE,Int.reduceEq,Int.reduceToNat,Nat.reduceBEq,true_and]
  have hl:=lessItems_m y p h' hy
  simp only [encIts] at hl
  refine cl_ok hl rfl ?_
  simp (disch:=first | omega | (simp only [length_take,length_drop,length_append,map_cons,map_nil,length_map,length_cons,length_nil,length_set,length_replicate];omega) | (simp only [length_cons,length_nil,Nat.zero_add,Nat.reduceAdd])) only [go_sem,↓reduceIte,Nat.reduceAdd,Int.reduceNeg,Int.reduceAdd,Int.reduceSub,Int.reduceMul,Int.reduceLT,Int.reduceLE,Int.reduceEq,Int.reduceToNat,Nat.reduceBEq,true_and]
  have hcm:=columnMatrix_m (lessL y p y.length) (by rw [lessL_len];omega)
  simp only [encMt,encIts] at hcm
  refine cl_ok hcm rfl ?_
  simp (disch:=first | omega | (simp only [length_take,length_drop,length_append,map_cons,map_nil,length_map,length_cons,length_nil,length_set,length_replicate];omega) | (simp only [length_cons,length_nil,Nat.zero_add,Nat.reduceAdd])) only [go_sem,↓reduceIte,Nat.reduceAdd,Int.reduceNeg,Int.reduceAdd,Int.reduceSub,Int.reduceMul,Int.reduceLT,Int.reduceLE,Int.reduceEq,Int.reduceToNat,Nat.reduceBEq,true_and]
  rw [h'] at hmul ⊢
  refine cl_ok hmul rfl ?_
  cases tb
  · simp (disch:=first | omega | (simp only [length_take,length_drop,length_append,map_cons,map_nil,length_map,length_cons,length_nil,length_set,length_replicate];omega) | (simp only [length_cons,length_nil,Nat.zero_add,Nat.reduceAdd])) only [go_sem,↓reduceIte,Nat.reduceAdd,Int.reduceNeg,Int.reduceAdd,Int.reduceSub,Int.reduceMul,Int.reduceLT,Int.reduceLE,Int.reduceEq,Int.reduceToNat,Nat.reduceBEq,Bool.false_and]
    rfl
  simp (disch:=first | omega | (simp only [length_take,length_drop,length_append,map_cons,map_nil,length_map,length_cons,length_nil,length_set,length_replicate];omega) | (simp only [length_cons,length_nil,Nat.zero_add,Nat.reduceAdd])) only [go_sem,↓reduceIte,Nat.reduceAdd,Int.reduceNeg,Int.reduceAdd,Int.reduceSub,Int.reduceMul,Int.reduceLT,Int.reduceLE,Int.reduceEq,Int.reduceToNat,Nat.reduceBEq,Bool.true_and]
  refine lp (fun i : Nat=>[.sc (.int .i64 i)]) (fun i=>i≤l2.length∧zeroB (l2.take i) = true) (fun i=>l2.length - i) 0 rfl ⟨by omega,rfl⟩ ?_
  rintro i ⟨hi,hzi⟩
  simp only at hml
  simp only [u_impl_CheckFit_l0]
  simp (disch:=first | omega | (simp only [length_take,length_drop,length_append,map_cons,map_nil,length_map,length_cons,length_nil,length_set,length_replicate];omega) | (simp only [length_cons,length_nil,Nat.zero_add,Nat.reduceAdd])) only [go_sem,↓reduceIte,Nat.reduceAdd,Int.reduceNeg,Int.reduceAdd,Int.reduceSub,Int.reduceMul,Int.reduceLT,Int.reduceLE,Int.reduceEq,Int.reduceToNat,Nat.reduceBEq,true_and]
  refine br_if (fun h1=>?_) (fun h1=>?_)
  · have hlt : i < l2.length:=by omega
    simp (disch:=first | omega | (simp only [length_take,length_drop,length_append,map_cons,map_nil,length_map,length_cons,length_nil,length_set,length_replicate];omega) | (simp only [length_cons,length_nil,Nat.zero_add,Nat.reduceAdd])) only [go_sem,↓reduceIte,Nat.reduceAdd,Int.reduceNeg,Int.reduceAdd,Int.reduceSub,Int.reduceMul,Int.reduceLT,Int.reduceLE,Int.reduceEq,Int.reduceToNat,Nat.reduceBEq,ix_it,encIt]
    refine br_ifn (fun h2=>?_) (fun h2=>?_)
    · simp (disch:=first | omega | (simp only [length_take,length_drop,length_append,map_cons,map_nil,length_map,length_cons,length_nil,length_set,length_replicate];omega) | (simp only [length_cons,length_nil,Nat.zero_add,Nat.reduceAdd])) only [go_sem,↓reduceIte,Nat.reduceAdd,Int.reduceNeg,Int.reduceAdd,Int.reduceSub,Int.reduceMul,Int.reduceLT,Int.reduceLE,Int.reduceEq,Int.reduceToNat,Nat.reduceBEq,nat1]
      exact ⟨i + 1,rfl,⟨by omega,by rw [zeroB_get hlt,hzi,h2];rfl⟩,by omega⟩
    · rw [zeroB_false hlt h2]
      simp (disch:=first | omega | (simp only [length_take,length_drop,length_append,map_cons,map_nil,length_map,length_cons,length_nil,length_set,length_replicate];omega) | (simp only [length_cons,length_nil,Nat.zero_add,Nat.reduceAdd])) only [go_sem,↓reduceIte,Nat.reduceAdd,Int.reduceNeg,Int.reduceAdd,Int.reduceSub,Int.reduceMul,Int.reduceLT,Int.reduceLE,Int.reduceEq,Int.reduceToNat,Nat.reduceBEq,true_and]
      rfl
  · have : i = l2.length:=by omega
    subst this
    rw [List.take_length] at hzi
    rw [hzi]
    simp (disch:=first | omega | (simp only [length_take,length_drop,length_append,map_cons,map_nil,length_map,length_cons,length_nil,length_set,length_replicate];omega) | (simp only [length_cons,length_nil,Nat.zero_add,Nat.reduceAdd])) only [go_sem,↓reduceIte,Nat.reduceAdd,Int.reduceNeg,Int.reduceAdd,Int.reduceSub,Int.reduceMul,Int.reduceLT,Int.reduceLE,Int.reduceEq,Int.reduceToNat,Nat.reduceBEq,true_and]
    rfl
end Go.Proofs.Ytpilbhbbdldpeaa

namespace Go.Proofs.Ytpilbhbbdldpeaa
open Go.RowKit
set_option maxRecDepth 100000
theorem rat_sq (a : Rat) : 0≤a * a:=by
  rcases Rat.le_total (a:=0) (b:=a) with h | h
  · exact Rat.mul_nonneg h h
  · have h1 : 0≤-a:=by grind
    have:=Rat.mul_nonneg h1 h1
    grind
theorem sumQ_comm {n m : Nat} {f : Nat→Nat→Rat} : sumQ n (fun i=>sumQ m (fun j=>f i j)) = sumQ m (fun j=>sumQ n (fun i=>f i j)):=by
  induction n with
  | zero =>
    simp only [sumQ]
    exact (sumQ_zero fun _ _=>rfl).symm
  | succ n ih=>simp only [sumQ];rw [ih,← sumQ_add]
theorem sumQ_nonneg {n : Nat} {f : Nat→Rat} (h : ∀ i,i < n→0≤f i) : 0≤sumQ n f:=by
  induction n with
  | zero=>simp only [sumQ];grind
  | succ n ih =>
    have h1:=ih fun i hi=>h i (by omega)
    have h2:=h n (by omega)
    simp only [sumQ];grind
theorem sumQ_sq0 {n : Nat} {p : Nat→Rat} (h : sumQ n (fun i=>p i * p i) = 0) : ∀ i,i < n→p i = 0:=by
  induction n with
  | zero=>intro i hi;omega
  | succ n ih =>
    simp only [sumQ] at h
    have h1 : 0≤sumQ n (fun i=>p i * p i):=sumQ_nonneg fun i _=>rat_sq _
    have h2:=rat_sq (p n)
    have h3 : sumQ n (fun i=>p i * p i) = 0:=by grind
    have h4 : p n * p n = 0:=by grind
    intro i hi
    by_cases e : i = n
    · subst e
      rcases Rat.mul_eq_zero.1 h4 with h | h <;> exact h
    · exact ih h3 i (by omega)
theorem sumQ_lem {c n : Nat} {u : Nat→Rat} {X : Nat→Nat→Rat} {Z : Nat→Rat} : sumQ c (fun a=>u a * sumQ n (fun m=>X m a * Z m)) = sumQ n (fun m=>sumQ c (fun a=>u a * X m a) * Z m):=by
  have e1 : sumQ c (fun a=>u a * sumQ n (fun m=>X m a * Z m)) = sumQ c (fun a=>sumQ n (fun m=>u a * (X m a * Z m))):=sumQ_congr fun a _=>sumQ_mul.symm
  rw [e1,sumQ_comm]
  refine sumQ_congr fun m _=>?_
  have e2 : sumQ c (fun i=>u i * (X m i * Z m)) = sumQ c (fun i=>Z m * (u i * X m i)):=sumQ_congr fun a _=>by grind
  rw [e2,sumQ_mul];grind
structure REc (R W : Nat) (f0 f : Nat→Nat→It) (st : List Stp) : Prop where
  ec : ∀ j,j < st.length→∀ b,b < (st.getD j default).1→vf f j b = 0
  rs : ∀ a,a < R→∃ u : Nat→Rat,∀ b,b < W→vf f a b = sumQ R (fun i=>u i * vf f0 i b)
theorem REc.step {R W c : Nat} {f0 f f' : Nat→Nat→It} {st st' : List Stp} (hc : c < W) (h : RInv R W c f0 f st) (e : REc R W f0 f st) (hs : red1 W R c f st = some (f',st')) : REc R W f0 f' st':=by
  unfold red1 at hs
  split at hs
  · injection hs with hs;injection hs with e1 e2;subst e1 e2
    exact e
  · rename_i hR
    rcases nz_spec f c R st.length with ⟨h1,h2⟩ | ⟨h1,h2,h3⟩
    · rw [if_pos h1] at hs
      injection hs with hs;injection hs with e1 e2;subst e1 e2
      exact e
    · rw [if_neg (by omega)] at hs
      split at hs
      · rename_i hn
        generalize nz f c R st.length = k at *
        injection hs with hs;injection hs with e1 e2;subst e1 e2
        have hq:=stepF_q (by omega) h2 hc h3 h.nb hn
        have rz : ∀ b,b < c→vf (stepF W R st.length k c f) st.length b = 0:=by
          intro b hb
          have:=hq.pr b (by omega)
          rw [h.ze k h1 h2 b hb] at this
          rcases Rat.mul_eq_zero.1 this with h5 | h5
          · exact h5
          · exact absurd h5 hq.p0
        have hkr : ∃ u : Nat→Rat,∀ b,b < W→vf (stepF W R st.length k c f) st.length b = sumQ R (fun i=>u i * vf f0 i b):=by
          obtain ⟨u,hu⟩:=e.rs k h2
          refine ⟨fun i=>(vf f k c)⁻¹ * u i,fun b hb=>?_⟩
          have h5:=hq.pr b hb
          have h6 : vf f k c * (vf f k c)⁻¹ = 1:=Rat.mul_inv_cancel _ hq.p0
          have h7 : sumQ R (fun i=>(vf f k c)⁻¹ * u i * vf f0 i b) = sumQ R (fun i=>(vf f k c)⁻¹ * (u i * vf f0 i b)):=sumQ_congr fun i _=>by grind
          rw [h7,sumQ_mul,← hu b hb,← h5];grind
        refine ⟨fun j hj b hb=>?_,fun a ha=>?_⟩
        · rw [List.length_append,List.length_singleton] at hj
          by_cases ej : j < st.length
          · rw [getD_app_l ej] at hb
            have hlt:=h.lt j ej
            rw [hq.el j (by omega) (by omega) b (by omega),rz b (by omega)]
            have : sw st.length k j = j:=by unfold sw;rw [if_neg (by omega),if_neg (by omega)]
            rw [this,e.ec j ej b hb];grind
          · obtain rfl : j = st.length:=by omega
            rw [getD_app_r] at hb
            exact rz b hb
        · by_cases ea : a = st.length
          · subst ea;exact hkr
          · obtain ⟨u,hu⟩:=e.rs (sw st.length k a) (sw_lt (by omega) h2 ha)
            obtain ⟨v,hv⟩:=hkr
            refine ⟨fun i=>u i + (- vf f (sw st.length k a) c) * v i,fun b hb=>?_⟩
            have h7 : sumQ R (fun i=>(u i + (- vf f (sw st.length k a) c) * v i) * vf f0 i b) = sumQ R (fun i=>u i * vf f0 i b + (- vf f (sw st.length k a) c) * (v i * vf f0 i b)):=sumQ_congr fun i _=>by grind
            rw [h7,sumQ_add,sumQ_mul,← hu b hb,← hv b hb,hq.el a ha ea b hb];grind
      · cases hs
theorem redS_ec {R W : Nat} {f0 : Nat→Nat→It} (h0 : ∀ a b,a < R→b < W→numB (f0 a b) = true) : ∀ {c : Nat} {f : Nat→Nat→It} {st : List Stp},c≤W→redS W R f0 c = some (f,st)→REc R W f0 f st
  | 0,f,st,_,h=>by
    simp only [redS] at h
    injection h with h;injection h with e1 e2;subst e1 e2
    refine ⟨fun j hj=>by simp at hj,fun a ha=>⟨fun i=>if i = a then 1 else 0,fun b hb=>?_⟩⟩
    rw [sumQ_single ha fun i _ hne=>by simp only [if_neg hne];grind];simp only [if_true];grind
  | c + 1,f,st,hc,h=>by
    simp only [redS] at h
    split at h
    · cases h
    · rename_i g s1 h1
      exact (redS_ec h0 (by omega) h1).step (by omega) (redS_inv h0 (by omega) h1) h
theorem norm_big {n c : Nat} {X : Nat→Nat→Rat} {Y : Nat→Rat} {f0 f : Nat→Nat→It} {st : List Stp} (hi : RInv c (c + 1) (c + 1) f0 f st) (he : REc c (c + 1) f0 f st)
    (h1 : ∀ a b,a < c→b < c→vf f0 a b = sumQ n (fun m=>X m a * X m b)) (h2 : ∀ a,a < c→vf f0 a c = sumQ n (fun m=>X m a * Y m)) : big c st = false:=by
  cases hb : big c st with
  | false=>rfl
  | true =>
    exfalso
    unfold big at hb
    obtain ⟨x,hx,hcx⟩:=List.any_eq_true.1 hb
    obtain ⟨j,hj,rfl⟩:=List.mem_iff_getElem.1 hx
    have eg : st.getD j default = st[j]:=by rw [List.getD_eq_getElem?_getD,List.getElem?_eq_getElem hj];rfl
    have hlt:=hi.lt j hj
    have hp : (st.getD j default).1 = c:=by
      rw [eg] at hlt ⊢
      have:=of_decide_eq_true hcx
      omega
    have hjR : j < c:=Nat.lt_of_lt_of_le hj hi.le
    obtain ⟨u,hu⟩:=he.rs j hjR
    have z1 : ∀ b,b < c→sumQ n (fun m=>sumQ c (fun a=>u a * X m a) * X m b) = 0:=by
      intro b hb
      rw [← sumQ_lem]
      have e0:=he.ec j hj b (by rw [hp];exact hb)
      rw [hu b (by omega)] at e0
      rw [← e0]
      exact sumQ_congr fun a ha=>by rw [h1 a b ha hb]
    have z2 : sumQ n (fun m=>sumQ c (fun a=>u a * X m a) * sumQ c (fun a=>u a * X m a)) = 0:=by
      rw [← sumQ_lem (Z:=fun m=>sumQ c (fun a=>u a * X m a))]
      refine sumQ_zero fun b hb=>?_
      have e1 : sumQ n (fun m=>X m b * sumQ c (fun a=>u a * X m a)) = sumQ n (fun m=>sumQ c (fun a=>u a * X m a) * X m b):=sumQ_congr fun m _=>by grind
      rw [e1,z1 b hb];grind
    have z3:=sumQ_sq0 z2
    have e1:=hi.un j hj j hjR
    rw [if_pos rfl,hp,hu c (by omega)] at e1
    have e2 : sumQ c (fun i=>u i * vf f0 i c) = sumQ n (fun m=>sumQ c (fun a=>u a * X m a) * Y m):=by
      rw [← sumQ_lem]
      exact sumQ_congr fun a ha=>by rw [h2 a ha]
    rw [e2,sumQ_zero fun m hm=>by rw [z3 m hm];grind] at e1
    revert e1;decide
theorem norm_orth {n c : Nat} {X : Nat→Nat→Rat} {Y B : Nat→Rat} {k : Nat} (h : sumQ c (fun b=>sumQ n (fun m=>X m k * X m b) * B b) = sumQ n (fun m=>X m k * Y m)) :
    sumQ n (fun m=>X m k * (Y m - sumQ c (fun b=>X m b * B b))) = 0:=by
  have e1 : sumQ n (fun m=>X m k * (Y m - sumQ c (fun b=>X m b * B b))) = sumQ n (fun m=>X m k * Y m + (-1) * (sumQ c (fun b=>B b * X m b) * X m k)):=by
    refine sumQ_congr fun m _=>?_
    have : sumQ c (fun b=>X m b * B b) = sumQ c (fun b=>B b * X m b):=sumQ_congr fun b _=>by grind
    rw [this];grind
  rw [e1,sumQ_add,sumQ_mul,← sumQ_lem (Z:=fun m=>X m k),← h]
  have e2 : sumQ c (fun b=>sumQ n (fun m=>X m k * X m b) * B b) = sumQ c (fun a=>B a * sumQ n (fun m=>X m a * X m k)):=by
    refine sumQ_congr fun b _=>?_
    have : sumQ n (fun m=>X m k * X m b) = sumQ n (fun m=>X m b * X m k):=sumQ_congr fun m _=>by grind
    rw [this];grind
  rw [e2];grind
theorem norm_least {n c : Nat} {X : Nat→Nat→Rat} {Y B E : Nat→Rat} (h : ∀ k,k < c→sumQ n (fun m=>X m k * (Y m - sumQ c (fun b=>X m b * B b))) = 0) :
    sumQ n (fun m=>(Y m - sumQ c (fun b=>X m b * B b)) * (Y m - sumQ c (fun b=>X m b * B b)))≤sumQ n (fun m=>(Y m - sumQ c (fun b=>X m b * E b)) * (Y m - sumQ c (fun b=>X m b * E b))):=by
  obtain ⟨D,hD⟩ : ∃ D : Nat→Rat,D = fun m=>Y m - sumQ c (fun b=>X m b * B b):=⟨_,rfl⟩
  obtain ⟨G,hG⟩ : ∃ G : Nat→Rat,G = fun m=>sumQ c (fun b=>(B b - E b) * X m b):=⟨_,rfl⟩
  have e1 : ∀ m,Y m - sumQ c (fun b=>X m b * E b) = D m + G m:=by
    intro m
    have : sumQ c (fun b=>(B b - E b) * X m b) = sumQ c (fun b=>X m b * B b + (-1) * (X m b * E b)):=sumQ_congr fun b _=>by grind
    rw [hD,hG]
    simp only
    rw [this,sumQ_add,sumQ_mul];grind
  have e2 : sumQ n (fun m=>G m * D m) = 0:=by
    rw [hG]
    simp only
    rw [← sumQ_lem (Z:=D)]
    refine sumQ_zero fun k hk=>?_
    have:=h k hk
    rw [hD,this];grind
  have e3 : sumQ n (fun m=>(Y m - sumQ c (fun b=>X m b * E b)) * (Y m - sumQ c (fun b=>X m b * E b))) = sumQ n (fun m=>D m * D m) + (2 * sumQ n (fun m=>G m * D m) + sumQ n (fun m=>G m * G m)):=by
    rw [← sumQ_mul,← sumQ_add,← sumQ_add]
    exact sumQ_congr fun m _=>by rw [e1 m];grind
  have e4 : 0≤sumQ n (fun m=>G m * G m):=sumQ_nonneg fun m _=>rat_sq _
  rw [e3,e2]
  have e5 : sumQ n (fun m=>(Y m - sumQ c (fun b=>X m b * B b)) * (Y m - sumQ c (fun b=>X m b * B b))) = sumQ n (fun m=>D m * D m):=by rw [hD]
  rw [e5];grind
end Go.Proofs.Ytpilbhbbdldpeaa

namespace Go.Proofs.Ytpilbhbbdldpeaa
open Go.RowKit
set_option maxRecDepth 100000
theorem cel_getD {C : Nat} {l : List It} {i j : Nat} (h : i * C + j < l.length) : cel C l i j = l.getD (i * C + j) default:=by
  unfold cel
  rw [List.getD_eq_getElem?_getD,List.getElem?_eq_getElem h];rfl
theorem mulM_val {a b : Mt} (h : mulB a b = true) {i k : Nat} (hi : i < a.rows.toNat) (hk : k < b.cols.toNat) :
    numB ((mulM a b).cells.getD (i * b.cols.toNat + k) default) = true∧val ((mulM a b).cells.getD (i * b.cols.toNat + k) default) = sumQ a.cols.toNat (fun m=>val (a.cells.getD (i * a.cols.toNat + m) default) * val (b.cells.getD (m * b.cols.toNat + k) default)):=by
  have hn:=h
  unfold mulB at hn
  simp only [Bool.and_eq_true,decide_eq_true_eq] at hn
  obtain ⟨⟨⟨ha,hb⟩,hc⟩,hn⟩:=hn
  rw [mulM_true h]
  simp only
  unfold mulL at hn ⊢
  rw [grid_getD _ hi hk]
  have hnt:=grid_nb hn hi hk
  refine ⟨hnt,?_⟩
  rw [mulS_val hnt]
  obtain ⟨a1,-⟩:=mt_len ha
  obtain ⟨b1,-⟩:=mt_len hb
  refine sumQ_congr fun m hm=>?_
  rw [cel_getD (by rw [a1];exact grid_lt hi hm),cel_getD (by rw [b1,← hc];exact grid_lt hm hk)]
theorem turn_eq {n c : Nat} {l : List It} (h : mtB ⟨n,c,l⟩ = true) : turnM ⟨n,c,l⟩ = ⟨c,n,turnL n c l (c * n)⟩:=by unfold turnM;rw [if_pos h];rfl
theorem turn_getD {n c : Nat} {l : List It} (hl : l.length = n * c) {i m : Nat} (hi : i < c) (hm : m < n) : (turnL n c l (c * n)).getD (i * n + m) default = l.getD (m * c + i) default:=by
  rw [← cel_getD (by rw [turnL_len];exact grid_lt hi hm),cel_turn hl hi hm,cel_getD (by rw [hl];exact grid_lt hm hi)]
theorem fixIt_0 : fixIt it0 = l2N 0:=by unfold fixIt;rw [if_pos rfl,intN_eq (by decide)]
theorem fixIt_n {x : It} (h : numB x = true) : fixIt x = x:=by
  unfold fixIt
  rw [if_neg (fun e=>by rw [e,numB_it0] at h;cases h)]
theorem fit_sol {c : Nat} {f : Nat→Nat→It} {st : List Stp} (hb : big c st = false) (hf : ∀ i,i < st.length→numB (f i c) = true) : ∀ i,i≤st.length→(fitL c f st i).map fixIt = solL c f st i
  | 0,_=>by simp only [fitL,solL,List.map_replicate,fixIt_0]
  | i + 1,h=>by
    simp only [fitL,solL]
    rw [if_pos (big_lt (by omega) hb),List.map_set,fit_sol hb hf i (by omega),fixIt_n (hf i (by omega))]
theorem fit_norm {x : Mt} {y b : List It} (h : fitO x y = some b) : ∃ (n c : Nat) (l : List It),x = ⟨n,c,l⟩∧mtB x = true∧l.length = n * c∧y.length = n∧allN y = true∧b.length = c∧n≤12∧c≤12 ∧
    ∀ k,k < c→sumQ c (fun j=>sumQ n (fun m=>val (l.getD (m * c + k) default) * val (l.getD (m * c + j) default)) * val ((b.map fixIt).getD j default)) = sumQ n (fun m=>val (l.getD (m * c + k) default) * val (y.getD m default)):=by
  unfold fitO at h
  split at h
  · rename_i h0
    obtain ⟨hx,hy,hN⟩:=h0
    split at h
    · rename_i hm
      obtain ⟨hB1,hB2⟩:=hm
      obtain ⟨d1,d2,d3,d4,d5⟩:=mtB_dims hx
      obtain ⟨l1,l2,l3,l4⟩:=mt_len hx
      obtain ⟨rx,cx,l⟩:=x
      simp only at d1 d2 d3 d4 d5 l1 l3 l4 hy
      obtain ⟨n,rfl⟩:=Int.eq_ofNat_of_zero_le d1
      obtain ⟨c,rfl⟩:=Int.eq_ofNat_of_zero_le d3
      simp only [Int.toNat_natCast] at l1 l3 l4 h
      have hyn : y.length = n:=by omega
      rw [turn_eq hx] at h hB1 hB2
      have hlaV:=fun {i k : Nat} (hi : i < c) (hk : k < c)=>mulM_val hB1 (i:=i) (k:=k) (by simpa using hi) (by simpa using hk)
      have hlbV:=fun {i : Nat} (hi : i < c)=>mulM_val hB2 (i:=i) (k:=0) (by simpa using hi) (by simp)
      have hdA:=mulM_true hB1
      have hdB:=mulM_true hB2
      have na : allN (mulM ⟨c,n,turnL n c l (c * n)⟩ ⟨n,c,l⟩).cells = true:=by
        rw [hdA];unfold mulB at hB1;simp only [Bool.and_eq_true] at hB1;exact hB1.2
      have nb : allN (mulM ⟨c,n,turnL n c l (c * n)⟩ ⟨y.length,1,y⟩).cells = true:=by
        rw [hdB];unfold mulB at hB2;simp only [Bool.and_eq_true] at hB2;exact hB2.2
      have hla : (mulM ⟨c,n,turnL n c l (c * n)⟩ ⟨n,c,l⟩).cells.length = c * c:=by rw [hdA];simp [mulL,gridL_len]
      have hlb : (mulM ⟨c,n,turnL n c l (c * n)⟩ ⟨y.length,1,y⟩).cells.length = c * 1:=by rw [hdB];simp [mulL,gridL_len]
      simp only [Int.toNat_natCast,Int.toNat_one] at hlaV hlbV
      clear hdA hdB
      generalize (mulM ⟨c,n,turnL n c l (c * n)⟩ ⟨n,c,l⟩).cells = la at *
      generalize (mulM ⟨c,n,turnL n c l (c * n)⟩ ⟨y.length,1,y⟩).cells = lb at *
      have vA : ∀ i k,i < c→k < c→val (la.getD (i * c + k) default) = sumQ n (fun m=>val (l.getD (m * c + i) default) * val (l.getD (m * c + k) default)):=fun i k hi hk=>by
        rw [(hlaV hi hk).2]
        exact sumQ_congr fun m hm=>by rw [turn_getD l1 hi hm]
      have vB : ∀ i,i < c→val (lb.getD i default) = sumQ n (fun m=>val (l.getD (m * c + i) default) * val (y.getD m default)):=fun i hi=>by
        have:=(hlbV hi).2
        simp only [Nat.mul_one,Nat.add_zero] at this
        rw [this]
        exact sumQ_congr fun m hm=>by rw [turn_getD l1 hi hm]
      unfold fitE at h
      split at h
      · cases h
      · rename_i z hz
        obtain ⟨f,st⟩:=z
        simp only at h
        injection h with h
        subst h
        have hz0:=hz
        unfold augR at hz
        have h0 : ∀ a b,a < c→b < c + 1→numB (celF (c + 1) (besL c 1 la lb c) a b) = true:=by
          intro a b ha hb
          unfold celF
          rw [besL_getD hla hlb c (Nat.le_refl _) a b ha hb]
          split
          · exact allN_getD na (by rw [hla];exact grid_lt ha ‹_›)
          · exact allN_getD nb (by rw [hlb];omega)
        have inv:=redS_inv h0 (Nat.le_refl _) hz
        have hec:=redS_ec h0 (Nat.le_refl _) hz
        have hbig:=norm_big (n:=n) (X:=fun m a=>val (l.getD (m * c + a) default)) (Y:=fun m=>val (y.getD m default)) inv hec (fun a b ha hb=>by
          unfold vf celF
          rw [besL_getD hla hlb c (Nat.le_refl _) a b ha (by omega),if_pos hb]
          exact vA a b ha hb) (fun a ha=>by
          unfold vf celF
          rw [besL_getD hla hlb c (Nat.le_refl _) a c ha (by omega),if_neg (Nat.lt_irrefl _),Nat.sub_self,Nat.mul_one,Nat.add_zero]
          exact vB a ha)
        have hs : slvE c c la lb = some (solL c f st st.length):=by
          unfold slvE
          rw [hz0]
          simp only
          rw [if_neg (by rw [hbig];decide)]
        refine ⟨n,c,l,rfl,hx,l1,hyn,hN,fitL_len c f st _,l3,l4,fun k hk=>?_⟩
        rw [fit_sol hbig (fun i hi=>inv.nb i c (Nat.lt_of_lt_of_le hi inv.le) (by omega)) st.length (Nat.le_refl _),← vB k hk,← slv_sat hla hlb na nb hs hk]
        exact sumQ_congr fun j hj=>by rw [vA k j hk hj]
    · cases h
  · cases h
theorem pred_val {n c : Nat} {l b : List It} (h : prB ⟨n,c,l⟩ b = true) : (prL ⟨n,c,l⟩ b).length = n∧b.length = c∧∀ m,m < n→val ((prL ⟨n,c,l⟩ b).getD m default) = sumQ c (fun j=>val (l.getD (m * c + j) default) * val ((b.map fixIt).getD j default)):=by
  have h0:=h
  unfold prL
  rw [if_pos h]
  unfold prB at h
  simp only [Bool.and_eq_true,decide_eq_true_eq] at h
  obtain ⟨⟨h1,h2⟩,h3⟩:=h
  have h2 : b.length = c:=by omega
  refine ⟨?_,h2,fun m hm=>?_⟩
  · rw [mulM_true h3];simp [mulL,gridL_len]
  · have:=(mulM_val h3 (i:=m) (k:=0) (by simpa using hm) (by simp)).2
    simpa using this
theorem less_val {n : Nat} {y z : List It} {m : Nat} (hm : m < n) (hn : numB ((lessL y z n).getD m default) = true) : val ((lessL y z n).getD m default) = val (y.getD m default) - val (z.getD m default):=by
  have e : (lessL y z n).getD m default = subN (y.getD m default) (z.getD m default):=by
    unfold lessL
    rw [List.getD_eq_getElem?_getD (l:=List.map _ _),List.getElem?_map,List.getElem?_range hm];rfl
  rw [e] at hn ⊢
  exact (val_sub hn).2.2
theorem zeroB_all {l : List It} (h : ∀ i,i < l.length→(l.getD i default).num = 0) : zeroB l = true:=by
  unfold zeroB
  rw [List.all_eq_true]
  intro x hx
  obtain ⟨i,hi,rfl⟩:=List.mem_iff_getElem.1 hx
  have:=h i hi
  rw [List.getD_eq_getElem?_getD,List.getElem?_eq_getElem hi] at this
  simpa using this
theorem fit_orth {x : Mt} {y b : List It} (h : fitO x y = some b) (hp : prB x b = true) (hm : mulB (turnM x) (chkM x y (prL x b)) = true) : zeroB (mulM (turnM x) (chkM x y (prL x b))).cells = true∧y.length = (prL x b).length:=by
  obtain ⟨n,c,l,rfl,hx,hl,hy,hN,hbl,h12,h12',hk⟩:=fit_norm h
  obtain ⟨p1,p2,p3⟩:=pred_val hp
  refine ⟨?_,by rw [p1,hy]⟩
  have hD : ∀ m,m < n→numB ((lessL y (prL ⟨n,c,l⟩ b) n).getD m default) = true:=by
    intro m hmn
    have hm':=hm
    unfold mulB at hm'
    simp only [Bool.and_eq_true] at hm'
    have:=(mt_len hm'.1.1.2).2.1
    simp only [chkM] at this
    have:=allN_getD (i:=m) this (by rw [lessL_len,hy];exact hmn)
    rwa [hy] at this
  rw [turn_eq hx] at hm ⊢
  refine zeroB_all fun i hi=>?_
  have hlen : (mulM ⟨c,n,turnL n c l (c * n)⟩ (chkM ⟨n,c,l⟩ y (prL ⟨n,c,l⟩ b))).cells.length = c * 1:=by rw [mulM_true hm];simp [mulL,gridL_len,chkM]
  rw [hlen,Nat.mul_one] at hi
  obtain ⟨v1,v2⟩:=mulM_val hm (i:=i) (k:=0) (by simpa using hi) (by simp [chkM])
  simp only [chkM,Int.toNat_one,Nat.mul_one,Nat.add_zero,Int.toNat_natCast] at v1 v2
  refine (val_zero v1).1 ?_
  rw [v2,hy]
  rw [← norm_orth (B:=fun j=>val ((b.map fixIt).getD j default)) (X:=fun m a=>val (l.getD (m * c + a) default)) (hk i hi)]
  refine sumQ_congr fun m hmn=>?_
  rw [turn_getD hl hi hmn,less_val hmn (hD m hmn),p3 m hmn]
def sqS (l : List It) : It:=l.foldl (fun s x=>addN s (mulN x x)) (l2N 0)
theorem sqS_take {l : List It} {k : Nat} (h : k < l.length) : sqS (l.take (k + 1)) = addN (sqS (l.take k)) (mulN (l.getD k default) (l.getD k default)):=by
  unfold sqS
  rw [List.take_succ_eq_append_getElem h,List.foldl_append,List.getD_eq_getElem?_getD,List.getElem?_eq_getElem h];rfl
theorem sqS_val {l : List It} : ∀ {k : Nat},k≤l.length→numB (sqS (l.take k)) = true→(∀ i,i < k→numB (l.getD i default) = true)∧val (sqS (l.take k)) = sumQ k (fun i=>val (l.getD i default) * val (l.getD i default))
  | 0,_,_=>⟨fun i hi=>by omega,by simp only [List.take_zero,sqS,List.foldl_nil,sumQ];rw [val_l2N];rfl⟩
  | k + 1,hk,hn=>by
    rw [sqS_take (by omega)] at hn ⊢
    obtain ⟨h1,h2,h3⟩:=val_add hn
    obtain ⟨g1,g2⟩:=sqS_val (by omega) h1
    obtain ⟨m1,_,m3⟩:=val_mul h2
    refine ⟨fun i hi=>?_,by rw [h3,g2,m3];rfl⟩
    by_cases e : i = k
    · subst e;exact m1
    · exact g1 i (by omega)
def cmpI (x y : It) : Int:=if numB x = true∧numB y = true then (if x.num * y.den - y.num * x.den < 0 then -1 else min (x.num * y.den - y.num * x.den) 1) else 2
theorem cmpI_le {x y : It} (h : numB x = true→numB y = true→val x≤val y) : cmpI x y ≠ 1:=by
  unfold cmpI
  split
  · rename_i hc
    have h:=h hc.1 hc.2
    unfold val at h
    have dx:=(numB_iff.1 hc.1).2.1
    have dy:=(numB_iff.1 hc.2).2.1
    rw [Rat.le_iff_sub_nonneg,Rat.divInt_sub_divInt _ _ (by omega) (by omega),Rat.divInt_nonneg_iff_of_pos_right (Int.mul_pos (by omega) (by omega))] at h
    split <;> omega
  · decide
theorem fit_least {x : Mt} {y b e : List It} (h : fitO x y = some b) (hp : prB x b = true) (he : prB x e = true) :
    cmpI (sqS (lessL y (prL x b) y.length)) (sqS (lessL y (prL x e) y.length)) ≠ 1:=by
  obtain ⟨n,c,l,rfl,hx,hl,hy,hN,hbl,h12,h12',hk⟩:=fit_norm h
  obtain ⟨p1,p2,p3⟩:=pred_val hp
  obtain ⟨q1,q2,q3⟩:=pred_val he
  refine cmpI_le fun n1 n2=>?_
  rw [hy] at n1 n2 ⊢
  have t1 : (lessL y (prL ⟨n,c,l⟩ b) n).take n = lessL y (prL ⟨n,c,l⟩ b) n:=List.take_of_length_le (by rw [lessL_len];omega)
  have t2 : (lessL y (prL ⟨n,c,l⟩ e) n).take n = lessL y (prL ⟨n,c,l⟩ e) n:=List.take_of_length_le (by rw [lessL_len];omega)
  rw [← t1] at n1 ⊢
  rw [← t2] at n2 ⊢
  obtain ⟨u1,u2⟩:=sqS_val (by rw [lessL_len];omega) n1
  obtain ⟨w1,w2⟩:=sqS_val (by rw [lessL_len];omega) n2
  rw [u2,w2]
  have:=norm_least (n:=n) (c:=c) (X:=fun m a=>val (l.getD (m * c + a) default)) (Y:=fun m=>val (y.getD m default)) (B:=fun j=>val ((b.map fixIt).getD j default)) (E:=fun j=>val ((e.map fixIt).getD j default)) (fun k hk'=>norm_orth (X:=fun m a=>val (l.getD (m * c + a) default)) (Y:=fun m=>val (y.getD m default)) (B:=fun j=>val ((b.map fixIt).getD j default)) (hk k hk'))
  have e1 : sumQ n (fun i=>val ((lessL y (prL ⟨n,c,l⟩ b) n).getD i default) * val ((lessL y (prL ⟨n,c,l⟩ b) n).getD i default)) = _:=sumQ_congr fun m hmn=>by rw [less_val hmn (u1 m hmn),p3 m hmn]
  have e2 : sumQ n (fun i=>val ((lessL y (prL ⟨n,c,l⟩ e) n).getD i default) * val ((lessL y (prL ⟨n,c,l⟩ e) n).getD i default)) = _:=sumQ_congr fun m hmn=>by rw [less_val hmn (w1 m hmn),q3 m hmn]
  rw [e1,e2]
  exact this
end Go.Proofs.Ytpilbhbbdldpeaa

namespace Go.Proofs.Ytpilbhbbdldpeaa
open List (length_take length_drop length_append map_cons map_nil length_map length_cons length_nil length_set length_replicate)
open Go.RowKit
set_option maxRecDepth 100000
theorem implSS_m (l : List It) (hl : l.length≤100000000) : Meets Try.prog 18 [(false,[encIts l])] [(true,encIt (sqS l),true)]:=by
  have h0:=mIntItem 0
  rw [intN_eq (by decide)] at h0
  refine meets_upf Try.func18 u_impl_SumOfSquares_g rfl ?_;simp only [u_impl_SumOfSquares_u]
  simp only [encIts,encIt] at h0 ⊢
  simp (disch:=first | omega | (simp only [length_take,length_drop,length_append,map_cons,map_nil,length_map,length_cons,length_nil,length_set,length_replicate];omega) | (simp only [length_cons,length_nil,Nat.zero_add,Nat.reduceAdd])) only [go_sem,↓reduceIte,Nat.reduceAdd,Int.reduceNeg,Int.reduceAdd,Int.reduceSub,Int.reduceMul,Int.reduceLT,Int.reduceLE,Int.reduceEq,Int.reduceToNat,Nat.reduceBEq,true_and]
  refine cl_ok h0 rfl ?_
  simp (disch:=first | omega | (simp only [length_take,length_drop,length_append,map_cons,map_nil,length_map,length_cons,length_nil,length_set,length_replicate];omega) | (simp only [length_cons,length_nil,Nat.zero_add,Nat.reduceAdd])) only [go_sem,↓reduceIte,Nat.reduceAdd,Int.reduceNeg,Int.reduceAdd,Int.reduceSub,Int.reduceMul,Int.reduceLT,Int.reduceLE,Int.reduceEq,Int.reduceToNat,Nat.reduceBEq,true_and]
  refine lp_n l.length (fun i=>[.sc (.int .i64 i),.sc (.int .i64 (sqS (l.take i)).num),.sc (.int .i64 (sqS (l.take i)).den),.sc (.string (sqS (l.take i)).text)]) rfl fun i hi=>?_
  simp only [u_impl_SumOfSquares_l0]
  by_cases hlt : i < l.length
  · have hs:=sqS_take hlt
    have h1:=mImplMul (l.getD i default) (l.getD i default)
    have h2:=mImplAdd (sqS (l.take i)) (mulN (l.getD i default) (l.getD i default))
    rw [← hs] at h2
    simp only [encIt] at h1 h2
    repeat' (first | (with_reducible first | refine jn_in ?_ | refine cl_ok (by assumption) rfl ?_ | refine cl_okP (by assumption) rfl ?_ | refine br_if (fun hbr=>?_) fun hbr=>?_ | refine br_ifn (fun hbr=>?_) fun hbr=>?_ | refine br_nb (fun hbr=>?_) fun hbr=>?_ | refine br_b (fun hbr=>?_) fun hbr=>?_) | simp (disch:=first | omega | (simp only [length_take,length_drop,length_append,map_cons,map_nil,length_map,length_cons,length_nil,length_set,length_replicate];omega) | (simp only [length_cons,length_nil,Nat.zero_add,Nat.reduceAdd])) only [go_sem,↓reduceIte,Nat.reduceAdd,Int.reduceNeg,Int.reduceAdd,Int.reduceSub,Int.reduceMul,Int.reduceLT,Int.reduceLE,Int.reduceEq,Int.reduceToNat,Nat.reduceBEq,nat1,ix_it,encIt])
    all_goals first | omega | exact ⟨rfl,hlt⟩
  · obtain rfl : i = l.length:=by omega
    repeat' (first | (with_reducible first | refine jn_in ?_ | refine cl_ok (by assumption) rfl ?_ | refine cl_okP (by assumption) rfl ?_ | refine br_if (fun hbr=>?_) fun hbr=>?_ | refine br_ifn (fun hbr=>?_) fun hbr=>?_ | refine br_nb (fun hbr=>?_) fun hbr=>?_ | refine br_b (fun hbr=>?_) fun hbr=>?_) | simp (disch:=first | omega | (simp only [length_take,length_drop,length_append,map_cons,map_nil,length_map,length_cons,length_nil,length_set,length_replicate];omega) | (simp only [length_cons,length_nil,Nat.zero_add,Nat.reduceAdd])) only [go_sem,↓reduceIte,Nat.reduceAdd,Int.reduceNeg,Int.reduceAdd,Int.reduceSub,Int.reduceMul,Int.reduceLT,Int.reduceLE,Int.reduceEq,Int.reduceToNat,Nat.reduceBEq,nat1,List.take_length])
    all_goals first | omega | rfl
theorem mul_bd {a b : Int} (h1 : -999999999≤a∧a≤999999999) (h2 : 1≤b∧b≤999999999) : -999999998000000001≤a * b∧a * b≤999999998000000001:=by
  have e1 : a * b≤999999999 * b:=Int.mul_le_mul_of_nonneg_right h1.2 (by omega)
  have e2 : (-999999999) * b≤a * b:=Int.mul_le_mul_of_nonneg_right h1.1 (by omega)
  omega
theorem cmp_m (x y : It) : Meets Try.prog 45 [(true,encIt x),(true,encIt y)] [(false,[.sc (.int .i64 (cmpI x y))],true)]:=by
  have h1:=mSpecIsNum x
  have h2:=mSpecIsNum y
  refine meets_upf Try.func45 u_spec_CompareNumbers_g rfl ?_;simp only [u_spec_CompareNumbers_u]
  simp only [encIt] at h1 h2 ⊢
  cases hx : numB x
  · rw [hx] at h1
    repeat' (first | (with_reducible first | refine jn_in ?_ | refine cl_ok (by assumption) rfl ?_ | refine cl_okP (by assumption) rfl ?_ | refine br_if (fun hbr=>?_) fun hbr=>?_ | refine br_ifn (fun hbr=>?_) fun hbr=>?_ | refine br_nb (fun hbr=>?_) fun hbr=>?_ | refine br_b (fun hbr=>?_) fun hbr=>?_) | simp (disch:=first | omega | (simp only [length_take,length_drop,length_append,map_cons,map_nil,length_map,length_cons,length_nil,length_set,length_replicate];omega) | (simp only [length_cons,length_nil,Nat.zero_add,Nat.reduceAdd])) only [go_sem,↓reduceIte,Nat.reduceAdd,Int.reduceNeg,Int.reduceAdd,Int.reduceSub,Int.reduceMul,Int.reduceLT,Int.reduceLE,Int.reduceEq,Int.reduceToNat,Nat.reduceBEq,nat1,true_and])
    exact ret_z (by unfold cmpI;rw [if_neg (by simp [hx])])
  cases hy : numB y
  · rw [hx] at h1;rw [hy] at h2
    repeat' (first | (with_reducible first | refine jn_in ?_ | refine cl_ok (by assumption) rfl ?_ | refine cl_okP (by assumption) rfl ?_ | refine br_if (fun hbr=>?_) fun hbr=>?_ | refine br_ifn (fun hbr=>?_) fun hbr=>?_ | refine br_nb (fun hbr=>?_) fun hbr=>?_ | refine br_b (fun hbr=>?_) fun hbr=>?_) | simp (disch:=first | omega | (simp only [length_take,length_drop,length_append,map_cons,map_nil,length_map,length_cons,length_nil,length_set,length_replicate];omega) | (simp only [length_cons,length_nil,Nat.zero_add,Nat.reduceAdd])) only [go_sem,↓reduceIte,Nat.reduceAdd,Int.reduceNeg,Int.reduceAdd,Int.reduceSub,Int.reduceMul,Int.reduceLT,Int.reduceLE,Int.reduceEq,Int.reduceToNat,Nat.reduceBEq,nat1,true_and])
    exact ret_z (by unfold cmpI;rw [if_neg (by simp [hy])])
  rw [hx] at h1;rw [hy] at h2
  obtain ⟨-,x1,x2,-⟩:=numB_iff.1 hx
  obtain ⟨-,y1,y2,-⟩:=numB_iff.1 hy
  have b1:=mul_bd x2 y1
  have b2:=mul_bd y2 x1
  have w1 : IntKind.i64.wrap (x.num * y.den) = x.num * y.den:=wrap_id (by omega) (by omega)
  have w2 : IntKind.i64.wrap (y.num * x.den) = y.num * x.den:=wrap_id (by omega) (by omega)
  have e : cmpI x y = if x.num * y.den - y.num * x.den < 0 then -1 else min (x.num * y.den - y.num * x.den) 1:=by unfold cmpI;rw [if_pos ⟨hx,hy⟩]
  rw [e]
  generalize hp : x.num * y.den = p at *
  generalize hq : y.num * x.den = q at *
  repeat' (first | (with_reducible first | refine jn_in ?_ | refine cl_ok (by assumption) rfl ?_ | refine cl_okP (by assumption) rfl ?_ | refine br_if (fun hbr=>?_) fun hbr=>?_ | refine br_ifn (fun hbr=>?_) fun hbr=>?_ | refine br_nb (fun hbr=>?_) fun hbr=>?_ | refine br_b (fun hbr=>?_) fun hbr=>?_) | simp (disch:=first | omega | (simp only [length_take,length_drop,length_append,map_cons,map_nil,length_map,length_cons,length_nil,length_set,length_replicate];omega) | (simp only [length_cons,length_nil,Nat.zero_add,Nat.reduceAdd])) only [go_sem,↓reduceIte,Nat.reduceAdd,Int.reduceNeg,Int.reduceAdd,Int.reduceSub,Int.reduceMul,Int.reduceLT,Int.reduceLE,Int.reduceEq,Int.reduceToNat,Nat.reduceBEq,nat1,hp,hq,w1,w2])
  · rw [if_pos ‹_›];rfl
  · rw [if_neg ‹_›];exact ret_z (by first | rfl | exact (Int.min_comm ..) | omega)
theorem atMost_m (x y : It) : Meets Try.prog 17 [(true,encIt x),(true,encIt y)] [(false,[.sc (.bool (!decide (cmpI x y = 1)))],true)]:=by
  have h:=cmp_m x y
  refine meets_upf Try.func17 u_laws_atMost_g rfl ?_;simp only [u_laws_atMost_u]
  simp only [encIt] at h ⊢
  repeat' (first | (with_reducible first | refine jn_in ?_ | refine cl_ok (by assumption) rfl ?_ | refine cl_okP (by assumption) rfl ?_ | refine br_if (fun hbr=>?_) fun hbr=>?_ | refine br_ifn (fun hbr=>?_) fun hbr=>?_ | refine br_nb (fun hbr=>?_) fun hbr=>?_ | refine br_b (fun hbr=>?_) fun hbr=>?_) | simp (disch:=first | omega | (simp only [length_take,length_drop,length_append,map_cons,map_nil,length_map,length_cons,length_nil,length_set,length_replicate];omega) | (simp only [length_cons,length_nil,Nat.zero_add,Nat.reduceAdd])) only [go_sem,↓reduceIte,Nat.reduceAdd,Int.reduceNeg,Int.reduceAdd,Int.reduceSub,Int.reduceMul,Int.reduceLT,Int.reduceLE,Int.reduceEq,Int.reduceToNat,Nat.reduceBEq,nat1,true_and])
  rfl
theorem less_m (y z : List It) (hl : y.length≤100000000) : Meets Try.prog 13 [(false,[encIts y]),(false,[encIts z])] [(false,[encIts (lessL y z (min y.length z.length))],true)]:=by
  refine meets_upf Try.func13 u_laws_less_g rfl ?_;simp only [u_laws_less_u]
  simp only [encIts]
  simp (disch:=first | omega | (simp only [length_take,length_drop,length_append,map_cons,map_nil,length_map,length_cons,length_nil,length_set,length_replicate];omega) | (simp only [length_cons,length_nil,Nat.zero_add,Nat.reduceAdd])) only [go_sem,↓reduceIte,Nat.reduceAdd,Int.reduceNeg,Int.reduceAdd,Int.reduceSub,Int.reduceMul,Int.reduceLT,Int.reduceLE,Int.reduceEq,Int.reduceToNat,Nat.reduceBEq,true_and]
  refine lp_n (min y.length z.length) (fun i=>[.sc (.int .i64 i),.sl 39 3 ((lessL y z i).map encIt)]) rfl fun i hi=>?_
  have hll:=lessL_len y z i
  simp only [u_laws_less_l0]
  by_cases hlt : i < min y.length z.length
  · have hs:=mSpecSub (y.getD i default) (z.getD i default)
    have e:=lessL_succ y z i
    have hff : ∀ x : It,eFlat (some (.sl 39 3 [[.sc (.int .i64 x.num),.sc (.int .i64 x.den),.sc (.string x.text)]])) = some []:=fun _=>rfl
    simp only [encIt] at hs
    rw [e,List.map_append]
    have hy : i < y.length:=by omega
    have hz : i < z.length:=by omega
    repeat' (first | (with_reducible first | refine jn_in ?_ | refine cl_ok (by assumption) rfl ?_ | refine cl_okP (by assumption) rfl ?_ | refine br_if (fun hbr=>?_) fun hbr=>?_ | refine br_ifn (fun hbr=>?_) fun hbr=>?_ | refine br_nb (fun hbr=>?_) fun hbr=>?_ | refine br_b (fun hbr=>?_) fun hbr=>?_) | simp (disch:=first | omega | (simp only [length_take,length_drop,length_append,map_cons,map_nil,length_map,length_cons,length_nil,length_set,length_replicate];omega) | (simp only [length_cons,length_nil,Nat.zero_add,Nat.reduceAdd])) only [go_sem,↓reduceIte,Nat.reduceAdd,Int.reduceNeg,Int.reduceAdd,Int.reduceSub,Int.reduceMul,Int.reduceLT,Int.reduceLE,Int.reduceEq,Int.reduceToNat,Nat.reduceBEq,nat1,ix_it,encIt,hff,List.map_cons,List.map_nil])
    all_goals first | omega | exact ⟨rfl,hlt⟩
  · obtain rfl : i = min y.length z.length:=by omega
    repeat' (first | (with_reducible first | refine jn_in ?_ | refine cl_ok (by assumption) rfl ?_ | refine cl_okP (by assumption) rfl ?_ | refine br_if (fun hbr=>?_) fun hbr=>?_ | refine br_ifn (fun hbr=>?_) fun hbr=>?_ | refine br_nb (fun hbr=>?_) fun hbr=>?_ | refine br_b (fun hbr=>?_) fun hbr=>?_) | simp (disch:=first | omega | (simp only [length_take,length_drop,length_append,map_cons,map_nil,length_map,length_cons,length_nil,length_set,length_replicate];omega) | (simp only [length_cons,length_nil,Nat.zero_add,Nat.reduceAdd])) only [go_sem,↓reduceIte,Nat.reduceAdd,Int.reduceNeg,Int.reduceAdd,Int.reduceSub,Int.reduceMul,Int.reduceLT,Int.reduceLE,Int.reduceEq,Int.reduceToNat,Nat.reduceBEq,nat1,true_and])
    all_goals first | omega | rfl
theorem column_m (y : List It) (hl : y.length≤100000000) : Meets Try.prog 12 [(false,[encIts y])] [(true,encMt ⟨y.length,1,y⟩,false)]:=by
  refine meets_uprf Try.func12 u_laws_column_g rfl ?_;simp only [u_laws_column_u]
  simp only [encIts,encMt]
  simp (disch:=first | omega | (simp only [length_take,length_drop,length_append,map_cons,map_nil,length_map,length_cons,length_nil,length_set,length_replicate];omega) | (simp only [length_cons,length_nil,Nat.zero_add,Nat.reduceAdd])) only [go_sem,↓reduceIte,Nat.reduceAdd,Int.reduceNeg,Int.reduceAdd,Int.reduceSub,Int.reduceMul,Int.reduceLT,Int.reduceLE,Int.reduceEq,Int.reduceToNat,Nat.reduceBEq,true_and]
  rfl
theorem numI_m (n : Int) : Meets Try.prog 15 [(false,[.sc (.int .i64 n)])] [(true,encIt (l2N n),true)]:=by
  refine meets_upf Try.func15 u_laws_num_g rfl ?_;simp only [u_laws_num_u]
  simp (disch:=first | omega | (simp only [length_take,length_drop,length_append,map_cons,map_nil,length_map,length_cons,length_nil,length_set,length_replicate];omega) | (simp only [length_cons,length_nil,Nat.zero_add,Nat.reduceAdd])) only [go_sem,↓reduceIte,Nat.reduceAdd,Int.reduceNeg,Int.reduceAdd,Int.reduceSub,Int.reduceMul,Int.reduceLT,Int.reduceLE,Int.reduceEq,Int.reduceToNat,Nat.reduceBEq,nat1,true_and]
  rfl
end Go.Proofs.Ytpilbhbbdldpeaa

namespace Go.Proofs.Ytpilbhbbdldpeaa
open Go.RowKit
set_option maxRecDepth 100000
def u_spec_DrawFitMatrix_h : List Hint:=[]
def u_spec_DrawFitMatrix_d : List (Nat × Nat × Bool × List Nat):=[(3,3,false,[0,1])]
def u_spec_DrawFitMatrix_u : UP:=.po (.k (.int .i64 0)) <| .po (.k (.int .i64 0)) <| .cl 3000019 [(false,[2])] [(false,[some (66,0)],true)] <| .cl 2000020 [(false,[0])] [(true,[none,none,some (39,3)],true),(false,[some (66,0)],true)] <| .po (.k (.int .i64 0)) <| .po (.k (.int .i64 0)) <| .po (.sc 5) <| .po (.sc 4) <| .sel [2,3,4,5] <| .cl 22 [(true,[3,2,1])] [(false,[none],true)] <| .cl 2000021 [(false,[1]),(false,[0])] [(false,[some (39,3)],true),(false,[some (66,0)],true)] <| .po (.sc 6) <| .po (.sc 5) <| .ret [(true,[6,5,4]),(false,[1])]
theorem u_spec_DrawFitMatrix_g : toUPf Try.prog 5 Try.f5 owA u_spec_DrawFitMatrix_h u_spec_DrawFitMatrix_d = some ([(false,1)],u_spec_DrawFitMatrix_u):=by kernel_rfl
def u_spec_l23Design_h : List Hint:=[⟨3000005,2,⟨[(4,.p false [.d 23]),(3,.p false [.ptr 3 3 0]),(6,.p false [.d 4]),(2,.p false [.ptr 1 1 0]),(0,.p false [.own 0 0])],[(0,.cur 0 true 66 19),(1,.var 1 26 [.d 1,.d 2,.nil]),(3,.var 3 26 [.d 16,.d 17,.own 2 2]),(2,.row 2 39 3 24)],4,4,25,[(4,false)]⟩,[]⟩]
def u_spec_l23Design_d : List (Nat × Nat × Bool × List Nat):=[(7,8,false,[])]
def u_spec_l23Design_l0 : UP:=.po (.bin .lss false 1 6) <| .ite 0 (.po (.sc 6) <| .po (.bin .mul false 2 6) <| .po (.sc 0) <| .po (.k (.int .i64 1)) <| .sel [0,1,3,4] <| .cl 44 [(false,[0])] [(true,[none,none,none],true)] <| .po (.isI 4) <| .po (.chk 3 5 4) <| .po (.sc 2) <| .po (.sc 1) <| .po (.sc 0) <| .po (.set 3 5 4 0 [2,1,0]) <| .po (.k (.int .i64 1)) <| .po (.bin .add false 8 0) <| .jump 0 [0,2]) <| .po (.sc 7) <| .po (.sc 6) <| .ret [(false,[4]),(true,[7,6,1])]
def u_spec_l23Design_u : UP:=.po (.k (.int .i64 0)) <| .po (.k (.int .i64 0)) <| .po (.k (.int .i64 8)) <| .cl 2000048 [(false,[3]),(false,[0])] [(false,[none],true),(false,[some (66,0)],true)] <| .ite 1 (.sel [0] <| .cl 2000049 [(false,[0])] [(true,[none,none,some (39,3)],true),(false,[some (66,0)],true)] <| .po (.sc 3) <| .po (.sc 2) <| .ret [(false,[0]),(true,[3,2,1])]) <| .po (.k (.int .i64 4)) <| .sel [0,1] <| .cl 2000051 [(false,[1]),(false,[0])] [(false,[none],true),(false,[some (66,0)],true)] <| .po (.k (.int .i64 2)) <| .po (.bin .add false 0 2) <| .po (.k (.int .i64 3)) <| .sel [0,1,3] <| .cl 2000051 [(false,[2]),(false,[0])] [(false,[none],true),(false,[some (66,0)],true)] <| .po (.k (.int .i64 1)) <| .po (.bin .add false 0 2) <| .sel [0,2,5] <| .cl 2000050 [(false,[1]),(false,[2]),(false,[0])] [(true,[none,none,some (39,3)],true),(false,[some (66,0)],true)] <| .po (.k (.int .i64 0)) <| .po (.k (.int .i64 0)) <| .po (.k (.int .i64 0)) <| .sel [0,3,4,5,6] <| .loop [0,2] u_spec_l23Design_l0
theorem u_spec_l23Design_g : toUPcf Try.prog 20 Try.f20 owA u_spec_l23Design_h u_spec_l23Design_d 66 = some ([],u_spec_l23Design_u):=by kernel_rfl
def u_spec_l23Numbers_h : List Hint:=[⟨2000001,6,⟨[(5,.p false [.own 1 2]),(19,.p false [.d 8]),(7,.p false [.ptr 2 1 0]),(11,.p false [.d 7]),(6,.p false [.d 4]),(4,.p false [.nil]),(0,.p false [.own 0 0]),(1,.p false [.d 1])],[(0,.cur 0 true 66 9),(2,.var 1 39 [.d 10,.d 11,.d 12]),(1,.row 2 39 3 13)],3,3,14,[(7,true)]⟩,[]⟩,⟨3000003,3,⟨[(6,.p false [.d 4]),(5,.p false [.own 1 1]),(4,.p false [.nil]),(0,.p false [.own 0 0]),(1,.p false [.d 1])],[(0,.cur 0 true 66 5),(1,.row 1 39 3 6)],2,2,7,[]⟩,[]⟩]
def u_spec_l23Numbers_d : List (Nat × Nat × Bool × List Nat):=[]
def u_spec_l23Numbers_j0 : UP:=.po (.k (.int .i64 1)) <| .po (.bin .add false 9 0) <| .jump 0 [0,6,2]
def u_spec_l23Numbers_l1 : UP:=.po (.bin .lss false 2 5) <| .ite 0 (.sel [1,2,3] <| .join 6 u_spec_l23Numbers_j0 <| .po (.k (.int .i64 9)) <| .cl 2000051 [(false,[2]),(false,[0])] [(false,[none],true),(false,[some (66,0)],true)] <| .po (.k (.int .i64 2)) <| .po (.bin .sub false 2 0) <| .sel [0,2,5] <| .cl 44 [(false,[0])] [(true,[none,none,none],true)] <| .po (.k (.int .i64 0)) <| .po (.k (.int .i64 0)) <| .po (.k (.string ⟨#[]⟩)) <| .po (.k (.int .i64 12)) <| .sel [0,4,5,6,8,9] <| .cl 2000048 [(false,[4]),(false,[0])] [(false,[none],true),(false,[some (66,0)],true)] <| .ite 1 (.sel [0,1,7] <| .cl 2000052 [(false,[0])] [(true,[none,none,none],true),(false,[some (66,0)],true)] <| .po (.sc 3) <| .po (.sc 2) <| .po (.sc 1) <| .po (.mk 39 3 [[3,2,1]]) <| .po (.flat 0) <| .po (.app 39 3 32 7 0) <| .jump 1 [7,2,5,4,3,0]) <| .po (.sc 5) <| .po (.sc 4) <| .po (.sc 3) <| .po (.mk 39 3 [[5,4,3]]) <| .po (.flat 0) <| .po (.app 39 3 32 8 0) <| .jump 1 [3,2,7,6,5,0]) <| .ret [(false,[2]),(false,[1])]
def u_spec_l23Numbers_u : UP:=.po (.mk 39 3 []) <| .po (.k (.int .i64 0)) <| .loop [0,3,1] u_spec_l23Numbers_l1
theorem u_spec_l23Numbers_g : toUPcf Try.prog 21 Try.f21 owA u_spec_l23Numbers_h u_spec_l23Numbers_d 66 = some ([(false,1)],u_spec_l23Numbers_u):=by kernel_rfl
def u_spec_l23Rows_h : List Hint:=[]
def u_spec_l23Rows_d : List (Nat × Nat × Bool × List Nat):=[]
def u_spec_l23Rows_u : UP:=.po (.k (.int .i64 0)) <| .po (.k (.int .i64 0)) <| .po (.mm true 0 4) <| .po (.k (.int .i64 13)) <| .po (.mm false 0 1) <| .po (.sc 0) <| .ret [(false,[0])]
theorem u_spec_l23Rows_g : toUPf Try.prog 22 Try.f22 owA u_spec_l23Rows_h u_spec_l23Rows_d = some ([(true,3)],u_spec_l23Rows_u):=by kernel_rfl
end Go.Proofs.Ytpilbhbbdldpeaa

namespace Go.Proofs.Ytpilbhbbdldpeaa
open List (length_take length_drop length_append map_cons map_nil length_map length_cons length_nil length_set length_replicate)
open Go.RowKit
set_option maxRecDepth 100000
set_option maxHeartbeats 2000000 in
theorem l23Nums_e (l : List Int) (c : Cu) (n : Nat) (hn : n≤13) (hc : 0≤c.i) (hl : l.length≤1048576) : ∃ a : List It × Cu,(a.1.length = n∧0≤a.2.i) ∧
    MeetsC Try.prog 21 66 (encU8s l) c.cs [(false,[.sc (.int .i64 n)])] [(false,[encIts a.1],true)] a.2.cs:=by
  refine meetsC_ex Try.func21 u_spec_l23Numbers_g rfl (by intro a;simp) (by kernel_rfl) ?_;simp only [u_spec_l23Numbers_u]
  simp (disch:=first | omega | (simp only [length_take,length_drop,length_append,map_cons,map_nil,length_map,length_cons,length_nil,length_set,length_replicate];omega) | (simp only [length_cons,length_nil,Nat.zero_add,Nat.reduceAdd])) only [go_sem,↓reduceIte,Nat.reduceAdd,Int.reduceNeg,Int.reduceAdd,Int.reduceSub,Int.reduceMul,Int.reduceLT,Int.reduceLE,Int.reduceEq,Int.reduceToNat,Nat.reduceBEq,nat1,true_and]
  refine lp (fun s : Nat × Cu × List It=>[.sc (.int .i64 s.1),cvD 66 (encU8s l) s.2.1.cs,.sl 39 3 (s.2.2.map encIt)]) (fun s=>s.1≤n∧0≤s.2.1.i∧s.2.2.length = s.1) (fun s=>n - s.1) (0,c,[]) rfl ⟨Nat.zero_le _,hc,rfl⟩ ?_
  rintro ⟨i,c,cs⟩ ⟨g1,g2,g3⟩
  simp only at g1 g2 g3 ⊢
  simp only [u_spec_l23Numbers_l1]
  simp (disch:=first | omega | (simp only [length_take,length_drop,length_append,map_cons,map_nil,length_map,length_cons,length_nil,length_set,length_replicate];omega) | (simp only [length_cons,length_nil,Nat.zero_add,Nat.reduceAdd])) only [go_sem,↓reduceIte,Nat.reduceAdd,Int.reduceNeg,Int.reduceAdd,Int.reduceSub,Int.reduceMul,Int.reduceLT,Int.reduceLE,Int.reduceEq,Int.reduceToNat,Nat.reduceBEq,nat1,true_and]
  refine br_if (fun hbr=>?_) (fun hbr=>?_)
  · simp (disch:=first | omega | (simp only [length_take,length_drop,length_append,map_cons,map_nil,length_map,length_cons,length_nil,length_set,length_replicate];omega) | (simp only [length_cons,length_nil,Nat.zero_add,Nat.reduceAdd])) only [go_sem,↓reduceIte,Nat.reduceAdd,Int.reduceNeg,Int.reduceAdd,Int.reduceSub,Int.reduceMul,Int.reduceLT,Int.reduceLE,Int.reduceEq,Int.reduceToNat,Nat.reduceBEq,nat1,true_and]
    refine jn_in ?_
    simp (disch:=first | omega | (simp only [length_take,length_drop,length_append,map_cons,map_nil,length_map,length_cons,length_nil,length_set,length_replicate];omega) | (simp only [length_cons,length_nil,Nat.zero_add,Nat.reduceAdd])) only [go_sem,↓reduceIte,Nat.reduceAdd,Int.reduceNeg,Int.reduceAdd,Int.reduceSub,Int.reduceMul,Int.reduceLT,Int.reduceLE,Int.reduceEq,Int.reduceToNat,Nat.reduceBEq,nat1,true_and]
    obtain ⟨k,c1,hk,h1,hcb⟩:=bel_e l c 9 (by first | assumption | omega) (by omega) (by omega) (by omega);refine cl_okC hcb rfl ?_;clear hcb;simp (disch:=first | omega | (simp only [length_take,length_drop,length_append,map_cons,map_nil,length_map,length_cons,length_nil,length_set,length_replicate];omega) | (simp only [length_cons,length_nil,Nat.zero_add,Nat.reduceAdd])) only [go_sem,↓reduceIte,Nat.reduceAdd,Int.reduceNeg,Int.reduceAdd,Int.reduceSub,Int.reduceMul,Int.reduceLT,Int.reduceLE,Int.reduceEq,Int.reduceToNat,Nat.reduceBEq,nat1,true_and]
    refine cl_ok (mL2Num _) rfl ?_
    simp (disch:=first | omega | (simp only [length_take,length_drop,length_append,map_cons,map_nil,length_map,length_cons,length_nil,length_set,length_replicate];omega) | (simp only [length_cons,length_nil,Nat.zero_add,Nat.reduceAdd])) only [go_sem,↓reduceIte,Nat.reduceAdd,Int.reduceNeg,Int.reduceAdd,Int.reduceSub,Int.reduceMul,Int.reduceLT,Int.reduceLE,Int.reduceEq,Int.reduceToNat,Nat.reduceBEq,nat1,encIt]
    obtain ⟨b,c2,h2,hcb⟩:=onc_e l c1 12 (by first | assumption | omega) (by omega) (by omega);refine cl_okC hcb rfl ?_;clear hcb;simp (disch:=first | omega | (simp only [length_take,length_drop,length_append,map_cons,map_nil,length_map,length_cons,length_nil,length_set,length_replicate];omega) | (simp only [length_cons,length_nil,Nat.zero_add,Nat.reduceAdd])) only [go_sem,↓reduceIte,Nat.reduceAdd,Int.reduceNeg,Int.reduceAdd,Int.reduceSub,Int.reduceMul,Int.reduceLT,Int.reduceLE,Int.reduceEq,Int.reduceToNat,Nat.reduceBEq,nat1,true_and]
    have done : ∀ (y : It) (c3 : Cu),0≤c3.i→∃ a' : Nat × Cu × List It,[.sc (.int .i64 ((i + 1 : Nat) : Int)),cvD 66 (encU8s l) c3.cs,.sl 39 3 ((cs.map encIt) ++ [encIt y])] = [.sc (.int .i64 (a'.1 : Int)),cvD 66 (encU8s l) a'.2.1.cs,.sl 39 3 (a'.2.2.map encIt)]∧(a'.1≤n∧0≤a'.2.1.i∧a'.2.2.length = a'.1)∧n - a'.1 < n - i:=fun y c3 h3 =>
      ⟨(i + 1,c3,cs ++ [y]),by rw [List.map_append];rfl,⟨by simp only;omega,h3,by simp only [List.length_append,List.length_singleton,g3]⟩,by simp only;omega⟩
    cases b
    · simp (disch:=first | omega | (simp only [length_take,length_drop,length_append,map_cons,map_nil,length_map,length_cons,length_nil,length_set,length_replicate];omega) | (simp only [length_cons,length_nil,Nat.zero_add,Nat.reduceAdd])) only [go_sem,↓reduceIte,Nat.reduceAdd,Int.reduceNeg,Int.reduceAdd,Int.reduceSub,Int.reduceMul,Int.reduceLT,Int.reduceLE,Int.reduceEq,Int.reduceToNat,Nat.reduceBEq,nat1,fl1_3,u_spec_l23Numbers_j0,nat1]
      exact done _ _ h2
    · simp (disch:=first | omega | (simp only [length_take,length_drop,length_append,map_cons,map_nil,length_map,length_cons,length_nil,length_set,length_replicate];omega) | (simp only [length_cons,length_nil,Nat.zero_add,Nat.reduceAdd])) only [go_sem,↓reduceIte,Nat.reduceAdd,Int.reduceNeg,Int.reduceAdd,Int.reduceSub,Int.reduceMul,Int.reduceLT,Int.reduceLE,Int.reduceEq,Int.reduceToNat,Nat.reduceBEq,nat1,true_and]
      obtain ⟨⟨x,c3⟩,h3,hcb⟩:=l2Draw_e l c2 h2 hl
      refine cl_okC hcb rfl ?_
      simp (disch:=first | omega | (simp only [length_take,length_drop,length_append,map_cons,map_nil,length_map,length_cons,length_nil,length_set,length_replicate];omega) | (simp only [length_cons,length_nil,Nat.zero_add,Nat.reduceAdd])) only [go_sem,↓reduceIte,Nat.reduceAdd,Int.reduceNeg,Int.reduceAdd,Int.reduceSub,Int.reduceMul,Int.reduceLT,Int.reduceLE,Int.reduceEq,Int.reduceToNat,Nat.reduceBEq,nat1,encIt,fl1_3,u_spec_l23Numbers_j0,nat1]
      exact done x c3 h3
  · obtain rfl : i = n:=by omega
    simp (disch:=first | omega | (simp only [length_take,length_drop,length_append,map_cons,map_nil,length_map,length_cons,length_nil,length_set,length_replicate];omega) | (simp only [length_cons,length_nil,Nat.zero_add,Nat.reduceAdd])) only [go_sem,↓reduceIte,Nat.reduceAdd,Int.reduceNeg,Int.reduceAdd,Int.reduceSub,Int.reduceMul,Int.reduceLT,Int.reduceLE,Int.reduceEq,Int.reduceToNat,Nat.reduceBEq,nat1,true_and]
    exact ⟨(cs,c),⟨g3,g2⟩,_,_,rfl,rfl⟩
theorem l23Rows_m (m : Mt) : Meets Try.prog 22 [(true,encMt m)] [(false,[.sc (.int .i64 (min 13 (max 0 m.rows)))],true)]:=by
  refine meets_upf Try.func22 u_spec_l23Rows_g rfl ?_;simp only [u_spec_l23Rows_u]
  simp only [encMt,encIts]
  simp (disch:=first | omega | (simp only [length_take,length_drop,length_append,map_cons,map_nil,length_map,length_cons,length_nil,length_set,length_replicate];omega) | (simp only [length_cons,length_nil,Nat.zero_add,Nat.reduceAdd])) only [go_sem,↓reduceIte,Nat.reduceAdd,Int.reduceNeg,Int.reduceAdd,Int.reduceSub,Int.reduceMul,Int.reduceLT,Int.reduceLE,Int.reduceEq,Int.reduceToNat,Nat.reduceBEq,nat1,true_and]
  rfl
set_option maxHeartbeats 4000000 in
theorem l23Design_e (l : List Int) (c : Cu) (hc : 0≤c.i) (hl : l.length≤1048576) : ∃ a : Mt × Cu,0≤a.2.i∧MeetsC Try.prog 20 66 (encU8s l) c.cs [] [(true,encMt a.1,true)] a.2.cs:=by
  refine meetsC_ex Try.func20 u_spec_l23Design_g rfl (by intro a;simp) (by kernel_rfl) ?_;simp only [u_spec_l23Design_u]
  simp (disch:=first | omega | (simp only [length_take,length_drop,length_append,map_cons,map_nil,length_map,length_cons,length_nil,length_set,length_replicate];omega) | (simp only [length_cons,length_nil,Nat.zero_add,Nat.reduceAdd])) only [go_sem,↓reduceIte,Nat.reduceAdd,Int.reduceNeg,Int.reduceAdd,Int.reduceSub,Int.reduceMul,Int.reduceLT,Int.reduceLE,Int.reduceEq,Int.reduceToNat,Nat.reduceBEq,nat1,true_and]
  obtain ⟨b,c1,h1,hcb⟩:=onc_e l c 8 (by first | assumption | omega) (by omega) (by omega);refine cl_okC hcb rfl ?_;clear hcb;simp (disch:=first | omega | (simp only [length_take,length_drop,length_append,map_cons,map_nil,length_map,length_cons,length_nil,length_set,length_replicate];omega) | (simp only [length_cons,length_nil,Nat.zero_add,Nat.reduceAdd])) only [go_sem,↓reduceIte,Nat.reduceAdd,Int.reduceNeg,Int.reduceAdd,Int.reduceSub,Int.reduceMul,Int.reduceLT,Int.reduceLE,Int.reduceEq,Int.reduceToNat,Nat.reduceBEq,nat1,true_and]
  cases b
  · simp (disch:=first | omega | (simp only [length_take,length_drop,length_append,map_cons,map_nil,length_map,length_cons,length_nil,length_set,length_replicate];omega) | (simp only [length_cons,length_nil,Nat.zero_add,Nat.reduceAdd])) only [go_sem,↓reduceIte,Nat.reduceAdd,Int.reduceNeg,Int.reduceAdd,Int.reduceSub,Int.reduceMul,Int.reduceLT,Int.reduceLE,Int.reduceEq,Int.reduceToNat,Nat.reduceBEq,nat1,true_and]
    obtain ⟨n,c2,hn,h2,hcb⟩:=bel_e l c1 4 (by first | assumption | omega) (by omega) (by omega) (by omega);refine cl_okC hcb rfl ?_;clear hcb;simp (disch:=first | omega | (simp only [length_take,length_drop,length_append,map_cons,map_nil,length_map,length_cons,length_nil,length_set,length_replicate];omega) | (simp only [length_cons,length_nil,Nat.zero_add,Nat.reduceAdd])) only [go_sem,↓reduceIte,Nat.reduceAdd,Int.reduceNeg,Int.reduceAdd,Int.reduceSub,Int.reduceMul,Int.reduceLT,Int.reduceLE,Int.reduceEq,Int.reduceToNat,Nat.reduceBEq,nat1,true_and]
    obtain ⟨k,c3,hk,h3,hcb⟩:=bel_e l c2 3 (by first | assumption | omega) (by omega) (by omega) (by omega);refine cl_okC hcb rfl ?_;clear hcb;simp (disch:=first | omega | (simp only [length_take,length_drop,length_append,map_cons,map_nil,length_map,length_cons,length_nil,length_set,length_replicate];omega) | (simp only [length_cons,length_nil,Nat.zero_add,Nat.reduceAdd])) only [go_sem,↓reduceIte,Nat.reduceAdd,Int.reduceNeg,Int.reduceAdd,Int.reduceSub,Int.reduceMul,Int.reduceLT,Int.reduceLE,Int.reduceEq,Int.reduceToNat,Nat.reduceBEq,nat1,true_and]
    obtain ⟨R,rfl⟩:=Int.eq_ofNat_of_zero_le hn.1
    obtain ⟨K,rfl⟩:=Int.eq_ofNat_of_zero_le hk.1
    obtain ⟨⟨cs,c4⟩,⟨h4,h5⟩,hcb⟩:=l14Draw_e l c3 (2 + R) (1 + K) (by omega) (by omega) h3 hl
    simp only at h4 h5
    refine cl_okC (by simpa using hcb) rfl ?_
    clear hcb
    have hb : (2 + R) * (1 + K)≤5 * 3:=Nat.mul_le_mul (by omega) (by omega)
    simp (disch:=first | omega | (simp only [length_take,length_drop,length_append,map_cons,map_nil,length_map,length_cons,length_nil,length_set,length_replicate];omega) | (simp only [length_cons,length_nil,Nat.zero_add,Nat.reduceAdd])) only [go_sem,↓reduceIte,Nat.reduceAdd,Int.reduceNeg,Int.reduceAdd,Int.reduceSub,Int.reduceMul,Int.reduceLT,Int.reduceLE,Int.reduceEq,Int.reduceToNat,Nat.reduceBEq,nat1,encMt,encIts]
    refine lp (fun s : Nat × List It=>[.sc (.int .i64 s.1),.sl 39 3 (s.2.map encIt)]) (fun s=>s.1≤2 + R∧s.2.length = (2 + R) * (1 + K)) (fun s=>2 + R - s.1) (0,cs) rfl ⟨Nat.zero_le _,h4⟩ ?_
    rintro ⟨i,cs⟩ ⟨g1,g2⟩
    simp only at g1 g2 ⊢
    simp only [u_spec_l23Design_l0]
    simp (disch:=first | omega | (simp only [length_take,length_drop,length_append,map_cons,map_nil,length_map,length_cons,length_nil,length_set,length_replicate];omega) | (simp only [length_cons,length_nil,Nat.zero_add,Nat.reduceAdd])) only [go_sem,↓reduceIte,Nat.reduceAdd,Int.reduceNeg,Int.reduceAdd,Int.reduceSub,Int.reduceMul,Int.reduceLT,Int.reduceLE,Int.reduceEq,Int.reduceToNat,Nat.reduceBEq,nat1,true_and]
    refine br_if (fun hbr=>?_) (fun hbr=>?_)
    · have hi : i < 2 + R:=by omega
      have hil : i * (1 + K) + (1 + K)≤(2 + R) * (1 + K):=by rw [← Nat.succ_mul];exact Nat.mul_le_mul_right _ hi
      have hw : IntKind.i64.wrap ((i : Int) * ((1 : Int) + K)) = ((i * (1 + K) : Nat) : Int):=by
        have : (i : Int) * ((1 : Int) + K) = ((i * (1 + K) : Nat) : Int):=by push_cast;rfl
        rw [this,wrap_id (by omega) (by omega)]
      simp (disch:=first | omega | (simp only [length_take,length_drop,length_append,map_cons,map_nil,length_map,length_cons,length_nil,length_set,length_replicate];omega) | (simp only [length_cons,length_nil,Nat.zero_add,Nat.reduceAdd])) only [go_sem,↓reduceIte,Nat.reduceAdd,Int.reduceNeg,Int.reduceAdd,Int.reduceSub,Int.reduceMul,Int.reduceLT,Int.reduceLE,Int.reduceEq,Int.reduceToNat,Nat.reduceBEq,nat1,hw]
      refine cl_ok (mL2Num 1) rfl ?_
      simp (disch:=first | omega | (simp only [length_take,length_drop,length_append,map_cons,map_nil,length_map,length_cons,length_nil,length_set,length_replicate];omega) | (simp only [length_cons,length_nil,Nat.zero_add,Nat.reduceAdd])) only [go_sem,↓reduceIte,Nat.reduceAdd,Int.reduceNeg,Int.reduceAdd,Int.reduceSub,Int.reduceMul,Int.reduceLT,Int.reduceLE,Int.reduceEq,Int.reduceToNat,Nat.reduceBEq,nat1,encIt,st_it,ix_it,nat1]
      exact ⟨(i + 1,cs.set (i * (1 + K)) (l2N 1)),by simp only [List.map_set];rfl,⟨by simp only;omega,by simp only [List.length_set];exact g2⟩,by simp only;omega⟩
    · simp (disch:=first | omega | (simp only [length_take,length_drop,length_append,map_cons,map_nil,length_map,length_cons,length_nil,length_set,length_replicate];omega) | (simp only [length_cons,length_nil,Nat.zero_add,Nat.reduceAdd])) only [go_sem,↓reduceIte,Nat.reduceAdd,Int.reduceNeg,Int.reduceAdd,Int.reduceSub,Int.reduceMul,Int.reduceLT,Int.reduceLE,Int.reduceEq,Int.reduceToNat,Nat.reduceBEq,nat1,true_and]
      exact ⟨(⟨_,_,cs⟩,c4),h5,_,_,rfl,rfl⟩
  · simp (disch:=first | omega | (simp only [length_take,length_drop,length_append,map_cons,map_nil,length_map,length_cons,length_nil,length_set,length_replicate];omega) | (simp only [length_cons,length_nil,Nat.zero_add,Nat.reduceAdd])) only [go_sem,↓reduceIte,Nat.reduceAdd,Int.reduceNeg,Int.reduceAdd,Int.reduceSub,Int.reduceMul,Int.reduceLT,Int.reduceLE,Int.reduceEq,Int.reduceToNat,Nat.reduceBEq,nat1,true_and]
    obtain ⟨⟨m,c2⟩,⟨h2,h3⟩,hcb⟩:=l14Any_e l c1 h1 hl
    refine cl_okC hcb rfl ?_
    simp (disch:=first | omega | (simp only [length_take,length_drop,length_append,map_cons,map_nil,length_map,length_cons,length_nil,length_set,length_replicate];omega) | (simp only [length_cons,length_nil,Nat.zero_add,Nat.reduceAdd])) only [go_sem,↓reduceIte,Nat.reduceAdd,Int.reduceNeg,Int.reduceAdd,Int.reduceSub,Int.reduceMul,Int.reduceLT,Int.reduceLE,Int.reduceEq,Int.reduceToNat,Nat.reduceBEq,nat1,encMt,encIts]
    exact ⟨(m,c2),h3,_,_,rfl,rfl⟩
theorem drawFit_e (l : List Int) (hl : l.length≤1048576) : ∃ a : Mt × List It,a.2.length≤13∧Meets Try.prog 5 [(false,[encU8s l])] [(true,encMt a.1,true),(false,[encIts a.2],true)]:=by
  refine meets_ex Try.func5 u_spec_DrawFitMatrix_g rfl (by kernel_rfl) ?_;simp only [u_spec_DrawFitMatrix_u]
  simp (disch:=first | omega | (simp only [length_take,length_drop,length_append,map_cons,map_nil,length_map,length_cons,length_nil,length_set,length_replicate];omega) | (simp only [length_cons,length_nil,Nat.zero_add,Nat.reduceAdd])) only [go_sem,↓reduceIte,Nat.reduceAdd,Int.reduceNeg,Int.reduceAdd,Int.reduceSub,Int.reduceMul,Int.reduceLT,Int.reduceLE,Int.reduceEq,Int.reduceToNat,Nat.reduceBEq,nat1,true_and]
  obtain ⟨c,hc,hcb⟩:=new_e l hl
  refine cl_okN hcb rfl ?_
  clear hcb
  simp (disch:=first | omega | (simp only [length_take,length_drop,length_append,map_cons,map_nil,length_map,length_cons,length_nil,length_set,length_replicate];omega) | (simp only [length_cons,length_nil,Nat.zero_add,Nat.reduceAdd])) only [go_sem,↓reduceIte,Nat.reduceAdd,Int.reduceNeg,Int.reduceAdd,Int.reduceSub,Int.reduceMul,Int.reduceLT,Int.reduceLE,Int.reduceEq,Int.reduceToNat,Nat.reduceBEq,nat1,true_and]
  obtain ⟨⟨m,c1⟩,h1,hcb⟩:=l23Design_e l c hc hl
  simp only at h1 hcb
  refine cl_okC hcb rfl ?_
  clear hcb
  have hr:=l23Rows_m m
  simp (disch:=first | omega | (simp only [length_take,length_drop,length_append,map_cons,map_nil,length_map,length_cons,length_nil,length_set,length_replicate];omega) | (simp only [length_cons,length_nil,Nat.zero_add,Nat.reduceAdd])) only [go_sem,↓reduceIte,Nat.reduceAdd,Int.reduceNeg,Int.reduceAdd,Int.reduceSub,Int.reduceMul,Int.reduceLT,Int.reduceLE,Int.reduceEq,Int.reduceToNat,Nat.reduceBEq,nat1,encMt,encIts]
  simp only [encMt,encIts] at hr
  refine cl_ok hr rfl ?_
  simp (disch:=first | omega | (simp only [length_take,length_drop,length_append,map_cons,map_nil,length_map,length_cons,length_nil,length_set,length_replicate];omega) | (simp only [length_cons,length_nil,Nat.zero_add,Nat.reduceAdd])) only [go_sem,↓reduceIte,Nat.reduceAdd,Int.reduceNeg,Int.reduceAdd,Int.reduceSub,Int.reduceMul,Int.reduceLT,Int.reduceLE,Int.reduceEq,Int.reduceToNat,Nat.reduceBEq,nat1,true_and]
  rw [show min (13 : Int) (max (0 : Int) m.rows) = ((min 13 (max 0 m.rows)).toNat : Int) by omega]
  obtain ⟨⟨cs,c2⟩,⟨h2,h3⟩,hcb⟩:=l23Nums_e l c1 (min 13 (max 0 m.rows)).toNat (by omega) h1 hl
  refine cl_okC hcb rfl ?_
  simp (disch:=first | omega | (simp only [length_take,length_drop,length_append,map_cons,map_nil,length_map,length_cons,length_nil,length_set,length_replicate];omega) | (simp only [length_cons,length_nil,Nat.zero_add,Nat.reduceAdd])) only [go_sem,↓reduceIte,Nat.reduceAdd,Int.reduceNeg,Int.reduceAdd,Int.reduceSub,Int.reduceMul,Int.reduceLT,Int.reduceLE,Int.reduceEq,Int.reduceToNat,Nat.reduceBEq,nat1,encIts]
  exact ⟨(m,cs),by simp only at h2 ⊢;omega,rfl⟩
end Go.Proofs.Ytpilbhbbdldpeaa

namespace Go.Proofs.Ytpilbhbbdldpeaa
open List (length_take length_drop length_append map_cons map_nil length_map length_cons length_nil length_set length_replicate)
open Go.RowKit
set_option maxRecDepth 100000
def cfI (n k : Nat) : Int:=((n * (k + 3) + k : Nat) : Int).tmod 7 - 3
def cfL (n k : Nat) : List It:=(List.range k).map fun j=>l2N (cfI n j)
theorem cfL_succ (n k : Nat) : cfL n (k + 1) = cfL n k ++ [l2N (cfI n k)]:=by simp [cfL,List.range_succ]
theorem cfL_len (n k : Nat) : (cfL n k).length = k:=by simp [cfL]
set_option maxHeartbeats 8000000 in
theorem lawLeastSquares_m (a0 : List Int) (h0 : a0.length≤9223372036854775807) : Meets Try.prog 3 [(false,[encU8s a0])] [(false,[.sc (.bool true)],true)]:=by
  have hb:=big_m a0 h0
  by_cases hbig : 1048576 < a0.length
  · rw [decide_eq_true hbig] at hb
    refine meets_upf Try.func3 u_laws_FnLeastSquares_g rfl ?_;simp only [u_laws_FnLeastSquares_u]
    simp only [encU8s] at hb ⊢
    repeat' (first | (with_reducible first | refine jn_in ?_ | refine cl_ok (by assumption) rfl ?_ | refine cl_okP (by assumption) rfl ?_ | refine br_if (fun hbr=>?_) fun hbr=>?_ | refine br_ifn (fun hbr=>?_) fun hbr=>?_ | refine br_nb (fun hbr=>?_) fun hbr=>?_ | refine br_b (fun hbr=>?_) fun hbr=>?_) | simp (disch:=first | omega | (simp only [length_take,length_drop,length_append,map_cons,map_nil,length_map,length_cons,length_nil,length_set,length_replicate];omega) | (simp only [length_cons,length_nil,Nat.zero_add,Nat.reduceAdd])) only [go_sem,↓reduceIte,Nat.reduceAdd,Int.reduceNeg,Int.reduceAdd,Int.reduceSub,Int.reduceMul,Int.reduceLT,Int.reduceLE,Int.reduceEq,Int.reduceToNat,Nat.reduceBEq,nat1,true_and])
    all_goals rfl
  rw [decide_eq_false hbig] at hb
  obtain ⟨⟨x,y⟩,hyl,hd⟩:=drawFit_e a0 (by omega)
  simp only at hyl hd
  have h1:=implFit_m x y (by omega)
  have h2:=specFit_m x y (by omega)
  have h3:=sameIts_m 39 (fitR x y) (fitR x y) (by have:=fitR_len x y;omega)
  rw [decide_eq_true rfl] at h3
  cases hfo : fitO x y with
  | none =>
    rw [hfo] at h1 h2
    refine meets_upf Try.func3 u_laws_FnLeastSquares_g rfl ?_;simp only [u_laws_FnLeastSquares_u]
    simp only [encU8s,encMt,encIts,Option.isSome_none] at hb hd h1 h2 h3 ⊢
    repeat' (first | (with_reducible first | refine jn_in ?_ | refine cl_ok (by assumption) rfl ?_ | refine cl_okP (by assumption) rfl ?_ | refine br_if (fun hbr=>?_) fun hbr=>?_ | refine br_ifn (fun hbr=>?_) fun hbr=>?_ | refine br_nb (fun hbr=>?_) fun hbr=>?_ | refine br_b (fun hbr=>?_) fun hbr=>?_) | simp (disch:=first | omega | (simp only [length_take,length_drop,length_append,map_cons,map_nil,length_map,length_cons,length_nil,length_set,length_replicate];omega) | (simp only [length_cons,length_nil,Nat.zero_add,Nat.reduceAdd])) only [go_sem,↓reduceIte,Nat.reduceAdd,Int.reduceNeg,Int.reduceAdd,Int.reduceSub,Int.reduceMul,Int.reduceLT,Int.reduceLE,Int.reduceEq,Int.reduceToNat,Nat.reduceBEq,nat1,u_laws_FnLeastSquares_j4])
    all_goals rfl
  | some b =>
    have hfr : fitR x y = b:=by unfold fitR;rw [hfo];rfl
    rw [hfo,hfr] at h1 h2
    rw [hfr] at h3
    obtain ⟨n,c,l,hx,-,-,-,-,hbl,-,hc12,-⟩:=fit_norm hfo
    have hxc : x.cols = (c : Int):=by rw [hx]
    have h4:=implPred_m x b (by omega)
    have h5:=specTurn_m x
    have h6:=less_m y (prL x b) (by omega)
    have hll:=lessL_len y (prL x b) (min y.length (prL x b).length)
    have h7:=column_m (lessL y (prL x b) (min y.length (prL x b).length)) (by omega)
    have h8:=specMul_m (turnM x) ⟨(lessL y (prL x b) (min y.length (prL x b).length)).length,1,lessL y (prL x b) (min y.length (prL x b).length)⟩
    have h9:=implChk_m x y b (by omega) (by omega)
    have hml:=mulM_len (turnM x) ⟨(lessL y (prL x b) (min y.length (prL x b).length)).length,1,lessL y (prL x b) (min y.length (prL x b).length)⟩
    have F1 : prB x b = true→mulB (turnM x) ⟨(lessL y (prL x b) (min y.length (prL x b).length)).length,1,lessL y (prL x b) (min y.length (prL x b).length)⟩ = true →
        chkB x y b = true∧zeroB (mulM (turnM x) ⟨(lessL y (prL x b) (min y.length (prL x b).length)).length,1,lessL y (prL x b) (min y.length (prL x b).length)⟩).cells = true:=by
      intro g1 g2
      have hyz : y.length = (prL x b).length:=by
        obtain ⟨n,c,l,rfl,-,-,hy,-⟩:=fit_norm hfo
        rw [(pred_val g1).1,hy]
      have em : min y.length (prL x b).length = y.length:=by omega
      rw [em] at g2 ⊢
      obtain ⟨f1,f2⟩:=fit_orth hfo g1 g2
      refine ⟨?_,f1⟩
      unfold chkB
      rw [g1,decide_eq_true f2,f1]
      simp only [Bool.true_and,Bool.and_true]
      exact g2
    have F2 : prB x b = true→∀ e,prB x e = true→cmpI (sqS (lessL y (prL x b) (min y.length (prL x b).length))) (sqS (lessL y (prL x e) (min y.length (prL x e).length))) ≠ 1:=by
      intro g1 e g2
      obtain ⟨n,c,l,rfl,-,-,hy,-⟩:=fit_norm hfo
      have z1:=(pred_val g1).1
      have z2:=(pred_val g2).1
      have:=fit_least hfo g1 g2
      rw [hy] at this
      rwa [z1,z2,hy,Nat.min_self]
    generalize prL x b = z at *
    generalize hDD : lessL y z (min y.length z.length) = D at *
    generalize mulB (turnM x) ⟨D.length,1,D⟩ = tb at *
    generalize mulM (turnM x) ⟨D.length,1,D⟩ = T at *
    generalize chkB x y b = cb at *
    generalize turnM x = U at *
    have hss:=implSS_m D (by omega)
    refine meets_upf Try.func3 u_laws_FnLeastSquares_g rfl ?_;simp only [u_laws_FnLeastSquares_u]
    simp only [encU8s,encMt,encIts,encIt,Option.isSome_some] at hb hd h1 h2 h3 h4 h5 h6 h7 h8 h9 hss ⊢
    simp (disch:=first | omega | (simp only [length_take,length_drop,length_append,map_cons,map_nil,length_map,length_cons,length_nil,length_set,length_replicate];omega) | (simp only [length_cons,length_nil,Nat.zero_add,Nat.reduceAdd])) only [go_sem,↓reduceIte,Nat.reduceAdd,Int.reduceNeg,Int.reduceAdd,Int.reduceSub,Int.reduceMul,Int.reduceLT,Int.reduceLE,Int.reduceEq,Int.reduceToNat,Nat.reduceBEq,nat1,true_and]
    refine cl_ok hb rfl ?_
    simp (disch:=first | omega | (simp only [length_take,length_drop,length_append,map_cons,map_nil,length_map,length_cons,length_nil,length_set,length_replicate];omega) | (simp only [length_cons,length_nil,Nat.zero_add,Nat.reduceAdd])) only [go_sem,↓reduceIte,Nat.reduceAdd,Int.reduceNeg,Int.reduceAdd,Int.reduceSub,Int.reduceMul,Int.reduceLT,Int.reduceLE,Int.reduceEq,Int.reduceToNat,Nat.reduceBEq,nat1,true_and]
    refine cl_ok hd rfl ?_
    simp (disch:=first | omega | (simp only [length_take,length_drop,length_append,map_cons,map_nil,length_map,length_cons,length_nil,length_set,length_replicate];omega) | (simp only [length_cons,length_nil,Nat.zero_add,Nat.reduceAdd])) only [go_sem,↓reduceIte,Nat.reduceAdd,Int.reduceNeg,Int.reduceAdd,Int.reduceSub,Int.reduceMul,Int.reduceLT,Int.reduceLE,Int.reduceEq,Int.reduceToNat,Nat.reduceBEq,nat1,true_and]
    refine cl_ok h1 rfl ?_
    simp (disch:=first | omega | (simp only [length_take,length_drop,length_append,map_cons,map_nil,length_map,length_cons,length_nil,length_set,length_replicate];omega) | (simp only [length_cons,length_nil,Nat.zero_add,Nat.reduceAdd])) only [go_sem,↓reduceIte,Nat.reduceAdd,Int.reduceNeg,Int.reduceAdd,Int.reduceSub,Int.reduceMul,Int.reduceLT,Int.reduceLE,Int.reduceEq,Int.reduceToNat,Nat.reduceBEq,nat1,true_and]
    refine cl_ok h2 rfl ?_
    simp (disch:=first | omega | (simp only [length_take,length_drop,length_append,map_cons,map_nil,length_map,length_cons,length_nil,length_set,length_replicate];omega) | (simp only [length_cons,length_nil,Nat.zero_add,Nat.reduceAdd])) only [go_sem,↓reduceIte,Nat.reduceAdd,Int.reduceNeg,Int.reduceAdd,Int.reduceSub,Int.reduceMul,Int.reduceLT,Int.reduceLE,Int.reduceEq,Int.reduceToNat,Nat.reduceBEq,nat1,true_and]
    refine jn_eq [.sc (.bool false)] ?_ ?_
    · repeat' (first | (with_reducible first | refine jn_in ?_ | refine cl_ok (by assumption) rfl ?_ | refine cl_okP (by assumption) rfl ?_ | refine br_if (fun hbr=>?_) fun hbr=>?_ | refine br_ifn (fun hbr=>?_) fun hbr=>?_ | refine br_nb (fun hbr=>?_) fun hbr=>?_ | refine br_b (fun hbr=>?_) fun hbr=>?_) | simp (disch:=first | omega | (simp only [length_take,length_drop,length_append,map_cons,map_nil,length_map,length_cons,length_nil,length_set,length_replicate];omega) | (simp only [length_cons,length_nil,Nat.zero_add,Nat.reduceAdd])) only [go_sem,↓reduceIte,Nat.reduceAdd,Int.reduceNeg,Int.reduceAdd,Int.reduceSub,Int.reduceMul,Int.reduceLT,Int.reduceLE,Int.reduceEq,Int.reduceToNat,Nat.reduceBEq,nat1,true_and])
    simp only [u_laws_FnLeastSquares_j4]
    simp (disch:=first | omega | (simp only [length_take,length_drop,length_append,map_cons,map_nil,length_map,length_cons,length_nil,length_set,length_replicate];omega) | (simp only [length_cons,length_nil,Nat.zero_add,Nat.reduceAdd])) only [go_sem,↓reduceIte,Nat.reduceAdd,Int.reduceNeg,Int.reduceAdd,Int.reduceSub,Int.reduceMul,Int.reduceLT,Int.reduceLE,Int.reduceEq,Int.reduceToNat,Nat.reduceBEq,nat1,true_and]
    refine cl_ok h4 rfl ?_
    simp (disch:=first | omega | (simp only [length_take,length_drop,length_append,map_cons,map_nil,length_map,length_cons,length_nil,length_set,length_replicate];omega) | (simp only [length_cons,length_nil,Nat.zero_add,Nat.reduceAdd])) only [go_sem,↓reduceIte,Nat.reduceAdd,Int.reduceNeg,Int.reduceAdd,Int.reduceSub,Int.reduceMul,Int.reduceLT,Int.reduceLE,Int.reduceEq,Int.reduceToNat,Nat.reduceBEq,nat1,true_and]
    refine cl_ok h5 rfl ?_
    simp (disch:=first | omega | (simp only [length_take,length_drop,length_append,map_cons,map_nil,length_map,length_cons,length_nil,length_set,length_replicate];omega) | (simp only [length_cons,length_nil,Nat.zero_add,Nat.reduceAdd])) only [go_sem,↓reduceIte,Nat.reduceAdd,Int.reduceNeg,Int.reduceAdd,Int.reduceSub,Int.reduceMul,Int.reduceLT,Int.reduceLE,Int.reduceEq,Int.reduceToNat,Nat.reduceBEq,nat1,true_and]
    refine cl_ok h6 rfl ?_
    simp (disch:=first | omega | (simp only [length_take,length_drop,length_append,map_cons,map_nil,length_map,length_cons,length_nil,length_set,length_replicate];omega) | (simp only [length_cons,length_nil,Nat.zero_add,Nat.reduceAdd])) only [go_sem,↓reduceIte,Nat.reduceAdd,Int.reduceNeg,Int.reduceAdd,Int.reduceSub,Int.reduceMul,Int.reduceLT,Int.reduceLE,Int.reduceEq,Int.reduceToNat,Nat.reduceBEq,nat1,true_and]
    refine cl_ok h7 rfl ?_
    simp (disch:=first | omega | (simp only [length_take,length_drop,length_append,map_cons,map_nil,length_map,length_cons,length_nil,length_set,length_replicate];omega) | (simp only [length_cons,length_nil,Nat.zero_add,Nat.reduceAdd])) only [go_sem,↓reduceIte,Nat.reduceAdd,Int.reduceNeg,Int.reduceAdd,Int.reduceSub,Int.reduceMul,Int.reduceLT,Int.reduceLE,Int.reduceEq,Int.reduceToNat,Nat.reduceBEq,nat1,true_and]
    refine cl_ok h8 rfl ?_
    simp (disch:=first | omega | (simp only [length_take,length_drop,length_append,map_cons,map_nil,length_map,length_cons,length_nil,length_set,length_replicate];omega) | (simp only [length_cons,length_nil,Nat.zero_add,Nat.reduceAdd])) only [go_sem,↓reduceIte,Nat.reduceAdd,Int.reduceNeg,Int.reduceAdd,Int.reduceSub,Int.reduceMul,Int.reduceLT,Int.reduceLE,Int.reduceEq,Int.reduceToNat,Nat.reduceBEq,nat1,true_and]
    refine jn_eq [.sc (.bool false)] ?_ ?_
    · cases hpb : prB x b
      · repeat' (first | (with_reducible first | refine jn_in ?_ | refine cl_ok (by assumption) rfl ?_ | refine cl_okP (by assumption) rfl ?_ | refine br_if (fun hbr=>?_) fun hbr=>?_ | refine br_ifn (fun hbr=>?_) fun hbr=>?_ | refine br_nb (fun hbr=>?_) fun hbr=>?_ | refine br_b (fun hbr=>?_) fun hbr=>?_) | simp (disch:=first | omega | (simp only [length_take,length_drop,length_append,map_cons,map_nil,length_map,length_cons,length_nil,length_set,length_replicate];omega) | (simp only [length_cons,length_nil,Nat.zero_add,Nat.reduceAdd])) only [go_sem,↓reduceIte,Nat.reduceAdd,Int.reduceNeg,Int.reduceAdd,Int.reduceSub,Int.reduceMul,Int.reduceLT,Int.reduceLE,Int.reduceEq,Int.reduceToNat,Nat.reduceBEq,nat1,true_and])
      · cases tb
        · repeat' (first | (with_reducible first | refine jn_in ?_ | refine cl_ok (by assumption) rfl ?_ | refine cl_okP (by assumption) rfl ?_ | refine br_if (fun hbr=>?_) fun hbr=>?_ | refine br_ifn (fun hbr=>?_) fun hbr=>?_ | refine br_nb (fun hbr=>?_) fun hbr=>?_ | refine br_b (fun hbr=>?_) fun hbr=>?_) | simp (disch:=first | omega | (simp only [length_take,length_drop,length_append,map_cons,map_nil,length_map,length_cons,length_nil,length_set,length_replicate];omega) | (simp only [length_cons,length_nil,Nat.zero_add,Nat.reduceAdd])) only [go_sem,↓reduceIte,Nat.reduceAdd,Int.reduceNeg,Int.reduceAdd,Int.reduceSub,Int.reduceMul,Int.reduceLT,Int.reduceLE,Int.reduceEq,Int.reduceToNat,Nat.reduceBEq,nat1,true_and])
        · rw [(F1 hpb rfl).1] at h9
          repeat' (first | (with_reducible first | refine jn_in ?_ | refine cl_ok (by assumption) rfl ?_ | refine cl_okP (by assumption) rfl ?_ | refine br_if (fun hbr=>?_) fun hbr=>?_ | refine br_ifn (fun hbr=>?_) fun hbr=>?_ | refine br_nb (fun hbr=>?_) fun hbr=>?_ | refine br_b (fun hbr=>?_) fun hbr=>?_) | simp (disch:=first | omega | (simp only [length_take,length_drop,length_append,map_cons,map_nil,length_map,length_cons,length_nil,length_set,length_replicate];omega) | (simp only [length_cons,length_nil,Nat.zero_add,Nat.reduceAdd])) only [go_sem,↓reduceIte,Nat.reduceAdd,Int.reduceNeg,Int.reduceAdd,Int.reduceSub,Int.reduceMul,Int.reduceLT,Int.reduceLE,Int.reduceEq,Int.reduceToNat,Nat.reduceBEq,nat1,true_and])
    simp only [u_laws_FnLeastSquares_j3]
    simp (disch:=first | omega | (simp only [length_take,length_drop,length_append,map_cons,map_nil,length_map,length_cons,length_nil,length_set,length_replicate];omega) | (simp only [length_cons,length_nil,Nat.zero_add,Nat.reduceAdd])) only [go_sem,↓reduceIte,Nat.reduceAdd,Int.reduceNeg,Int.reduceAdd,Int.reduceSub,Int.reduceMul,Int.reduceLT,Int.reduceLE,Int.reduceEq,Int.reduceToNat,Nat.reduceBEq,nat1,true_and]
    refine jn (fun vs=>∃ p1 p2,vs = [p1,p2]) ?_ ?_
    · simp (disch:=first | omega | (simp only [length_take,length_drop,length_append,map_cons,map_nil,length_map,length_cons,length_nil,length_set,length_replicate];omega) | (simp only [length_cons,length_nil,Nat.zero_add,Nat.reduceAdd])) only [go_sem,↓reduceIte,Nat.reduceAdd,Int.reduceNeg,Int.reduceAdd,Int.reduceSub,Int.reduceMul,Int.reduceLT,Int.reduceLE,Int.reduceEq,Int.reduceToNat,Nat.reduceBEq,nat1,true_and]
      refine lp (fun i : Nat=>[.sc (.int .i64 i)]) (fun i=>i≤T.cells.length) (fun i=>T.cells.length - i) 0 rfl (Nat.zero_le _) ?_
      intro i hi
      simp only [u_laws_FnLeastSquares_l0]
      cases hpb : prB x b
      · repeat' (first | (with_reducible first | refine jn_in ?_ | refine cl_ok (by assumption) rfl ?_ | refine cl_okP (by assumption) rfl ?_ | refine br_if (fun hbr=>?_) fun hbr=>?_ | refine br_ifn (fun hbr=>?_) fun hbr=>?_ | refine br_nb (fun hbr=>?_) fun hbr=>?_ | refine br_b (fun hbr=>?_) fun hbr=>?_) | simp (disch:=first | omega | (simp only [length_take,length_drop,length_append,map_cons,map_nil,length_map,length_cons,length_nil,length_set,length_replicate];omega) | (simp only [length_cons,length_nil,Nat.zero_add,Nat.reduceAdd])) only [go_sem,↓reduceIte,Nat.reduceAdd,Int.reduceNeg,Int.reduceAdd,Int.reduceSub,Int.reduceMul,Int.reduceLT,Int.reduceLE,Int.reduceEq,Int.reduceToNat,Nat.reduceBEq,nat1,true_and])
        exact ⟨_,_,rfl⟩
      · cases htb : tb
        · repeat' (first | (with_reducible first | refine jn_in ?_ | refine cl_ok (by assumption) rfl ?_ | refine cl_okP (by assumption) rfl ?_ | refine br_if (fun hbr=>?_) fun hbr=>?_ | refine br_ifn (fun hbr=>?_) fun hbr=>?_ | refine br_nb (fun hbr=>?_) fun hbr=>?_ | refine br_b (fun hbr=>?_) fun hbr=>?_) | simp (disch:=first | omega | (simp only [length_take,length_drop,length_append,map_cons,map_nil,length_map,length_cons,length_nil,length_set,length_replicate];omega) | (simp only [length_cons,length_nil,Nat.zero_add,Nat.reduceAdd])) only [go_sem,↓reduceIte,Nat.reduceAdd,Int.reduceNeg,Int.reduceAdd,Int.reduceSub,Int.reduceMul,Int.reduceLT,Int.reduceLE,Int.reduceEq,Int.reduceToNat,Nat.reduceBEq,nat1,true_and])
          exact ⟨_,_,rfl⟩
        · by_cases hlt : i < T.cells.length
          · have hz:=(F1 hpb htb).2
            have hzi : (T.cells.getD i default).num = 0:=by
              unfold zeroB at hz
              rw [List.all_eq_true] at hz
              have:=hz _ (List.getElem_mem hlt)
              rw [List.getD_eq_getElem?_getD,List.getElem?_eq_getElem hlt]
              simpa using this
            repeat' (first | (with_reducible first | refine jn_in ?_ | refine cl_ok (by assumption) rfl ?_ | refine cl_okP (by assumption) rfl ?_ | refine br_if (fun hbr=>?_) fun hbr=>?_ | refine br_ifn (fun hbr=>?_) fun hbr=>?_ | refine br_nb (fun hbr=>?_) fun hbr=>?_ | refine br_b (fun hbr=>?_) fun hbr=>?_) | simp (disch:=first | omega | (simp only [length_take,length_drop,length_append,map_cons,map_nil,length_map,length_cons,length_nil,length_set,length_replicate];omega) | (simp only [length_cons,length_nil,Nat.zero_add,Nat.reduceAdd])) only [go_sem,↓reduceIte,Nat.reduceAdd,Int.reduceNeg,Int.reduceAdd,Int.reduceSub,Int.reduceMul,Int.reduceLT,Int.reduceLE,Int.reduceEq,Int.reduceToNat,Nat.reduceBEq,nat1,ix_it,encIt,hzi,nat1])
            all_goals first | omega | contradiction | exact ⟨i + 1,rfl,by omega,by omega⟩
          · obtain rfl : i = T.cells.length:=by omega
            repeat' (first | (with_reducible first | refine jn_in ?_ | refine cl_ok (by assumption) rfl ?_ | refine cl_okP (by assumption) rfl ?_ | refine br_if (fun hbr=>?_) fun hbr=>?_ | refine br_ifn (fun hbr=>?_) fun hbr=>?_ | refine br_nb (fun hbr=>?_) fun hbr=>?_ | refine br_b (fun hbr=>?_) fun hbr=>?_) | simp (disch:=first | omega | (simp only [length_take,length_drop,length_append,map_cons,map_nil,length_map,length_cons,length_nil,length_set,length_replicate];omega) | (simp only [length_cons,length_nil,Nat.zero_add,Nat.reduceAdd])) only [go_sem,↓reduceIte,Nat.reduceAdd,Int.reduceNeg,Int.reduceAdd,Int.reduceSub,Int.reduceMul,Int.reduceLT,Int.reduceLE,Int.reduceEq,Int.reduceToNat,Nat.reduceBEq,nat1,true_and])
            all_goals first | omega | exact ⟨_,_,rfl⟩
    rintro vs - ⟨p1,p2,rfl⟩
    simp only [u_laws_FnLeastSquares_j2]
    simp (disch:=first | omega | (simp only [length_take,length_drop,length_append,map_cons,map_nil,length_map,length_cons,length_nil,length_set,length_replicate];omega) | (simp only [length_cons,length_nil,Nat.zero_add,Nat.reduceAdd])) only [go_sem,↓reduceIte,Nat.reduceAdd,Int.reduceNeg,Int.reduceAdd,Int.reduceSub,Int.reduceMul,Int.reduceLT,Int.reduceLE,Int.reduceEq,Int.reduceToNat,Nat.reduceBEq,nat1,true_and]
    refine lp_n c (fun k=>[.sc (.int .i64 k),.sl 39 3 ((cfL a0.length k).map encIt)]) rfl fun k hk=>?_
    have hcl:=cfL_len a0.length k
    simp only [u_laws_FnLeastSquares_l1]
    by_cases hlt : k < c
    · have hn:=numI_m (cfI a0.length k)
      have e:=cfL_succ a0.length k
      have hm : a0.length * (k + 3)≤1048576 * 15:=Nat.mul_le_mul (by omega) (by omega)
      have w1 : IntKind.i64.wrap ((a0.length : Int) * ((k : Int) + 3)) = ((a0.length * (k + 3) : Nat) : Int):=by
        have : (a0.length : Int) * ((k : Int) + 3) = ((a0.length * (k + 3) : Nat) : Int):=by push_cast;rfl
        rw [this,wrap_id (by omega) (by omega)]
      rw [e,List.map_append]
      have e3 : cfI a0.length k = ((a0.length * (k + 3) : Nat) + (k : Int)).tmod 7 - 3:=by unfold cfI;push_cast;rfl
      have b1 : -6≤(((a0.length * (k + 3) : Nat) : Int) + k).tmod 7∧(((a0.length * (k + 3) : Nat) : Int) + k).tmod 7≤6:=by
        have g1:=Int.tmod_lt_of_pos (((a0.length * (k + 3) : Nat) : Int) + k) (show (0 : Int) < 7 by omega)
        have g2:=Int.tmod_nonneg (7 : Int) (show (0 : Int)≤((a0.length * (k + 3) : Nat) : Int) + k by omega)
        omega
      generalize cfI a0.length k = z3 at *
      generalize a0.length * (k + 3) = q at *
      simp only [encIt] at hn
      simp (disch:=first | omega | (simp only [length_take,length_drop,length_append,map_cons,map_nil,length_map,length_cons,length_nil,length_set,length_replicate];omega) | (simp only [length_cons,length_nil,Nat.zero_add,Nat.reduceAdd])) only [go_sem,↓reduceIte,Nat.reduceAdd,Int.reduceNeg,Int.reduceAdd,Int.reduceSub,Int.reduceMul,Int.reduceLT,Int.reduceLE,Int.reduceEq,Int.reduceToNat,Nat.reduceBEq,nat1,hxc]
      refine br_if (fun hbr=>?_) (fun hbr=>absurd hbr (by omega))
      simp (disch:=first | omega | (simp only [length_take,length_drop,length_append,map_cons,map_nil,length_map,length_cons,length_nil,length_set,length_replicate];omega) | (simp only [length_cons,length_nil,Nat.zero_add,Nat.reduceAdd])) only [go_sem,↓reduceIte,Nat.reduceAdd,Int.reduceNeg,Int.reduceAdd,Int.reduceSub,Int.reduceMul,Int.reduceLT,Int.reduceLE,Int.reduceEq,Int.reduceToNat,Nat.reduceBEq,nat1,w1,← e3]
      refine cl_ok hn rfl ?_
      simp (disch:=first | omega | (simp only [length_take,length_drop,length_append,map_cons,map_nil,length_map,length_cons,length_nil,length_set,length_replicate];omega) | (simp only [length_cons,length_nil,Nat.zero_add,Nat.reduceAdd])) only [go_sem,↓reduceIte,Nat.reduceAdd,Int.reduceNeg,Int.reduceAdd,Int.reduceSub,Int.reduceMul,Int.reduceLT,Int.reduceLE,Int.reduceEq,Int.reduceToNat,Nat.reduceBEq,nat1,encIt,fl1_3,nat1]
      first | exact hlt | exact ⟨rfl,hlt⟩
    · obtain rfl : k = c:=by omega
      have hpe:=specPred_m x (cfL a0.length k) (by omega)
      have hF2:=fun h=>F2 h (cfL a0.length k)
      have hl2:=less_m y (prL x (cfL a0.length k)) (by omega)
      generalize prL x (cfL a0.length k) = z2 at *
      have hll2:=lessL_len y z2 (min y.length z2.length)
      have hs2:=implSS_m (lessL y z2 (min y.length z2.length)) (by omega)
      have ham:=atMost_m (sqS D) (sqS (lessL y z2 (min y.length z2.length)))
      simp only [encMt,encIts,encIt,hxc] at hpe hl2 hs2 ham
      cases hpb : prB x b
      · repeat' (first | (with_reducible first | refine jn_in ?_ | refine cl_ok (by assumption) rfl ?_ | refine cl_okP (by assumption) rfl ?_ | refine br_if (fun hbr=>?_) fun hbr=>?_ | refine br_ifn (fun hbr=>?_) fun hbr=>?_ | refine br_nb (fun hbr=>?_) fun hbr=>?_ | refine br_b (fun hbr=>?_) fun hbr=>?_) | simp (disch:=first | omega | (simp only [length_take,length_drop,length_append,map_cons,map_nil,length_map,length_cons,length_nil,length_set,length_replicate];omega) | (simp only [length_cons,length_nil,Nat.zero_add,Nat.reduceAdd])) only [go_sem,↓reduceIte,Nat.reduceAdd,Int.reduceNeg,Int.reduceAdd,Int.reduceSub,Int.reduceMul,Int.reduceLT,Int.reduceLE,Int.reduceEq,Int.reduceToNat,Nat.reduceBEq,nat1,hxc])
        all_goals first | omega | rfl
      · cases hpe2 : prB x (cfL a0.length k)
        · rw [hpe2] at hpe
          repeat' (first | (with_reducible first | refine jn_in ?_ | refine cl_ok (by assumption) rfl ?_ | refine cl_okP (by assumption) rfl ?_ | refine br_if (fun hbr=>?_) fun hbr=>?_ | refine br_ifn (fun hbr=>?_) fun hbr=>?_ | refine br_nb (fun hbr=>?_) fun hbr=>?_ | refine br_b (fun hbr=>?_) fun hbr=>?_) | simp (disch:=first | omega | (simp only [length_take,length_drop,length_append,map_cons,map_nil,length_map,length_cons,length_nil,length_set,length_replicate];omega) | (simp only [length_cons,length_nil,Nat.zero_add,Nat.reduceAdd])) only [go_sem,↓reduceIte,Nat.reduceAdd,Int.reduceNeg,Int.reduceAdd,Int.reduceSub,Int.reduceMul,Int.reduceLT,Int.reduceLE,Int.reduceEq,Int.reduceToNat,Nat.reduceBEq,nat1,hxc])
          all_goals first | omega | rfl
        · rw [hpe2] at hpe
          rw [decide_eq_false (hF2 hpb hpe2)] at ham
          repeat' (first | (with_reducible first | refine jn_in ?_ | refine cl_ok (by assumption) rfl ?_ | refine cl_okP (by assumption) rfl ?_ | refine br_if (fun hbr=>?_) fun hbr=>?_ | refine br_ifn (fun hbr=>?_) fun hbr=>?_ | refine br_nb (fun hbr=>?_) fun hbr=>?_ | refine br_b (fun hbr=>?_) fun hbr=>?_) | simp (disch:=first | omega | (simp only [length_take,length_drop,length_append,map_cons,map_nil,length_map,length_cons,length_nil,length_set,length_replicate];omega) | (simp only [length_cons,length_nil,Nat.zero_add,Nat.reduceAdd])) only [go_sem,↓reduceIte,Nat.reduceAdd,Int.reduceNeg,Int.reduceAdd,Int.reduceSub,Int.reduceMul,Int.reduceLT,Int.reduceLE,Int.reduceEq,Int.reduceToNat,Nat.reduceBEq,nat1,hxc])
          all_goals first | omega | rfl
end Go.Proofs.Ytpilbhbbdldpeaa

namespace Go.Proofs.Ytpilbhbbdldpeaa.fnLeastSquares
open Go.ChangeShapes Go.WideShapes Go.ChangeAt Go.RowKit
open Go.ChangeMaps (open_string shut_string)
theorem own : ownKnob Try.prog.godebug = none:=by kernel_rfl
theorem laidOut : laidOutB Try.prog = true:=by kernel_rfl
set_option maxRecDepth 100000 in
set_option maxHeartbeats 2000000 in
theorem walk {H : Type} (enc : TypeId × Value→H) (v0 : Value) (d0 : DataW H) (p0 : List MemPlace) (base : Nat) (w : World)
    (ok0 : Value.okWide Try.prog w .any base 22 v0) (h0 : DataW.Trod enc Try.prog w 0 (fun _=>true) true 22 v0 d0 p0)
    (sz : (DataW.weightsEach Try.prog [22] [d0]).all (·≤reachBytes) = true) :
    Calls Try.prog 3 #[v0] w fun e w'=>e = .returned (.bool true)∧Below w.heap.size w w':=by
  obtain ⟨a0,r0,i0⟩:=argD_sl (base:=base) opD_U8s Try.underlying22 h0 ok0
  exact run_law (lawLeastSquares_m a0 i0.1) (ArgsR.cons r0 ArgsR.nil)
set_option maxRecDepth 100000 in
theorem lifted (os : Os) (started : os.Started) (H : Type) (enc : TypeId × Value→H) :
    ReturnsInHanded {} Try.checked os 3 .any (Rows.fnLeastSquaresSpec.pre6 enc Try.prog Try.f3 Rows.fnLeastSquaresRow.domain false) (Rows.fnLeastSquaresSpec.post enc Try.prog Try.f3 false true false false):=by
  refine returnsInHanded_of_change_sized (C:=Try.checked) own started (by kernel_rfl) Try.func3
    (ChangeSpec.witness6 (enc:=enc) (C:=Try.checked) false ⟨#[],#[.slice none 0 0],[]⟩ 8 (by kernel_rfl) (by kernel_rfl) (by kernel_rfl) (by kernel_rfl)) ?_
  intro W base args ds gs before hval0 hW hcnd0 hsz0 hholds
  have hval : ∀ (j : Nat) t v,Try.f3.params[j]? = some t→args[j]? = some v→Value.okWide Try.prog W .any base t v:=hval0
  have hsz : (DataW.weightsEach Try.prog (Try.f3.params.toList ++ Rows.fnLeastSquaresSpec.plain.varTypes Try.prog) (ds ++ gs)).all (·≤reachBytes) = true:=hsz0
  have hW':=hW
  obtain ⟨p,q,hA0,hV,rfl,hfz,hnd⟩:=hW
  have hA : DataW.TrodAll enc Try.prog W 0 (fun _=>true) true Try.f3.params.toList args.toList ds p:=hA0
  rw [Try.params3] at hA hval hsz
  obtain ⟨v0,vs0,d0,ds0,p0,q0,hargs,rfl,rfl,h0,r0⟩:=trodAll_cons hA
  obtain ⟨rfl,rfl,rfl⟩:=trodAll_nil r0
  obtain rfl : args = #[v0]:=by cases args;simp_all
  obtain ⟨rfl,rfl⟩:=trodVars_none hV
  have lt0 : ∀ x ∈ p0,x.block < W.heap.size:=by obtain ⟨m,hm⟩:=h0;exact DataW.trod_lt m _ _ _ hm
  refine (walk enc v0 d0 p0 base W (hval 0 22 v0 rfl rfl) h0 hsz).mono fun e W' ⟨he,bel⟩=>?_
  subst he
  exact ⟨_,rfl,_,_,_,[],_,[],hW',trodAll_mk1 (shut_bool Try.underlying4 _),(trodAll_cons_mk (Below.trod laidOut (by kernel_rfl) (of_decide_eq_true (by kernel_rfl)) h0 bel lt0) trodAll_mk0),rfl,bel.frame _,fun h=>by cases h⟩
theorem over : Rows.fnLeastSquaresRow.holds Try.pinned (OpenSpec.ofChange Rows.fnLeastSquaresSpec) :=
  OpenClaim.holds_of_wide 3 Try.f3 rfl rfl rfl rfl rfl rfl rfl ⟨rfl,rfl,rfl,rfl,rfl⟩ rfl rfl rfl rfl rfl (by kernel_rfl) Try.func3 (by kernel_rfl)
    (of_decide_eq_true (by kernel_rfl)) (by unfold Func.isWrapper;first | (rw [if_pos (by decide +kernel)];kernel_rfl) | (rw [if_neg (by decide +kernel)];exact ⟨rfl,rfl⟩))
    (fun os started H enc _=>lifted os started H enc)
theorem proved : Rows.FnLeastSquaresSaid:=over
end Go.Proofs.Ytpilbhbbdldpeaa.fnLeastSquares

