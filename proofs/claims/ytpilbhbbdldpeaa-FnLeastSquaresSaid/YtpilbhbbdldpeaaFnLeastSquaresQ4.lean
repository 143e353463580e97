/- Proved: for every input the law 'FnLeastSquares' returns true and its arguments read behind the call as before: part 4 of its proof. No condition. -/
import Derived.WalkKit
import Derived.Lib.Hide
import Derived.WalkSpells
import Derived.Laws.OwnMore
import Derived.Deep.AppendLies
import Derived.Deep.Draws
import Derived.Maps.AppendAt
import Derived.RegionTactic
import Derived.OwnWalk
import Derived.Below
import Derived.Laws.AppendOwnNone
import Derived.Deep.QuietTactic
import Derived.BigQuiet
import Derived.StillTailTactics
import Derived.Laws.Cells
import Derived.Laws.IdiomCopy
import Derived.ChangeKeysEq
import Derived.Laws.BytesArg
import Derived.Laws.StructEq
import Derived.Laws.Tables
import Derived.Great.BuildSlice
import Derived.StillTail
import Derived.OrdersHeld
import Derived.Test.YtpilbhbbdldpeaaProg
import Derived.Deep.Slices
import Derived.Deep.Fields
import Derived.ChangeSame
import Derived.OpenShut
import Derived.Laws.ResultCell
import Derived.Deep.RegionWith
import Derived.Test.YtpilbhbbdldpeaaFnLeastSquaresQ3
set_option linter.unusedVariables false
set_option linter.unusedSimpArgs false
namespace Go.Proofs.Ytpilbhbbdldpeaa
open Go.RowKit
end Go.Proofs.Ytpilbhbbdldpeaa
namespace Go.Proofs.Ytpilbhbbdldpeaa
structure It where
  num : Int
  den : Int
  text : ByteArray
  deriving DecidableEq
def it0 : It:=⟨0,0,ByteArray.empty⟩
def numB (x : It) : Bool:=decide (x.text = ByteArray.empty) && (decide (1≤x.den∧x.den≤999999999) && (decide (-999999999≤x.num∧x.num≤999999999) && decide (Int.gcd x.num x.den = 1)))
def lim (n : Int) : Prop:=-4000000000000000000≤n∧n≤4000000000000000000
instance (n : Int) : Decidable (lim n):=inferInstanceAs (Decidable (_∧_))
def redN (n d : Int) : It:=⟨(if d < 0 then -n else n) / (Int.gcd n d : Int),(if d < 0 then -d else d) / (Int.gcd n d : Int),ByteArray.empty⟩
def mkN (n d : Int) : It:=if d = 0 ∨ ¬ lim n ∨ ¬ lim d then it0 else if numB (redN n d) = true then redN n d else it0
def addN (x y : It) : It:=if (numB x && numB y) = true then mkN (x.num * y.den + y.num * x.den) (x.den * y.den) else it0
def negN (x : It) : It:=if numB x = true then ⟨-x.num,x.den,ByteArray.empty⟩ else it0
def subN (x y : It) : It:=addN x (negN y)
def mulN (x y : It) : It:=if (numB x && numB y) = true then mkN (x.num * y.num) (x.den * y.den) else it0
def divN (x y : It) : It:=if (numB x && numB y) = true then mkN (x.num * y.den) (x.den * y.num) else it0
theorem numB_it0 : numB it0 = false:=by decide
theorem numB_iff {x : It} : numB x = true ↔ x.text = ByteArray.empty∧(1≤x.den∧x.den≤999999999)∧(-999999999≤x.num∧x.num≤999999999)∧Int.gcd x.num x.den = 1:=by
  simp [numB]
theorem mkN_zero (n : Int) : mkN n 0 = it0:=by simp [mkN]
theorem mkN_neg {n d : Int} (h : d = 0 ∨ ¬ lim n ∨ ¬ lim d) : mkN n d = it0:=by unfold mkN;rw [if_pos h]
theorem mkN_pos {n d : Int} (h0 : d ≠ 0) (h1 : lim n) (h2 : lim d) : mkN n d = if numB (redN n d) = true then redN n d else it0:=by
  unfold mkN;rw [if_neg (by simp [h0,h1,h2])]
theorem gcd_pos {n d : Int} (h : d ≠ 0) : 1≤(Int.gcd n d : Int)∧(Int.gcd n d : Int) ∣ n∧(Int.gcd n d : Int) ∣ d:=by
  refine ⟨?_,Int.gcd_dvd_left ..,Int.gcd_dvd_right ..⟩
  have : 0 < Int.gcd n d:=Nat.pos_of_ne_zero (fun e=>h (Int.eq_zero_of_gcd_eq_zero_right e))
  omega
theorem redN_gcd {n d : Int} (h : d ≠ 0) : Int.gcd (redN n d).num (redN n d).den = 1:=by
  obtain ⟨h1,h2,h3⟩:=gcd_pos (n:=n) h
  have hg : 0 < Int.gcd n d:=by omega
  have key : Int.gcd (n / (Int.gcd n d : Int)) (d / (Int.gcd n d : Int)) = 1:=by
    have:=Int.gcd_ediv_gcd_ediv_gcd (i:=n) (j:=d) hg
    exact this
  unfold redN
  simp only
  split
  · rw [Int.neg_ediv_of_dvd h2,Int.neg_ediv_of_dvd h3,Int.neg_gcd,Int.gcd_neg];exact key
  · exact key
theorem redN_den {n d : Int} (h : d ≠ 0) : 1≤(redN n d).den:=by
  obtain ⟨h1,h2,h3⟩:=gcd_pos (n:=n) h
  unfold redN
  simp only
  have hd : (Int.gcd n d : Int) ∣ (if d < 0 then -d else d):=by
    split
    · exact (Int.dvd_neg).2 h3
    · exact h3
  have hp : 0 < (if d < 0 then -d else d):=by split <;> omega
  obtain ⟨q,hq⟩:=hd
  rw [hq,Int.mul_ediv_cancel_left _ (by omega)]
  rw [hq] at hp
  have:=Int.pos_of_mul_pos_right hp (by omega)
  omega
theorem numB_redN {n d : Int} (h : d ≠ 0) : numB (redN n d) = decide (-999999999≤(redN n d).num∧(redN n d).num≤999999999∧(redN n d).den≤999999999):=by
  have h1:=redN_gcd (n:=n) h
  have h2:=redN_den (n:=n) h
  rw [Bool.eq_iff_iff,numB_iff,decide_eq_true_iff]
  constructor
  · rintro ⟨_,⟨_,a⟩,⟨b,c⟩,_⟩;exact ⟨b,c,a⟩
  · rintro ⟨a,b,c⟩;exact ⟨rfl,⟨h2,c⟩,⟨a,b⟩,h1⟩
theorem tdiv_exact {n g : Int} (h : g ∣ n) : n.tdiv g = n / g:=Int.tdiv_eq_ediv_of_dvd h
theorem mul_lim {a b : Int} (h1 : -999999999≤a∧a≤999999999) (h2 : -999999999≤b∧b≤999999999) : -999999998000000001≤a * b∧a * b≤999999998000000001:=by
  have ha : a.natAbs≤999999999:=by omega
  have hb : b.natAbs≤999999999:=by omega
  have:=Nat.mul_le_mul ha hb
  rw [← Int.natAbs_mul] at this
  omega
theorem nat_gcd_step (x y : Nat) : Nat.gcd y (x % y) = Nat.gcd x y:=by
  rw [Nat.gcd_comm x y,Nat.gcd_rec y x,Nat.gcd_comm]
end Go.Proofs.Ytpilbhbbdldpeaa
namespace Go.Proofs.Ytpilbhbbdldpeaa
open Go.RowKit
abbrev itVal (x : It) : Value:=.agg #[.int .i64 x.num,.int .i64 x.den,.string x.text]
end Go.Proofs.Ytpilbhbbdldpeaa
namespace Go.Proofs.Ytpilbhbbdldpeaa
open Go.RowKit
def GcdRel (w : World) (G : Nat) (v0 v1 : Value) (wr : World) : Prop:=∃ x y m : Nat,(x : Int)≤4000000000000000000∧(y : Int)≤4000000000000000000∧v0 = .int .i64 x∧v1 = .int .i64 y∧Nat.gcd x y = G∧wr = w.drewN m
theorem gcd_start {a b : Int} {G : Nat} {p q : Int} {w : World} (h : Int.gcd a b = G) (h1 : p = a.natAbs) (h2 : q = b.natAbs) (hx : (a.natAbs : Int)≤4000000000000000000) (hy : (b.natAbs : Int)≤4000000000000000000) :
    GcdRel w G (.int .i64 p) (.int .i64 q) w :=
  ⟨a.natAbs,b.natAbs,0,hx,hy,by rw [h1],by rw [h2],by rw [← h];rfl,rfl⟩
theorem gcd_step {x y G : Nat} {w w' : World} (hx : (x : Int)≤4000000000000000000) (hy : (y : Int)≤4000000000000000000) (h0 : ¬ y = 0) (h : Nat.gcd x y = G) (hw : ∃ j,w' = w.drewN j) :
    GcdRel w G (.int .i64 y) (.int .i64 ((x : Int) % y)) w':=by
  obtain ⟨j,hj⟩:=hw
  have hr : x % y≤x:=Nat.mod_le _ _
  exact ⟨y,x % y,j,hy,by omega,rfl,by rw [Int.natCast_emod],by rw [nat_gcd_step];exact h,hj⟩
theorem abs_any (a : Int) (w : World) (ha : -9223372036854775807≤a∧a≤9223372036854775807) :
    Calls Try.prog 68 #[.int .i64 a] w fun e w'=>e = .returned (.int .i64 (a.natAbs : Nat))∧w = w':=by
  by_cases h : a < 0
  all_goals
    go_enter Try.func68,Try.ntmps68
    go_wp2
    go_ret
    exact ⟨ret_i (by omega),rfl⟩
theorem implGcd_any (a b : Int) (w : World) (ha : lim a) (hb : lim b) :
    Calls Try.prog 65 #[.int .i64 a,.int .i64 b] w fun e w'=>e = .returned (.int .i64 (Int.gcd a b : Nat))∧∃ m,w' = w.drewN m:=by
  unfold lim at ha hb
  generalize hG : Int.gcd a b = G
  have HG:=Lib.hid hG;clear hG
  rcases (show (0≤a∧0≤b) ∨ (0≤a∧b < 0) ∨ (a < 0∧0≤b) ∨ (a < 0∧b < 0) from by omega) with ⟨h1,h2⟩ | ⟨h1,h2⟩ | ⟨h1,h2⟩ | ⟨h1,h2⟩
  all_goals
    go_enter Try.func65,Try.ntmps65
    go_wp2
    go_loopw [0,1] (GcdRel w G) (fun _ b _=>(intOf b).toNat)
    case atStart=>exact gcd_start HG.out (by omega) (by omega) (by omega) (by omega)
    case round =>
      obtain ⟨x,y,m,hx,hy,rfl,rfl,hg,rfl⟩:=hrel
      have HGG:=Lib.hid hg;clear hg
      by_cases hy0 : y = 0
      · subst hy0
        have hb0 : (((0 : Nat) : Int) != 0) = false:=by simp
        go_wp2
        go_ret
        exact ⟨ret_i (by have:=HGG.out;rw [Nat.gcd_zero_right] at this;rw [this]),m,rfl⟩
      · have hb0 : ((y : Int) != 0) = true:=by rw [bne_iff_ne];omega
        have hr : x % y≤x:=Nat.mod_le _ _
        have hr2 : x % y < y:=Nat.mod_lt _ (by omega)
        go_wp2
        go_quiet (fail)
        go_wp2
        go_roundw
        case rel=>exact gcd_step hx hy hy0 HGG.out (drewN2 _ _ _)
        case measure=>simp [intOf];omega
theorem specGcd_any (a b : Int) (w : World) (ha : lim a) (hb : lim b) :
    Calls Try.prog 67 #[.int .i64 a,.int .i64 b] w fun e w'=>e = .returned (.int .i64 (Int.gcd a b : Nat))∧∃ m,w' = w.drewN m:=by
  unfold lim at ha hb
  generalize hG : Int.gcd a b = G
  have HG:=Lib.hid hG;clear hG
  rcases (show (0≤a∧0≤b) ∨ (0≤a∧b < 0) ∨ (a < 0∧0≤b) ∨ (a < 0∧b < 0) from by omega) with ⟨h1,h2⟩ | ⟨h1,h2⟩ | ⟨h1,h2⟩ | ⟨h1,h2⟩
  all_goals
    go_enter Try.func67,Try.ntmps67
    go_wp2_with fail
    refine (abs_any _ _ (by omega)).mono ?_
    rintro e w' ⟨rfl,rfl⟩
    go_wp2_with fail
    refine (abs_any _ _ (by omega)).mono ?_
    rintro e w' ⟨rfl,rfl⟩
    go_wp2_with fail
    go_loopw [5,6] (GcdRel w G) (fun _ b _=>(intOf b).toNat)
    case atStart=>exact gcd_start HG.out (by omega) (by omega) (by omega) (by omega)
    case round =>
      obtain ⟨x,y,m,hx,hy,rfl,rfl,hg,rfl⟩:=hrel
      have HGG:=Lib.hid hg;clear hg
      by_cases hy0 : y = 0
      · subst hy0
        have hb0 : (((0 : Nat) : Int) != 0) = false:=by simp
        go_wp2
        go_ret
        exact ⟨ret_i (by have:=HGG.out;rw [Nat.gcd_zero_right] at this;rw [this]),m,rfl⟩
      · have hb0 : ((y : Int) != 0) = true:=by rw [bne_iff_ne];omega
        have hr : x % y≤x:=Nat.mod_le _ _
        have hr2 : x % y < y:=Nat.mod_lt _ (by omega)
        go_wp2
        go_roundw
        case rel=>exact gcd_step hx hy hy0 HGG.out ⟨_,rfl⟩
        case measure=>simp [intOf];omega
theorem numB_false_text {x : It} (h : ¬ x.text = ByteArray.empty) : numB x = false:=by simp [numB,h]
theorem numB_false_den {x : It} (h : ¬ (1≤x.den∧x.den≤999999999)) : numB x = false:=by
  unfold numB;rw [decide_eq_false h];simp
theorem numB_false_num {x : It} (h : ¬ (-999999999≤x.num∧x.num≤999999999)) : numB x = false:=by
  unfold numB;rw [decide_eq_false h];simp
theorem numB_gcd {x : It} (h0 : x.text = ByteArray.empty) (h1 : 1≤x.den∧x.den≤999999999) (h2 : -999999999≤x.num∧x.num≤999999999) : numB x = decide (((Int.gcd x.num x.den : Nat) : Int) = 1):=by
  unfold numB;rw [decide_eq_true h0,decide_eq_true h1,decide_eq_true h2];simp;omega
theorem ba_nil {x : ByteArray} (h : ¬ x = ByteArray.empty) : ¬ x.toList = []:=by
  rw [ByteArray.toList_eq]
  intro e;apply h
  cases x with
  | mk d=>simp at e;subst e;rfl
theorem num_ways (x : It) : (numB x = false∧¬ x.text.toList = []) ∨ (numB x = false∧x.text = ByteArray.empty∧x.den < 1) ∨ (numB x = false∧x.text = ByteArray.empty∧1≤x.den∧999999999 < x.den) ∨
    (numB x = false∧x.text = ByteArray.empty∧1≤x.den∧x.den≤999999999∧x.num < -999999999) ∨ (numB x = false∧x.text = ByteArray.empty∧1≤x.den∧x.den≤999999999∧-999999999≤x.num∧999999999 < x.num) ∨
    (numB x = decide (((Int.gcd x.num x.den : Nat) : Int) = 1)∧x.text = ByteArray.empty∧1≤x.den∧x.den≤999999999∧-999999999≤x.num∧x.num≤999999999):=by
  by_cases h0 : x.text = ByteArray.empty
  · by_cases h1 : 1≤x.den
    · by_cases h2 : x.den≤999999999
      · by_cases h3 : -999999999≤x.num
        · by_cases h4 : x.num≤999999999
          · exact .inr (.inr (.inr (.inr (.inr ⟨numB_gcd h0 ⟨h1,h2⟩ ⟨h3,h4⟩,h0,h1,h2,h3,h4⟩))))
          · exact .inr (.inr (.inr (.inr (.inl ⟨numB_false_num (by omega),h0,h1,h2,h3,by omega⟩))))
        · exact .inr (.inr (.inr (.inl ⟨numB_false_num (by omega),h0,h1,h2,by omega⟩)))
      · exact .inr (.inr (.inl ⟨numB_false_den (by omega),h0,h1,by omega⟩))
    · exact .inr (.inl ⟨numB_false_den (by omega),h0,by omega⟩)
  · exact .inl ⟨numB_false_text h0,ba_nil h0⟩
theorem implIsNum_any (x : It) (w : World) :
    Calls Try.prog 53 #[itVal x] w fun e w'=>e = .returned (.bool (numB x))∧Below w.heap.size w w':=by
  rcases num_ways x with ⟨h,h0⟩ | ⟨h,h0,h1⟩ | ⟨h,h0,h1,h2⟩ | ⟨h,h0,h1,h2,h3⟩ | ⟨h,h0,h1,h2,h3,h4⟩ | ⟨h,h0,h1,h2,h3,h4⟩
  all_goals
    have H:=Lib.hid h;clear h
    obtain ⟨num,den,text⟩:=x
    simp only at *
    try subst h0
  iterate 5
    · go_enter Try.func53,Try.ntmps53
      go_wp2
      go_ret
      exact ⟨by rw [H.out];rfl,(Below.refl _ _).alloc (Nat.le_refl _) _⟩
  go_enter Try.func53,Try.ntmps53
  go_wp2_with fail
  refine (implGcd_any _ _ _ (by unfold lim;omega) (by unfold lim;omega)).mono ?_
  rintro e w' ⟨rfl,m,rfl⟩
  go_wp2
  go_ret
  exact ⟨by rw [H.out];rfl,below_drewN ((Below.refl _ _).alloc (Nat.le_refl _) _) m⟩
theorem specIsNum_any (x : It) (w : World) :
    Calls Try.prog 58 #[itVal x] w fun e w'=>e = .returned (.bool (numB x))∧Below w.heap.size w w':=by
  rcases num_ways x with ⟨h,h0⟩ | ⟨h,h0,h1⟩ | ⟨h,h0,h1,h2⟩ | ⟨h,h0,h1,h2,h3⟩ | ⟨h,h0,h1,h2,h3,h4⟩ | ⟨h,h0,h1,h2,h3,h4⟩
  all_goals
    have H:=Lib.hid h;clear h
    obtain ⟨num,den,text⟩:=x
    simp only at *
    try subst h0
  · go_enter Try.func58,Try.ntmps58
    go_wp2
    go_ret
    exact ⟨by rw [H.out];rfl,(Below.refl _ _).alloc (Nat.le_refl _) _⟩
  iterate 2
    · go_enter Try.func58,Try.ntmps58
      go_wp2_with (go_at_call 57;refine (in_b _ _ _ false _ (by simp;omega)).mono ?_;rintro e w' ⟨rfl,rfl⟩)
      go_ret
      exact ⟨by rw [H.out];rfl,(Below.refl _ _).alloc (Nat.le_refl _) _⟩
  iterate 2
    · go_enter Try.func58,Try.ntmps58
      go_wp2_with fail
      refine (in_b _ _ _ true _ (by simp;omega)).mono ?_
      rintro e w' ⟨rfl,rfl⟩
      go_wp2_with fail
      refine (in_b _ _ _ false _ (by simp;omega)).mono ?_
      rintro e w' ⟨rfl,rfl⟩
      go_wp2
      go_ret
      exact ⟨by rw [H.out];rfl,(Below.refl _ _).alloc (Nat.le_refl _) _⟩
  go_enter Try.func58,Try.ntmps58
  go_wp2_with (go_at_call 57;refine (in_b _ _ _ true _ (by simp;omega)).mono ?_;rintro e w' ⟨rfl,rfl⟩)
  refine (specGcd_any _ _ _ (by unfold lim;omega) (by unfold lim;omega)).mono ?_
  rintro e w' ⟨rfl,m,rfl⟩
  go_wp2
  go_ret
  exact ⟨by rw [H.out];rfl,below_drewN ((Below.refl _ _).alloc (Nat.le_refl _) _) m⟩
end Go.Proofs.Ytpilbhbbdldpeaa
namespace Go.Proofs.Ytpilbhbbdldpeaa
open Go.RowKit
def RetIt (x : It) (w : World) (e : Ending) (w' : World) : Prop:=e = .returned (itVal x)∧Below w.heap.size w w'
theorem make_ways (n d : Int) : (mkN n d = it0∧d = 0) ∨ (mkN n d = it0∧d ≠ 0∧n < -4000000000000000000) ∨ (mkN n d = it0∧d ≠ 0∧-4000000000000000000≤n∧4000000000000000000 < n) ∨
    (mkN n d = it0∧d ≠ 0∧-4000000000000000000≤n∧n≤4000000000000000000∧d < -4000000000000000000) ∨ (mkN n d = it0∧d ≠ 0∧-4000000000000000000≤n∧n≤4000000000000000000∧-4000000000000000000≤d∧4000000000000000000 < d) ∨
    (mkN n d = (if numB (redN n d) = true then redN n d else it0)∧d ≠ 0∧-4000000000000000000≤n∧n≤4000000000000000000∧-4000000000000000000≤d∧d≤4000000000000000000):=by
  by_cases h0 : d = 0
  · exact .inl ⟨mkN_neg (.inl h0),h0⟩
  · by_cases h1 : -4000000000000000000≤n
    · by_cases h2 : n≤4000000000000000000
      · by_cases h3 : -4000000000000000000≤d
        · by_cases h4 : d≤4000000000000000000
          · exact .inr (.inr (.inr (.inr (.inr ⟨mkN_pos h0 ⟨h1,h2⟩ ⟨h3,h4⟩,h0,h1,h2,h3,h4⟩))))
          · exact .inr (.inr (.inr (.inr (.inl ⟨mkN_neg (.inr (.inr (by unfold lim;omega))),h0,h1,h2,h3,by omega⟩))))
        · exact .inr (.inr (.inr (.inl ⟨mkN_neg (.inr (.inr (by unfold lim;omega))),h0,h1,h2,by omega⟩)))
      · exact .inr (.inr (.inl ⟨mkN_neg (.inr (.inl (by unfold lim;omega))),h0,h1,by omega⟩))
    · exact .inr (.inl ⟨mkN_neg (.inr (.inl (by unfold lim;omega))),h0,by omega⟩)
theorem tdiv_bd {n g : Int} (h1 : -4000000000000000000≤n) (h2 : n≤4000000000000000000) (hg : 1≤g) : -4000000000000000000≤n.tdiv g∧n.tdiv g≤4000000000000000000:=by
  have h : (n.tdiv g).natAbs≤n.natAbs:=by rw [Int.natAbs_tdiv];exact Nat.div_le_self _ _
  omega
theorem red_neg {n d P Q : Int} (hd : d < 0) (h1 : -4000000000000000000≤n) (h2 : n≤4000000000000000000) (h3 : -4000000000000000000≤d) (h4 : d≤4000000000000000000)
    (hP : wrap64 (-n.tdiv (Int.gcd n d : Int)) = P) (hQ : wrap64 (-d.tdiv (Int.gcd n d : Int)) = Q) : redN n d = ⟨P,Q,ByteArray.empty⟩:=by
  obtain ⟨hg,hgn,hgd⟩:=gcd_pos (n:=n) (d:=d) (by omega)
  have b1:=tdiv_bd h1 h2 hg
  have b2:=tdiv_bd h3 h4 hg
  rw [IntWalk.wrap64_in _ ⟨by omega,by omega⟩] at hP hQ
  unfold redN
  rw [if_pos hd,if_pos hd,← hP,← hQ,tdiv_exact hgn,tdiv_exact hgd,Int.neg_ediv_of_dvd hgn,Int.neg_ediv_of_dvd hgd]
theorem red_pos {n d P Q : Int} (hd : 0 < d) (hP : n.tdiv (Int.gcd n d : Int) = P) (hQ : d / (Int.gcd n d : Int) = Q) : redN n d = ⟨P,Q,ByteArray.empty⟩:=by
  obtain ⟨hg,hgn,hgd⟩:=gcd_pos (n:=n) (d:=d) (by omega)
  unfold redN
  rw [if_neg (by omega),if_neg (by omega),← hP,← hQ,tdiv_exact hgn]
theorem implMake_any (n d : Int) (w : World) :
    Calls Try.prog 60 #[.int .i64 n,.int .i64 d] w (RetIt (mkN n d) w):=by
  rcases make_ways n d with ⟨h,h0⟩ | ⟨h,h0,h1⟩ | ⟨h,h0,h1,h2⟩ | ⟨h,h0,h1,h2,h3⟩ | ⟨h,h0,h1,h2,h3,h4⟩ | ⟨h,h0,h1,h2,h3,h4⟩
  · have H:=Lib.hid h;clear h
    have b0 : (d == 0) = true:=beq_iff_eq.2 h0
    clear h0
    go_enter Try.func60,Try.ntmps60
    go_wp2
    exact bodyPost_ret (v:=itVal it0) (by simp [results,Try.results60,go_sem];exact ⟨rfl,rfl,rfl⟩) rfl ⟨by rw [H.out],(Below.refl _ _).alloc (Nat.le_refl _) _⟩
  iterate 4
    · have H:=Lib.hid h;clear h
      have b0 : (d == 0) = false:=beq_eq_false_iff_ne.2 h0
      go_enter Try.func60,Try.ntmps60
      go_wp2
      exact bodyPost_ret (v:=itVal it0) (by simp [results,Try.results60,go_sem];exact ⟨rfl,rfl,rfl⟩) rfl ⟨by rw [H.out],(Below.refl _ _).alloc (Nat.le_refl _) _⟩
  have H:=Lib.hid h;clear h
  have b0 : (d == 0) = false:=beq_eq_false_iff_ne.2 h0
  obtain ⟨hg,hgn,hgd⟩:=gcd_pos (n:=n) h0
  rcases (show d < 0 ∨ 0 < d from by omega) with hd | hd
  · have e1:=Lib.hid (show Int.gcd (-n) (-d) = Int.gcd n d from by rw [Int.neg_gcd,Int.gcd_neg])
    obtain ⟨P,hP⟩ : ∃ P,wrap64 (-n.tdiv (Int.gcd n d : Int)) = P:=⟨_,rfl⟩
    obtain ⟨Q,hQ⟩ : ∃ Q,wrap64 (-d.tdiv (Int.gcd n d : Int)) = Q:=⟨_,rfl⟩
    have e2:=Lib.hid (red_neg hd h1 h2 h3 h4 hP hQ)
    go_enter Try.func60,Try.ntmps60
    go_wp2_with fail
    refine (implGcd_any _ _ _ (by unfold lim;omega) (by unfold lim;omega)).mono ?_
    rw [e1.out]
    generalize hG : ((Int.gcd n d : Nat) : Int) = G at *
    clear hG
    rintro e w' ⟨rfl,m,rfl⟩
    go_wp2
    go_region
    go_wp2_with fail
    refine (implIsNum_any ⟨P,Q,ByteArray.empty⟩ _).mono ?_
    rintro e w1 ⟨rfl,hb⟩
    obtain ⟨hc,hf⟩:=bcell hb
    have hz : w.heap.size + 1 < w1.heap.size:=by have:=hb.size;simp at this;omega
    have g0 : w1.cell? ⟨w.heap.size,0,none⟩ = some (.int .i64 0):=(hc _ _ (by simp <;> omega)).trans (by simp [go_sem])
    have g1 : w1.cell? ⟨w.heap.size,1,none⟩ = some (.int .i64 0):=(hc _ _ (by simp <;> omega)).trans (by simp [go_sem])
    have g2 : w1.cell? ⟨w.heap.size,2,none⟩ = some (.string ByteArray.empty):=(hc _ _ (by simp <;> omega)).trans (by simp [go_sem];rfl)
    have HB:=Lib.hid hb
    clear hb hP hQ hgn hgd
    by_cases hn : numB ⟨P,Q,ByteArray.empty⟩ = true
    · have HM:=Lib.hid (show mkN n d = ⟨P,Q,ByteArray.empty⟩ from by rw [H.out,e2.out,if_pos hn])
      go_wp2
      refine bodyPost_ret (v:=itVal ⟨P,Q,ByteArray.empty⟩) (by simp [results,Try.results60,go_sem,g0,g1,g2,hz];rfl) rfl ⟨by rw [HM.out],?_⟩
      repeat (refine Below.setCell ?_ (by simp <;> omega) _)
      exact ((below_drewN ((Below.refl _ _).alloc (Nat.le_refl _) _) _).alloc (by simp) _).trans (HB.out.mono (by simp;omega))
    · have hn : numB ⟨P,Q,ByteArray.empty⟩ = false:=by simpa using hn
      have HM:=Lib.hid (show mkN n d = it0 from by rw [H.out,e2.out,if_neg (by simp [hn])])
      go_wp2
      refine bodyPost_ret (v:=itVal it0) (by simp [results,Try.results60,go_sem,g0,g1,g2,hz];exact ⟨rfl,rfl,rfl⟩) rfl ⟨by rw [HM.out],?_⟩
      repeat (refine Below.setCell ?_ (by simp <;> omega) _)
      exact ((below_drewN ((Below.refl _ _).alloc (Nat.le_refl _) _) _).alloc (by simp) _).trans (HB.out.mono (by simp;omega))
  · obtain ⟨P,hP⟩ : ∃ P,n.tdiv (Int.gcd n d : Int) = P:=⟨_,rfl⟩
    obtain ⟨Q,hQ⟩ : ∃ Q,d / (Int.gcd n d : Int) = Q:=⟨_,rfl⟩
    have e2:=Lib.hid (red_pos hd hP hQ)
    have hPb:=tdiv_bd h1 h2 hg
    rw [hP] at hPb
    go_enter Try.func60,Try.ntmps60
    go_wp2_with fail
    refine (implGcd_any _ _ _ (by unfold lim;omega) (by unfold lim;omega)).mono ?_
    generalize hG : ((Int.gcd n d : Nat) : Int) = G at *
    clear hG
    rintro e w' ⟨rfl,m,rfl⟩
    go_wp2
    go_region
    go_wp2_with fail
    refine (implIsNum_any ⟨P,Q,ByteArray.empty⟩ _).mono ?_
    rintro e w1 ⟨rfl,hb⟩
    obtain ⟨hc,hf⟩:=bcell hb
    have hz : w.heap.size + 1 < w1.heap.size:=by have:=hb.size;simp at this;omega
    have g0 : w1.cell? ⟨w.heap.size,0,none⟩ = some (.int .i64 0):=(hc _ _ (by simp <;> omega)).trans (by simp [go_sem])
    have g1 : w1.cell? ⟨w.heap.size,1,none⟩ = some (.int .i64 0):=(hc _ _ (by simp <;> omega)).trans (by simp [go_sem])
    have g2 : w1.cell? ⟨w.heap.size,2,none⟩ = some (.string ByteArray.empty):=(hc _ _ (by simp <;> omega)).trans (by simp [go_sem];rfl)
    have HB:=Lib.hid hb
    clear hb hP hQ hgn hgd
    by_cases hn : numB ⟨P,Q,ByteArray.empty⟩ = true
    · have HM:=Lib.hid (show mkN n d = ⟨P,Q,ByteArray.empty⟩ from by rw [H.out,e2.out,if_pos hn])
      go_wp2
      refine bodyPost_ret (v:=itVal ⟨P,Q,ByteArray.empty⟩) (by simp [results,Try.results60,go_sem,g0,g1,g2,hz];rfl) rfl ⟨by rw [HM.out],?_⟩
      repeat (refine Below.setCell ?_ (by simp <;> omega) _)
      exact ((below_drewN ((Below.refl _ _).alloc (Nat.le_refl _) _) _).alloc (by simp) _).trans (HB.out.mono (by simp;omega))
    · have hn : numB ⟨P,Q,ByteArray.empty⟩ = false:=by simpa using hn
      have HM:=Lib.hid (show mkN n d = it0 from by rw [H.out,e2.out,if_neg (by simp [hn])])
      go_wp2
      refine bodyPost_ret (v:=itVal it0) (by simp [results,Try.results60,go_sem,g0,g1,g2,hz];exact ⟨rfl,rfl,rfl⟩) rfl ⟨by rw [HM.out],?_⟩
      repeat (refine Below.setCell ?_ (by simp <;> omega) _)
      exact ((below_drewN ((Below.refl _ _).alloc (Nat.le_refl _) _) _).alloc (by simp) _).trans (HB.out.mono (by simp;omega))
theorem gcd_le {n d : Int} (h0 : d ≠ 0) (h3 : -4000000000000000000≤d) (h4 : d≤4000000000000000000) : (Int.gcd n d : Int)≤4000000000000000000:=by
  have h:=Nat.le_of_dvd (by omega : 0 < d.natAbs) (Int.natAbs_dvd_natAbs.2 (Int.gcd_dvd_right (a:=n) (b:=d)))
  simp at h
  omega
set_option maxHeartbeats 1000000 in
theorem specMake_any (n d : Int) (w : World) :
    Calls Try.prog 61 #[.int .i64 n,.int .i64 d] w (RetIt (mkN n d) w):=by
  rcases make_ways n d with ⟨h,h0⟩ | ⟨h,h0,h1⟩ | ⟨h,h0,h1,h2⟩ | ⟨h,h0,h1,h2,h3⟩ | ⟨h,h0,h1,h2,h3,h4⟩ | ⟨h,h0,h1,h2,h3,h4⟩
  · have H:=Lib.hid h;clear h
    have b0 : (d == 0) = true:=beq_iff_eq.2 h0
    clear h0
    go_enter Try.func61,Try.ntmps61
    go_wp2_with fail
    exact bodyPost_ret (v:=itVal it0) (by simp [results,Try.results61,go_sem];exact ⟨rfl,rfl,rfl⟩) rfl ⟨by rw [H.out],(Below.refl _ _).alloc (Nat.le_refl _) _⟩
  iterate 2
    · have H:=Lib.hid h;clear h
      have b0 : (d == 0) = false:=beq_eq_false_iff_ne.2 h0
      go_enter Try.func61,Try.ntmps61
      go_wp2_with (go_at_call 57;refine (in_b _ _ _ false _ (by simp;omega)).mono ?_;rintro e w' ⟨rfl,rfl⟩)
      exact bodyPost_ret (v:=itVal it0) (by simp [results,Try.results61,go_sem];exact ⟨rfl,rfl,rfl⟩) rfl ⟨by rw [H.out],(Below.refl _ _).alloc (Nat.le_refl _) _⟩
  iterate 2
    · have H:=Lib.hid h;clear h
      have b0 : (d == 0) = false:=beq_eq_false_iff_ne.2 h0
      go_enter Try.func61,Try.ntmps61
      go_wp2_with fail
      refine (in_b _ _ _ true _ (by simp;omega)).mono ?_
      rintro e w' ⟨rfl,rfl⟩
      go_wp2_with fail
      refine (in_b _ _ _ false _ (by simp;omega)).mono ?_
      rintro e w' ⟨rfl,rfl⟩
      go_wp2
      exact bodyPost_ret (v:=itVal it0) (by simp [results,Try.results61,go_sem];exact ⟨rfl,rfl,rfl⟩) rfl ⟨by rw [H.out],(Below.refl _ _).alloc (Nat.le_refl _) _⟩
  have H:=Lib.hid h;clear h
  have b0 : (d == 0) = false:=beq_eq_false_iff_ne.2 h0
  obtain ⟨hg,hgn,hgd⟩:=gcd_pos (n:=n) h0
  have N:=Lib.hid (numB_redN (n:=n) h0)
  have hgl:=gcd_le (n:=n) h0 h3 h4
  rcases (show d < 0 ∨ 0 < d from by omega) with hd | hd
  · obtain ⟨P,hP⟩ : ∃ P,wrap64 (-n.tdiv (Int.gcd n d : Int)) = P:=⟨_,rfl⟩
    obtain ⟨Q,hQ⟩ : ∃ Q,wrap64 (-d.tdiv (Int.gcd n d : Int)) = Q:=⟨_,rfl⟩
    have e2:=Lib.hid (red_neg hd h1 h2 h3 h4 hP hQ)
    go_enter Try.func61,Try.ntmps61
    go_wp2_with (go_at_call 57;refine (in_b _ _ _ true _ (by simp;omega)).mono ?_;rintro e w' ⟨rfl,rfl⟩)
    refine (specGcd_any _ _ _ (by unfold lim;omega) (by unfold lim;omega)).mono ?_
    generalize hG : ((Int.gcd n d : Nat) : Int) = G at *
    clear hG
    rintro e w' ⟨rfl,m,rfl⟩
    go_wp2
    go_region
    go_wp2_with fail
    by_cases c1 : -999999999≤P∧P≤999999999
    · refine (in_b _ _ _ true _ (by simp;omega)).mono ?_
      rintro e w' ⟨rfl,rfl⟩
      by_cases c2 : 999999999 < Q
      · have HM:=Lib.hid (show mkN n d = it0 from by rw [H.out,if_neg (by rw [N.out,e2.out];simp;omega)])
        clear hP hQ hgn hgd
        go_wp2
        refine bodyPost_ret (v:=itVal it0) (by simp [results,Try.results61,go_sem];exact ⟨rfl,rfl,rfl⟩) rfl ⟨by rw [HM.out],?_⟩
        repeat (first | exact Below.refl _ _ | refine Below.setCell ?_ (by simp <;> omega) _ | refine Below.alloc ?_ (by simp <;> omega) _ | refine below_drewN ?_ _ | refine Below.drew ?_)
      · have HM:=Lib.hid (show mkN n d = ⟨P,Q,ByteArray.empty⟩ from by rw [H.out,if_pos (by rw [N.out,e2.out];simp;omega),e2.out])
        clear hP hQ hgn hgd
        go_wp2
        refine bodyPost_ret (v:=itVal ⟨P,Q,ByteArray.empty⟩) (by simp [results,Try.results61,go_sem];rfl) rfl ⟨by rw [HM.out],?_⟩
        repeat (first | exact Below.refl _ _ | refine Below.setCell ?_ (by simp <;> omega) _ | refine Below.alloc ?_ (by simp <;> omega) _ | refine below_drewN ?_ _ | refine Below.drew ?_)
    · refine (in_b _ _ _ false _ (by simp;omega)).mono ?_
      rintro e w' ⟨rfl,rfl⟩
      have HM:=Lib.hid (show mkN n d = it0 from by rw [H.out,if_neg (by rw [N.out,e2.out];simp;omega)])
      clear hP hQ hgn hgd
      go_wp2
      refine bodyPost_ret (v:=itVal it0) (by simp [results,Try.results61,go_sem];exact ⟨rfl,rfl,rfl⟩) rfl ⟨by rw [HM.out],?_⟩
      repeat (first | exact Below.refl _ _ | refine Below.setCell ?_ (by simp <;> omega) _ | refine Below.alloc ?_ (by simp <;> omega) _ | refine below_drewN ?_ _ | refine Below.drew ?_)
  · obtain ⟨P,hP⟩ : ∃ P,n.tdiv (Int.gcd n d : Int) = P:=⟨_,rfl⟩
    obtain ⟨Q,hQ⟩ : ∃ Q,d / (Int.gcd n d : Int) = Q:=⟨_,rfl⟩
    have e2:=Lib.hid (red_pos hd hP hQ)
    have hPb:=tdiv_bd h1 h2 hg
    rw [hP] at hPb
    go_enter Try.func61,Try.ntmps61
    go_wp2_with (go_at_call 57;refine (in_b _ _ _ true _ (by simp;omega)).mono ?_;rintro e w' ⟨rfl,rfl⟩)
    refine (specGcd_any _ _ _ (by unfold lim;omega) (by unfold lim;omega)).mono ?_
    generalize hG : ((Int.gcd n d : Nat) : Int) = G at *
    clear hG
    rintro e w' ⟨rfl,m,rfl⟩
    go_wp2
    go_region
    go_wp2_with fail
    by_cases c1 : -999999999≤P∧P≤999999999
    · refine (in_b _ _ _ true _ (by simp;omega)).mono ?_
      rintro e w' ⟨rfl,rfl⟩
      by_cases c2 : 999999999 < Q
      · have HM:=Lib.hid (show mkN n d = it0 from by rw [H.out,if_neg (by rw [N.out,e2.out];simp;omega)])
        clear hP hQ hgn hgd
        go_wp2
        refine bodyPost_ret (v:=itVal it0) (by simp [results,Try.results61,go_sem];exact ⟨rfl,rfl,rfl⟩) rfl ⟨by rw [HM.out],?_⟩
        repeat (first | exact Below.refl _ _ | refine Below.setCell ?_ (by simp <;> omega) _ | refine Below.alloc ?_ (by simp <;> omega) _ | refine below_drewN ?_ _ | refine Below.drew ?_)
      · have HM:=Lib.hid (show mkN n d = ⟨P,Q,ByteArray.empty⟩ from by rw [H.out,if_pos (by rw [N.out,e2.out];simp;omega),e2.out])
        clear hP hQ hgn hgd
        go_wp2
        refine bodyPost_ret (v:=itVal ⟨P,Q,ByteArray.empty⟩) (by simp [results,Try.results61,go_sem];rfl) rfl ⟨by rw [HM.out],?_⟩
        repeat (first | exact Below.refl _ _ | refine Below.setCell ?_ (by simp <;> omega) _ | refine Below.alloc ?_ (by simp <;> omega) _ | refine below_drewN ?_ _ | refine Below.drew ?_)
    · refine (in_b _ _ _ false _ (by simp;omega)).mono ?_
      rintro e w' ⟨rfl,rfl⟩
      have HM:=Lib.hid (show mkN n d = it0 from by rw [H.out,if_neg (by rw [N.out,e2.out];simp;omega)])
      clear hP hQ hgn hgd
      go_wp2
      refine bodyPost_ret (v:=itVal it0) (by simp [results,Try.results61,go_sem];exact ⟨rfl,rfl,rfl⟩) rfl ⟨by rw [HM.out],?_⟩
      repeat (first | exact Below.refl _ _ | refine Below.setCell ?_ (by simp <;> omega) _ | refine Below.alloc ?_ (by simp <;> omega) _ | refine below_drewN ?_ _ | refine Below.drew ?_)
end Go.Proofs.Ytpilbhbbdldpeaa
namespace Go.Proofs.Ytpilbhbbdldpeaa
open Go.RowKit
theorem negN_pos {x : It} (h : numB x = true) : negN x = ⟨-x.num,x.den,ByteArray.empty⟩:=by unfold negN;rw [if_pos h]
theorem negN_neg {x : It} (h : numB x = false) : negN x = it0:=by unfold negN;rw [if_neg (by simp [h])]
theorem addN_pos {x y : It} (h : numB x = true) (h' : numB y = true) : addN x y = mkN (x.num * y.den + y.num * x.den) (x.den * y.den):=by unfold addN;rw [if_pos (by simp [h,h'])]
theorem addN_neg {x y : It} (h : numB x = false ∨ numB y = false) : addN x y = it0:=by unfold addN;rw [if_neg (by rcases h with h | h <;> simp [h])]
theorem mulN_pos {x y : It} (h : numB x = true) (h' : numB y = true) : mulN x y = mkN (x.num * y.num) (x.den * y.den):=by unfold mulN;rw [if_pos (by simp [h,h'])]
theorem mulN_neg {x y : It} (h : numB x = false ∨ numB y = false) : mulN x y = it0:=by unfold mulN;rw [if_neg (by rcases h with h | h <;> simp [h])]
theorem divN_pos {x y : It} (h : numB x = true) (h' : numB y = true) : divN x y = mkN (x.num * y.den) (x.den * y.num):=by unfold divN;rw [if_pos (by simp [h,h'])]
theorem divN_neg {x y : It} (h : numB x = false ∨ numB y = false) : divN x y = it0:=by unfold divN;rw [if_neg (by rcases h with h | h <;> simp [h])]
theorem implNeg_any (x : It) (w : World) : Calls Try.prog 66 #[itVal x] w (RetIt (negN x) w):=by
  by_cases hn : numB x = true
  · obtain ⟨h0,h1,h2,-⟩:=numB_iff.1 hn
    have H:=Lib.hid (negN_pos hn)
    obtain ⟨num,den,text⟩:=x
    simp only at h0 h1 h2 H
    subst h0
    go_enter Try.func66,Try.ntmps66
    go_wp2_with fail
    refine (implIsNum_any ⟨num,den,ByteArray.empty⟩ _).mono ?_
    rintro e w1 ⟨rfl,hb⟩
    rw [hn]
    obtain ⟨hc,hf⟩:=bcell hb
    have hz : w.heap.size + 1 < w1.heap.size:=by have:=hb.size;simp at this;omega
    have HB:=Lib.hid hb
    clear hb
    go_wp2
    refine bodyPost_ret (v:=itVal ⟨-num,den,ByteArray.empty⟩) (by simp [results,Try.results66,go_sem,hc,hz];rfl) rfl ⟨by rw [H.out],?_⟩
    repeat (refine Below.setCell ?_ (by simp <;> omega) _)
    refine Below.trans ?_ (HB.out.mono (by simp;omega))
    repeat (first | exact Below.refl _ _ | refine Below.setCell ?_ (by simp <;> omega) _ | refine Below.alloc ?_ (by simp <;> omega) _ | refine below_drewN ?_ _ | refine Below.drew ?_)
  · have hn : numB x = false:=by simpa using hn
    have H:=Lib.hid (negN_neg hn)
    go_enter Try.func66,Try.ntmps66
    go_wp2_with fail
    refine (implIsNum_any x _).mono ?_
    rintro e w1 ⟨rfl,hb⟩
    rw [hn]
    obtain ⟨hc,hf⟩:=bcell hb
    have hz : w.heap.size + 1 < w1.heap.size:=by have:=hb.size;simp at this;omega
    have HB:=Lib.hid hb
    clear hb
    go_wp2
    refine bodyPost_ret (v:=itVal it0) (by simp [results,Try.results66,go_sem,hc,hz];exact ⟨rfl,rfl,rfl⟩) rfl ⟨by rw [H.out],?_⟩
    repeat (refine Below.setCell ?_ (by simp <;> omega) _)
    refine Below.trans ?_ (HB.out.mono (by simp;omega))
    repeat (first | exact Below.refl _ _ | refine Below.setCell ?_ (by simp <;> omega) _ | refine Below.alloc ?_ (by simp <;> omega) _ | refine below_drewN ?_ _ | refine Below.drew ?_)
theorem specNeg_any (x : It) (w : World) : Calls Try.prog 62 #[itVal x] w (RetIt (negN x) w):=by
  by_cases hn : numB x = true
  · obtain ⟨h0,h1,h2,-⟩:=numB_iff.1 hn
    have H:=Lib.hid (negN_pos hn)
    obtain ⟨num,den,text⟩:=x
    simp only at h0 h1 h2 H
    subst h0
    go_enter Try.func62,Try.ntmps62
    go_wp2_with fail
    refine (specIsNum_any ⟨num,den,ByteArray.empty⟩ _).mono ?_
    rintro e w1 ⟨rfl,hb⟩
    rw [hn]
    obtain ⟨hc,hf⟩:=bcell hb
    have hz : w.heap.size + 1 < w1.heap.size:=by have:=hb.size;simp at this;omega
    have HB:=Lib.hid hb
    clear hb
    go_wp2
    refine bodyPost_ret (v:=itVal ⟨-num,den,ByteArray.empty⟩) (by simp [results,Try.results62,go_sem,hc,hz];rfl) rfl ⟨by rw [H.out],?_⟩
    repeat (refine Below.setCell ?_ (by simp <;> omega) _)
    refine Below.trans ?_ (HB.out.mono (by simp;omega))
    repeat (first | exact Below.refl _ _ | refine Below.setCell ?_ (by simp <;> omega) _ | refine Below.alloc ?_ (by simp <;> omega) _ | refine below_drewN ?_ _ | refine Below.drew ?_)
  · have hn : numB x = false:=by simpa using hn
    have H:=Lib.hid (negN_neg hn)
    go_enter Try.func62,Try.ntmps62
    go_wp2_with fail
    refine (specIsNum_any x _).mono ?_
    rintro e w1 ⟨rfl,hb⟩
    rw [hn]
    obtain ⟨hc,hf⟩:=bcell hb
    have hz : w.heap.size + 1 < w1.heap.size:=by have:=hb.size;simp at this;omega
    have HB:=Lib.hid hb
    clear hb
    go_wp2
    refine bodyPost_ret (v:=itVal it0) (by simp [results,Try.results62,go_sem,hc,hz];exact ⟨rfl,rfl,rfl⟩) rfl ⟨by rw [H.out],?_⟩
    repeat (refine Below.setCell ?_ (by simp <;> omega) _)
    refine Below.trans ?_ (HB.out.mono (by simp;omega))
    repeat (first | exact Below.refl _ _ | refine Below.setCell ?_ (by simp <;> omega) _ | refine Below.alloc ?_ (by simp <;> omega) _ | refine below_drewN ?_ _ | refine Below.drew ?_)
set_option maxHeartbeats 400000 in
theorem implAdd_any (x y : It) (w : World) : Calls Try.prog 46 #[itVal x,itVal y] w (RetIt (addN x y) w):=by
  by_cases hx : numB x = true
  · by_cases hy : numB y = true
    · obtain ⟨e1,r1,r2,-⟩:=numB_iff.1 hx
      obtain ⟨e2,r3,r4,-⟩:=numB_iff.1 hy
      have H:=Lib.hid (addN_pos hx hy)
      obtain ⟨n1,d1,t1⟩:=x
      obtain ⟨n2,d2,t2⟩:=y
      simp only at e1 r1 r2 e2 r3 r4 H
      subst e1 e2
      have b_n1d2:=mul_lim (a:=n1) (b:=d2) (by omega) (by omega)
      have b_n2d1:=mul_lim (a:=n2) (b:=d1) (by omega) (by omega)
      have b_d1d2:=mul_lim (a:=d1) (b:=d2) (by omega) (by omega)
      go_enter Try.func46,Try.ntmps46
      go_wp2_with fail
      refine (implIsNum_any ⟨n1,d1,ByteArray.empty⟩ _).mono ?_
      rintro e w1 ⟨rfl,hb1⟩
      rw [hx]
      obtain ⟨hc,hf⟩:=bcell hb1
      have hz : w.heap.size + 2 < w1.heap.size:=by have:=hb1.size;simp at this;omega
      have HB1:=Lib.hid hb1
      clear hb1
      go_wp2_with fail
      refine (implIsNum_any ⟨n2,d2,ByteArray.empty⟩ _).mono ?_
      rintro e w2 ⟨rfl,hb2⟩
      rw [hy]
      have hb12:=HB1.out.trans (hb2.mono HB1.out.size)
      clear hc hf hb2
      obtain ⟨hc,hf⟩:=bcell hb12
      have hz2 : w.heap.size + 2 < w2.heap.size:=by have:=hb12.size;simp at this;omega
      have HB2:=Lib.hid hb12
      clear hb12
      go_wp2_with fail
      refine (implMake_any _ _ _).mono ?_
      rintro e w3 ⟨rfl,hb3⟩
      rw [← H.out]
      have hb13:=HB2.out.trans (hb3.mono HB2.out.size)
      clear hc hf hb3
      obtain ⟨hc,hf⟩:=bcell hb13
      have hz3 : w.heap.size + 2 < w3.heap.size:=by have:=hb13.size;simp at this;omega
      have HB3:=Lib.hid hb13
      clear hb13
      go_wp2
      refine bodyPost_ret (v:=itVal (addN ⟨n1,d1,ByteArray.empty⟩ ⟨n2,d2,ByteArray.empty⟩)) (by simp [results,Try.results46,go_sem,hc,hz3]) rfl ⟨rfl,?_⟩
      repeat (refine Below.setCell ?_ (by simp <;> omega) _)
      refine Below.trans ?_ (HB3.out.mono (by simp;omega))
      repeat (first | exact Below.refl _ _ | refine Below.setCell ?_ (by simp <;> omega) _ | refine Below.alloc ?_ (by simp <;> omega) _ | refine below_drewN ?_ _ | refine Below.drew ?_)
    · have hy : numB y = false:=by simpa using hy
      have H:=Lib.hid (addN_neg (x:=x) (.inr hy))
      go_enter Try.func46,Try.ntmps46
      go_wp2_with fail
      refine (implIsNum_any x _).mono ?_
      rintro e w1 ⟨rfl,hb1⟩
      rw [hx]
      obtain ⟨hc,hf⟩:=bcell hb1
      have hz : w.heap.size + 2 < w1.heap.size:=by have:=hb1.size;simp at this;omega
      have HB1:=Lib.hid hb1
      clear hb1
      go_wp2_with fail
      refine (implIsNum_any y _).mono ?_
      rintro e w2 ⟨rfl,hb2⟩
      rw [hy]
      have hb12:=HB1.out.trans (hb2.mono HB1.out.size)
      clear hc hf hb2
      obtain ⟨hc,hf⟩:=bcell hb12
      have hz2 : w.heap.size + 2 < w2.heap.size:=by have:=hb12.size;simp at this;omega
      have HB2:=Lib.hid hb12
      clear hb12
      go_wp2
      refine bodyPost_ret (v:=itVal it0) (by simp [results,Try.results46,go_sem,hc,hz2];exact ⟨rfl,rfl,rfl⟩) rfl ⟨by rw [H.out],?_⟩
      repeat (refine Below.setCell ?_ (by simp <;> omega) _)
      refine Below.trans ?_ (HB2.out.mono (by simp;omega))
      repeat (first | exact Below.refl _ _ | refine Below.setCell ?_ (by simp <;> omega) _ | refine Below.alloc ?_ (by simp <;> omega) _ | refine below_drewN ?_ _ | refine Below.drew ?_)
  · have hx : numB x = false:=by simpa using hx
    have H:=Lib.hid (addN_neg (y:=y) (.inl hx))
    go_enter Try.func46,Try.ntmps46
    go_wp2_with fail
    refine (implIsNum_any x _).mono ?_
    rintro e w1 ⟨rfl,hb1⟩
    rw [hx]
    obtain ⟨hc,hf⟩:=bcell hb1
    have hz : w.heap.size + 2 < w1.heap.size:=by have:=hb1.size;simp at this;omega
    have HB1:=Lib.hid hb1
    clear hb1
    go_wp2
    refine bodyPost_ret (v:=itVal it0) (by simp [results,Try.results46,go_sem,hc,hz];exact ⟨rfl,rfl,rfl⟩) rfl ⟨by rw [H.out],?_⟩
    repeat (refine Below.setCell ?_ (by simp <;> omega) _)
    refine Below.trans ?_ (HB1.out.mono (by simp;omega))
    repeat (first | exact Below.refl _ _ | refine Below.setCell ?_ (by simp <;> omega) _ | refine Below.alloc ?_ (by simp <;> omega) _ | refine below_drewN ?_ _ | refine Below.drew ?_)
set_option maxHeartbeats 400000 in
theorem implMul_any (x y : It) (w : World) : Calls Try.prog 47 #[itVal x,itVal y] w (RetIt (mulN x y) w):=by
  by_cases hx : numB x = true
  · by_cases hy : numB y = true
    · obtain ⟨e1,r1,r2,-⟩:=numB_iff.1 hx
      obtain ⟨e2,r3,r4,-⟩:=numB_iff.1 hy
      have H:=Lib.hid (mulN_pos hx hy)
      obtain ⟨n1,d1,t1⟩:=x
      obtain ⟨n2,d2,t2⟩:=y
      simp only at e1 r1 r2 e2 r3 r4 H
      subst e1 e2
      have b_n1n2:=mul_lim (a:=n1) (b:=n2) (by omega) (by omega)
      have b_d1d2:=mul_lim (a:=d1) (b:=d2) (by omega) (by omega)
      go_enter Try.func47,Try.ntmps47
      go_wp2_with fail
      refine (implIsNum_any ⟨n1,d1,ByteArray.empty⟩ _).mono ?_
      rintro e w1 ⟨rfl,hb1⟩
      rw [hx]
      obtain ⟨hc,hf⟩:=bcell hb1
      have hz : w.heap.size + 2 < w1.heap.size:=by have:=hb1.size;simp at this;omega
      have HB1:=Lib.hid hb1
      clear hb1
      go_wp2_with fail
      refine (implIsNum_any ⟨n2,d2,ByteArray.empty⟩ _).mono ?_
      rintro e w2 ⟨rfl,hb2⟩
      rw [hy]
      have hb12:=HB1.out.trans (hb2.mono HB1.out.size)
      clear hc hf hb2
      obtain ⟨hc,hf⟩:=bcell hb12
      have hz2 : w.heap.size + 2 < w2.heap.size:=by have:=hb12.size;simp at this;omega
      have HB2:=Lib.hid hb12
      clear hb12
      go_wp2_with fail
      refine (implMake_any _ _ _).mono ?_
      rintro e w3 ⟨rfl,hb3⟩
      rw [← H.out]
      have hb13:=HB2.out.trans (hb3.mono HB2.out.size)
      clear hc hf hb3
      obtain ⟨hc,hf⟩:=bcell hb13
      have hz3 : w.heap.size + 2 < w3.heap.size:=by have:=hb13.size;simp at this;omega
      have HB3:=Lib.hid hb13
      clear hb13
      go_wp2
      refine bodyPost_ret (v:=itVal (mulN ⟨n1,d1,ByteArray.empty⟩ ⟨n2,d2,ByteArray.empty⟩)) (by simp [results,Try.results47,go_sem,hc,hz3]) rfl ⟨rfl,?_⟩
      repeat (refine Below.setCell ?_ (by simp <;> omega) _)
      refine Below.trans ?_ (HB3.out.mono (by simp;omega))
      repeat (first | exact Below.refl _ _ | refine Below.setCell ?_ (by simp <;> omega) _ | refine Below.alloc ?_ (by simp <;> omega) _ | refine below_drewN ?_ _ | refine Below.drew ?_)
    · have hy : numB y = false:=by simpa using hy
      have H:=Lib.hid (mulN_neg (x:=x) (.inr hy))
      go_enter Try.func47,Try.ntmps47
      go_wp2_with fail
      refine (implIsNum_any x _).mono ?_
      rintro e w1 ⟨rfl,hb1⟩
      rw [hx]
      obtain ⟨hc,hf⟩:=bcell hb1
      have hz : w.heap.size + 2 < w1.heap.size:=by have:=hb1.size;simp at this;omega
      have HB1:=Lib.hid hb1
      clear hb1
      go_wp2_with fail
      refine (implIsNum_any y _).mono ?_
      rintro e w2 ⟨rfl,hb2⟩
      rw [hy]
      have hb12:=HB1.out.trans (hb2.mono HB1.out.size)
      clear hc hf hb2
      obtain ⟨hc,hf⟩:=bcell hb12
      have hz2 : w.heap.size + 2 < w2.heap.size:=by have:=hb12.size;simp at this;omega
      have HB2:=Lib.hid hb12
      clear hb12
      go_wp2
      refine bodyPost_ret (v:=itVal it0) (by simp [results,Try.results47,go_sem,hc,hz2];exact ⟨rfl,rfl,rfl⟩) rfl ⟨by rw [H.out],?_⟩
      repeat (refine Below.setCell ?_ (by simp <;> omega) _)
      refine Below.trans ?_ (HB2.out.mono (by simp;omega))
      repeat (first | exact Below.refl _ _ | refine Below.setCell ?_ (by simp <;> omega) _ | refine Below.alloc ?_ (by simp <;> omega) _ | refine below_drewN ?_ _ | refine Below.drew ?_)
  · have hx : numB x = false:=by simpa using hx
    have H:=Lib.hid (mulN_neg (y:=y) (.inl hx))
    go_enter Try.func47,Try.ntmps47
    go_wp2_with fail
    refine (implIsNum_any x _).mono ?_
    rintro e w1 ⟨rfl,hb1⟩
    rw [hx]
    obtain ⟨hc,hf⟩:=bcell hb1
    have hz : w.heap.size + 2 < w1.heap.size:=by have:=hb1.size;simp at this;omega
    have HB1:=Lib.hid hb1
    clear hb1
    go_wp2
    refine bodyPost_ret (v:=itVal it0) (by simp [results,Try.results47,go_sem,hc,hz];exact ⟨rfl,rfl,rfl⟩) rfl ⟨by rw [H.out],?_⟩
    repeat (refine Below.setCell ?_ (by simp <;> omega) _)
    refine Below.trans ?_ (HB1.out.mono (by simp;omega))
    repeat (first | exact Below.refl _ _ | refine Below.setCell ?_ (by simp <;> omega) _ | refine Below.alloc ?_ (by simp <;> omega) _ | refine below_drewN ?_ _ | refine Below.drew ?_)
set_option maxHeartbeats 400000 in
theorem implDiv_any (x y : It) (w : World) : Calls Try.prog 55 #[itVal x,itVal y] w (RetIt (divN x y) w):=by
  by_cases hx : numB x = true
  · by_cases hy : numB y = true
    · obtain ⟨e1,r1,r2,-⟩:=numB_iff.1 hx
      obtain ⟨e2,r3,r4,-⟩:=numB_iff.1 hy
      have H:=Lib.hid (divN_pos hx hy)
      obtain ⟨n1,d1,t1⟩:=x
      obtain ⟨n2,d2,t2⟩:=y
      simp only at e1 r1 r2 e2 r3 r4 H
      subst e1 e2
      have b_n1d2:=mul_lim (a:=n1) (b:=d2) (by omega) (by omega)
      have b_d1n2:=mul_lim (a:=d1) (b:=n2) (by omega) (by omega)
      by_cases hz0 : n2 = 0
      · have HD:=Lib.hid (show divN ⟨n1,d1,ByteArray.empty⟩ ⟨n2,d2,ByteArray.empty⟩ = it0 from by rw [H.out,hz0,Int.mul_zero,mkN_zero])
        have bz : (n2 == 0) = true:=beq_iff_eq.2 hz0
        clear hz0
        go_enter Try.func55,Try.ntmps55
        go_wp2_with fail
        refine (implIsNum_any ⟨n1,d1,ByteArray.empty⟩ _).mono ?_
        rintro e w1 ⟨rfl,hb1⟩
        rw [hx]
        obtain ⟨hc,hf⟩:=bcell hb1
        have hz : w.heap.size + 2 < w1.heap.size:=by have:=hb1.size;simp at this;omega
        have HB1:=Lib.hid hb1
        clear hb1
        go_wp2_with fail
        refine (implIsNum_any ⟨n2,d2,ByteArray.empty⟩ _).mono ?_
        rintro e w2 ⟨rfl,hb2⟩
        rw [hy]
        have hb12:=HB1.out.trans (hb2.mono HB1.out.size)
        clear hc hf hb2
        obtain ⟨hc,hf⟩:=bcell hb12
        have hz2 : w.heap.size + 2 < w2.heap.size:=by have:=hb12.size;simp at this;omega
        have HB2:=Lib.hid hb12
        clear hb12
        go_wp2
        refine bodyPost_ret (v:=itVal it0) (by simp [results,Try.results55,go_sem,hc,hz2];exact ⟨rfl,rfl,rfl⟩) rfl ⟨by rw [HD.out],?_⟩
        repeat (refine Below.setCell ?_ (by simp <;> omega) _)
        refine Below.trans ?_ (HB2.out.mono (by simp;omega))
        repeat (first | exact Below.refl _ _ | refine Below.setCell ?_ (by simp <;> omega) _ | refine Below.alloc ?_ (by simp <;> omega) _ | refine below_drewN ?_ _ | refine Below.drew ?_)
      have bz : (n2 == 0) = false:=beq_eq_false_iff_ne.2 hz0
      go_enter Try.func55,Try.ntmps55
      go_wp2_with fail
      refine (implIsNum_any ⟨n1,d1,ByteArray.empty⟩ _).mono ?_
      rintro e w1 ⟨rfl,hb1⟩
      rw [hx]
      obtain ⟨hc,hf⟩:=bcell hb1
      have hz : w.heap.size + 2 < w1.heap.size:=by have:=hb1.size;simp at this;omega
      have HB1:=Lib.hid hb1
      clear hb1
      go_wp2_with fail
      refine (implIsNum_any ⟨n2,d2,ByteArray.empty⟩ _).mono ?_
      rintro e w2 ⟨rfl,hb2⟩
      rw [hy]
      have hb12:=HB1.out.trans (hb2.mono HB1.out.size)
      clear hc hf hb2
      obtain ⟨hc,hf⟩:=bcell hb12
      have hz2 : w.heap.size + 2 < w2.heap.size:=by have:=hb12.size;simp at this;omega
      have HB2:=Lib.hid hb12
      clear hb12
      go_wp2_with fail
      refine (implMake_any _ _ _).mono ?_
      rintro e w3 ⟨rfl,hb3⟩
      rw [← H.out]
      have hb13:=HB2.out.trans (hb3.mono HB2.out.size)
      clear hc hf hb3
      obtain ⟨hc,hf⟩:=bcell hb13
      have hz3 : w.heap.size + 2 < w3.heap.size:=by have:=hb13.size;simp at this;omega
      have HB3:=Lib.hid hb13
      clear hb13
      go_wp2
      refine bodyPost_ret (v:=itVal (divN ⟨n1,d1,ByteArray.empty⟩ ⟨n2,d2,ByteArray.empty⟩)) (by simp [results,Try.results55,go_sem,hc,hz3]) rfl ⟨rfl,?_⟩
      repeat (refine Below.setCell ?_ (by simp <;> omega) _)
      refine Below.trans ?_ (HB3.out.mono (by simp;omega))
      repeat (first | exact Below.refl _ _ | refine Below.setCell ?_ (by simp <;> omega) _ | refine Below.alloc ?_ (by simp <;> omega) _ | refine below_drewN ?_ _ | refine Below.drew ?_)
    · have hy : numB y = false:=by simpa using hy
      have H:=Lib.hid (divN_neg (x:=x) (.inr hy))
      go_enter Try.func55,Try.ntmps55
      go_wp2_with fail
      refine (implIsNum_any x _).mono ?_
      rintro e w1 ⟨rfl,hb1⟩
      rw [hx]
      obtain ⟨hc,hf⟩:=bcell hb1
      have hz : w.heap.size + 2 < w1.heap.size:=by have:=hb1.size;simp at this;omega
      have HB1:=Lib.hid hb1
      clear hb1
      go_wp2_with fail
      refine (implIsNum_any y _).mono ?_
      rintro e w2 ⟨rfl,hb2⟩
      rw [hy]
      have hb12:=HB1.out.trans (hb2.mono HB1.out.size)
      clear hc hf hb2
      obtain ⟨hc,hf⟩:=bcell hb12
      have hz2 : w.heap.size + 2 < w2.heap.size:=by have:=hb12.size;simp at this;omega
      have HB2:=Lib.hid hb12
      clear hb12
      go_wp2
      refine bodyPost_ret (v:=itVal it0) (by simp [results,Try.results55,go_sem,hc,hz2];exact ⟨rfl,rfl,rfl⟩) rfl ⟨by rw [H.out],?_⟩
      repeat (refine Below.setCell ?_ (by simp <;> omega) _)
      refine Below.trans ?_ (HB2.out.mono (by simp;omega))
      repeat (first | exact Below.refl _ _ | refine Below.setCell ?_ (by simp <;> omega) _ | refine Below.alloc ?_ (by simp <;> omega) _ | refine below_drewN ?_ _ | refine Below.drew ?_)
  · have hx : numB x = false:=by simpa using hx
    have H:=Lib.hid (divN_neg (y:=y) (.inl hx))
    go_enter Try.func55,Try.ntmps55
    go_wp2_with fail
    refine (implIsNum_any x _).mono ?_
    rintro e w1 ⟨rfl,hb1⟩
    rw [hx]
    obtain ⟨hc,hf⟩:=bcell hb1
    have hz : w.heap.size + 2 < w1.heap.size:=by have:=hb1.size;simp at this;omega
    have HB1:=Lib.hid hb1
    clear hb1
    go_wp2
    refine bodyPost_ret (v:=itVal it0) (by simp [results,Try.results55,go_sem,hc,hz];exact ⟨rfl,rfl,rfl⟩) rfl ⟨by rw [H.out],?_⟩
    repeat (refine Below.setCell ?_ (by simp <;> omega) _)
    refine Below.trans ?_ (HB1.out.mono (by simp;omega))
    repeat (first | exact Below.refl _ _ | refine Below.setCell ?_ (by simp <;> omega) _ | refine Below.alloc ?_ (by simp <;> omega) _ | refine below_drewN ?_ _ | refine Below.drew ?_)
set_option maxHeartbeats 400000 in
theorem specAdd_any (x y : It) (w : World) : Calls Try.prog 40 #[itVal x,itVal y] w (RetIt (addN x y) w):=by
  by_cases hx : numB x = true
  · by_cases hy : numB y = true
    · obtain ⟨e1,r1,r2,-⟩:=numB_iff.1 hx
      obtain ⟨e2,r3,r4,-⟩:=numB_iff.1 hy
      have H:=Lib.hid (addN_pos hx hy)
      obtain ⟨n1,d1,t1⟩:=x
      obtain ⟨n2,d2,t2⟩:=y
      simp only at e1 r1 r2 e2 r3 r4 H
      subst e1 e2
      have b_n1d2:=mul_lim (a:=n1) (b:=d2) (by omega) (by omega)
      have b_n2d1:=mul_lim (a:=n2) (b:=d1) (by omega) (by omega)
      have b_d1d2:=mul_lim (a:=d1) (b:=d2) (by omega) (by omega)
      go_enter Try.func40,Try.ntmps40
      go_wp2_with fail
      refine (specIsNum_any ⟨n1,d1,ByteArray.empty⟩ _).mono ?_
      rintro e w1 ⟨rfl,hb1⟩
      rw [hx]
      obtain ⟨hc,hf⟩:=bcell hb1
      have hz : w.heap.size + 2 < w1.heap.size:=by have:=hb1.size;simp at this;omega
      have HB1:=Lib.hid hb1
      clear hb1
      go_wp2_with fail
      refine (specIsNum_any ⟨n2,d2,ByteArray.empty⟩ _).mono ?_
      rintro e w2 ⟨rfl,hb2⟩
      rw [hy]
      have hb12:=HB1.out.trans (hb2.mono HB1.out.size)
      clear hc hf hb2
      obtain ⟨hc,hf⟩:=bcell hb12
      have hz2 : w.heap.size + 2 < w2.heap.size:=by have:=hb12.size;simp at this;omega
      have HB2:=Lib.hid hb12
      clear hb12
      go_wp2_with fail
      refine (specMake_any _ _ _).mono ?_
      rintro e w3 ⟨rfl,hb3⟩
      rw [← H.out]
      have hb13:=HB2.out.trans (hb3.mono HB2.out.size)
      clear hc hf hb3
      obtain ⟨hc,hf⟩:=bcell hb13
      have hz3 : w.heap.size + 2 < w3.heap.size:=by have:=hb13.size;simp at this;omega
      have HB3:=Lib.hid hb13
      clear hb13
      go_wp2
      refine bodyPost_ret (v:=itVal (addN ⟨n1,d1,ByteArray.empty⟩ ⟨n2,d2,ByteArray.empty⟩)) (by simp [results,Try.results40,go_sem,hc,hz3]) rfl ⟨rfl,?_⟩
      repeat (refine Below.setCell ?_ (by simp <;> omega) _)
      refine Below.trans ?_ (HB3.out.mono (by simp;omega))
      repeat (first | exact Below.refl _ _ | refine Below.setCell ?_ (by simp <;> omega) _ | refine Below.alloc ?_ (by simp <;> omega) _ | refine below_drewN ?_ _ | refine Below.drew ?_)
    · have hy : numB y = false:=by simpa using hy
      have H:=Lib.hid (addN_neg (x:=x) (.inr hy))
      go_enter Try.func40,Try.ntmps40
      go_wp2_with fail
      refine (specIsNum_any x _).mono ?_
      rintro e w1 ⟨rfl,hb1⟩
      rw [hx]
      obtain ⟨hc,hf⟩:=bcell hb1
      have hz : w.heap.size + 2 < w1.heap.size:=by have:=hb1.size;simp at this;omega
      have HB1:=Lib.hid hb1
      clear hb1
      go_wp2_with fail
      refine (specIsNum_any y _).mono ?_
      rintro e w2 ⟨rfl,hb2⟩
      rw [hy]
      have hb12:=HB1.out.trans (hb2.mono HB1.out.size)
      clear hc hf hb2
      obtain ⟨hc,hf⟩:=bcell hb12
      have hz2 : w.heap.size + 2 < w2.heap.size:=by have:=hb12.size;simp at this;omega
      have HB2:=Lib.hid hb12
      clear hb12
      go_wp2
      refine bodyPost_ret (v:=itVal it0) (by simp [results,Try.results40,go_sem,hc,hz2];exact ⟨rfl,rfl,rfl⟩) rfl ⟨by rw [H.out],?_⟩
      repeat (refine Below.setCell ?_ (by simp <;> omega) _)
      refine Below.trans ?_ (HB2.out.mono (by simp;omega))
      repeat (first | exact Below.refl _ _ | refine Below.setCell ?_ (by simp <;> omega) _ | refine Below.alloc ?_ (by simp <;> omega) _ | refine below_drewN ?_ _ | refine Below.drew ?_)
  · have hx : numB x = false:=by simpa using hx
    have H:=Lib.hid (addN_neg (y:=y) (.inl hx))
    go_enter Try.func40,Try.ntmps40
    go_wp2_with fail
    refine (specIsNum_any x _).mono ?_
    rintro e w1 ⟨rfl,hb1⟩
    rw [hx]
    obtain ⟨hc,hf⟩:=bcell hb1
    have hz : w.heap.size + 2 < w1.heap.size:=by have:=hb1.size;simp at this;omega
    have HB1:=Lib.hid hb1
    clear hb1
    go_wp2
    refine bodyPost_ret (v:=itVal it0) (by simp [results,Try.results40,go_sem,hc,hz];exact ⟨rfl,rfl,rfl⟩) rfl ⟨by rw [H.out],?_⟩
    repeat (refine Below.setCell ?_ (by simp <;> omega) _)
    refine Below.trans ?_ (HB1.out.mono (by simp;omega))
    repeat (first | exact Below.refl _ _ | refine Below.setCell ?_ (by simp <;> omega) _ | refine Below.alloc ?_ (by simp <;> omega) _ | refine below_drewN ?_ _ | refine Below.drew ?_)
set_option maxHeartbeats 400000 in
theorem specMul_any (x y : It) (w : World) : Calls Try.prog 41 #[itVal x,itVal y] w (RetIt (mulN x y) w):=by
  by_cases hx : numB x = true
  · by_cases hy : numB y = true
    · obtain ⟨e1,r1,r2,-⟩:=numB_iff.1 hx
      obtain ⟨e2,r3,r4,-⟩:=numB_iff.1 hy
      have H:=Lib.hid (mulN_pos hx hy)
      obtain ⟨n1,d1,t1⟩:=x
      obtain ⟨n2,d2,t2⟩:=y
      simp only at e1 r1 r2 e2 r3 r4 H
      subst e1 e2
      have b_n1n2:=mul_lim (a:=n1) (b:=n2) (by omega) (by omega)
      have b_d1d2:=mul_lim (a:=d1) (b:=d2) (by omega) (by omega)
      go_enter Try.func41,Try.ntmps41
      go_wp2_with fail
      refine (specIsNum_any ⟨n1,d1,ByteArray.empty⟩ _).mono ?_
      rintro e w1 ⟨rfl,hb1⟩
      rw [hx]
      obtain ⟨hc,hf⟩:=bcell hb1
      have hz : w.heap.size + 2 < w1.heap.size:=by have:=hb1.size;simp at this;omega
      have HB1:=Lib.hid hb1
      clear hb1
      go_wp2_with fail
      refine (specIsNum_any ⟨n2,d2,ByteArray.empty⟩ _).mono ?_
      rintro e w2 ⟨rfl,hb2⟩
      rw [hy]
      have hb12:=HB1.out.trans (hb2.mono HB1.out.size)
      clear hc hf hb2
      obtain ⟨hc,hf⟩:=bcell hb12
      have hz2 : w.heap.size + 2 < w2.heap.size:=by have:=hb12.size;simp at this;omega
      have HB2:=Lib.hid hb12
      clear hb12
      go_wp2_with fail
      refine (specMake_any _ _ _).mono ?_
      rintro e w3 ⟨rfl,hb3⟩
      rw [← H.out]
      have hb13:=HB2.out.trans (hb3.mono HB2.out.size)
      clear hc hf hb3
      obtain ⟨hc,hf⟩:=bcell hb13
      have hz3 : w.heap.size + 2 < w3.heap.size:=by have:=hb13.size;simp at this;omega
      have HB3:=Lib.hid hb13
      clear hb13
      go_wp2
      refine bodyPost_ret (v:=itVal (mulN ⟨n1,d1,ByteArray.empty⟩ ⟨n2,d2,ByteArray.empty⟩)) (by simp [results,Try.results41,go_sem,hc,hz3]) rfl ⟨rfl,?_⟩
      repeat (refine Below.setCell ?_ (by simp <;> omega) _)
      refine Below.trans ?_ (HB3.out.mono (by simp;omega))
      repeat (first | exact Below.refl _ _ | refine Below.setCell ?_ (by simp <;> omega) _ | refine Below.alloc ?_ (by simp <;> omega) _ | refine below_drewN ?_ _ | refine Below.drew ?_)
    · have hy : numB y = false:=by simpa using hy
      have H:=Lib.hid (mulN_neg (x:=x) (.inr hy))
      go_enter Try.func41,Try.ntmps41
      go_wp2_with fail
      refine (specIsNum_any x _).mono ?_
      rintro e w1 ⟨rfl,hb1⟩
      rw [hx]
      obtain ⟨hc,hf⟩:=bcell hb1
      have hz : w.heap.size + 2 < w1.heap.size:=by have:=hb1.size;simp at this;omega
      have HB1:=Lib.hid hb1
      clear hb1
      go_wp2_with fail
      refine (specIsNum_any y _).mono ?_
      rintro e w2 ⟨rfl,hb2⟩
      rw [hy]
      have hb12:=HB1.out.trans (hb2.mono HB1.out.size)
      clear hc hf hb2
      obtain ⟨hc,hf⟩:=bcell hb12
      have hz2 : w.heap.size + 2 < w2.heap.size:=by have:=hb12.size;simp at this;omega
      have HB2:=Lib.hid hb12
      clear hb12
      go_wp2
      refine bodyPost_ret (v:=itVal it0) (by simp [results,Try.results41,go_sem,hc,hz2];exact ⟨rfl,rfl,rfl⟩) rfl ⟨by rw [H.out],?_⟩
      repeat (refine Below.setCell ?_ (by simp <;> omega) _)
      refine Below.trans ?_ (HB2.out.mono (by simp;omega))
      repeat (first | exact Below.refl _ _ | refine Below.setCell ?_ (by simp <;> omega) _ | refine Below.alloc ?_ (by simp <;> omega) _ | refine below_drewN ?_ _ | refine Below.drew ?_)
  · have hx : numB x = false:=by simpa using hx
    have H:=Lib.hid (mulN_neg (y:=y) (.inl hx))
    go_enter Try.func41,Try.ntmps41
    go_wp2_with fail
    refine (specIsNum_any x _).mono ?_
    rintro e w1 ⟨rfl,hb1⟩
    rw [hx]
    obtain ⟨hc,hf⟩:=bcell hb1
    have hz : w.heap.size + 2 < w1.heap.size:=by have:=hb1.size;simp at this;omega
    have HB1:=Lib.hid hb1
    clear hb1
    go_wp2
    refine bodyPost_ret (v:=itVal it0) (by simp [results,Try.results41,go_sem,hc,hz];exact ⟨rfl,rfl,rfl⟩) rfl ⟨by rw [H.out],?_⟩
    repeat (refine Below.setCell ?_ (by simp <;> omega) _)
    refine Below.trans ?_ (HB1.out.mono (by simp;omega))
    repeat (first | exact Below.refl _ _ | refine Below.setCell ?_ (by simp <;> omega) _ | refine Below.alloc ?_ (by simp <;> omega) _ | refine below_drewN ?_ _ | refine Below.drew ?_)
set_option maxHeartbeats 400000 in
theorem specDiv_any (x y : It) (w : World) : Calls Try.prog 59 #[itVal x,itVal y] w (RetIt (divN x y) w):=by
  by_cases hx : numB x = true
  · by_cases hy : numB y = true
    · obtain ⟨e1,r1,r2,-⟩:=numB_iff.1 hx
      obtain ⟨e2,r3,r4,-⟩:=numB_iff.1 hy
      have H:=Lib.hid (divN_pos hx hy)
      obtain ⟨n1,d1,t1⟩:=x
      obtain ⟨n2,d2,t2⟩:=y
      simp only at e1 r1 r2 e2 r3 r4 H
      subst e1 e2
      have b_n1d2:=mul_lim (a:=n1) (b:=d2) (by omega) (by omega)
      have b_d1n2:=mul_lim (a:=d1) (b:=n2) (by omega) (by omega)
      go_enter Try.func59,Try.ntmps59
      go_wp2_with fail
      refine (specIsNum_any ⟨n1,d1,ByteArray.empty⟩ _).mono ?_
      rintro e w1 ⟨rfl,hb1⟩
      rw [hx]
      obtain ⟨hc,hf⟩:=bcell hb1
      have hz : w.heap.size + 2 < w1.heap.size:=by have:=hb1.size;simp at this;omega
      have HB1:=Lib.hid hb1
      clear hb1
      go_wp2_with fail
      refine (specIsNum_any ⟨n2,d2,ByteArray.empty⟩ _).mono ?_
      rintro e w2 ⟨rfl,hb2⟩
      rw [hy]
      have hb12:=HB1.out.trans (hb2.mono HB1.out.size)
      clear hc hf hb2
      obtain ⟨hc,hf⟩:=bcell hb12
      have hz2 : w.heap.size + 2 < w2.heap.size:=by have:=hb12.size;simp at this;omega
      have HB2:=Lib.hid hb12
      clear hb12
      go_wp2_with fail
      refine (specMake_any _ _ _).mono ?_
      rintro e w3 ⟨rfl,hb3⟩
      rw [← H.out]
      have hb13:=HB2.out.trans (hb3.mono HB2.out.size)
      clear hc hf hb3
      obtain ⟨hc,hf⟩:=bcell hb13
      have hz3 : w.heap.size + 2 < w3.heap.size:=by have:=hb13.size;simp at this;omega
      have HB3:=Lib.hid hb13
      clear hb13
      go_wp2
      refine bodyPost_ret (v:=itVal (divN ⟨n1,d1,ByteArray.empty⟩ ⟨n2,d2,ByteArray.empty⟩)) (by simp [results,Try.results59,go_sem,hc,hz3]) rfl ⟨rfl,?_⟩
      repeat (refine Below.setCell ?_ (by simp <;> omega) _)
      refine Below.trans ?_ (HB3.out.mono (by simp;omega))
      repeat (first | exact Below.refl _ _ | refine Below.setCell ?_ (by simp <;> omega) _ | refine Below.alloc ?_ (by simp <;> omega) _ | refine below_drewN ?_ _ | refine Below.drew ?_)
    · have hy : numB y = false:=by simpa using hy
      have H:=Lib.hid (divN_neg (x:=x) (.inr hy))
      go_enter Try.func59,Try.ntmps59
      go_wp2_with fail
      refine (specIsNum_any x _).mono ?_
      rintro e w1 ⟨rfl,hb1⟩
      rw [hx]
      obtain ⟨hc,hf⟩:=bcell hb1
      have hz : w.heap.size + 2 < w1.heap.size:=by have:=hb1.size;simp at this;omega
      have HB1:=Lib.hid hb1
      clear hb1
      go_wp2_with fail
      refine (specIsNum_any y _).mono ?_
      rintro e w2 ⟨rfl,hb2⟩
      rw [hy]
      have hb12:=HB1.out.trans (hb2.mono HB1.out.size)
      clear hc hf hb2
      obtain ⟨hc,hf⟩:=bcell hb12
      have hz2 : w.heap.size + 2 < w2.heap.size:=by have:=hb12.size;simp at this;omega
      have HB2:=Lib.hid hb12
      clear hb12
      go_wp2
      refine bodyPost_ret (v:=itVal it0) (by simp [results,Try.results59,go_sem,hc,hz2];exact ⟨rfl,rfl,rfl⟩) rfl ⟨by rw [H.out],?_⟩
      repeat (refine Below.setCell ?_ (by simp <;> omega) _)
      refine Below.trans ?_ (HB2.out.mono (by simp;omega))
      repeat (first | exact Below.refl _ _ | refine Below.setCell ?_ (by simp <;> omega) _ | refine Below.alloc ?_ (by simp <;> omega) _ | refine below_drewN ?_ _ | refine Below.drew ?_)
  · have hx : numB x = false:=by simpa using hx
    have H:=Lib.hid (divN_neg (y:=y) (.inl hx))
    go_enter Try.func59,Try.ntmps59
    go_wp2_with fail
    refine (specIsNum_any x _).mono ?_
    rintro e w1 ⟨rfl,hb1⟩
    rw [hx]
    obtain ⟨hc,hf⟩:=bcell hb1
    have hz : w.heap.size + 2 < w1.heap.size:=by have:=hb1.size;simp at this;omega
    have HB1:=Lib.hid hb1
    clear hb1
    go_wp2
    refine bodyPost_ret (v:=itVal it0) (by simp [results,Try.results59,go_sem,hc,hz];exact ⟨rfl,rfl,rfl⟩) rfl ⟨by rw [H.out],?_⟩
    repeat (refine Below.setCell ?_ (by simp <;> omega) _)
    refine Below.trans ?_ (HB1.out.mono (by simp;omega))
    repeat (first | exact Below.refl _ _ | refine Below.setCell ?_ (by simp <;> omega) _ | refine Below.alloc ?_ (by simp <;> omega) _ | refine below_drewN ?_ _ | refine Below.drew ?_)
end Go.Proofs.Ytpilbhbbdldpeaa
namespace Go.Proofs.Ytpilbhbbdldpeaa
open Go.RowKit
set_option maxHeartbeats 400000 in
theorem implSub_any (x y : It) (w : World) : Calls Try.prog 56 #[itVal x,itVal y] w (RetIt (subN x y) w):=by
  go_enter Try.func56,Try.ntmps56
  go_wp2_with fail
  go_region_with (first
    | (go_at_call 66;refine (implNeg_any y _).mono ?_;rintro e w1 ⟨rfl,hb1⟩;obtain ⟨hc,hf⟩:=bcell hb1;have HB1:=Lib.hid hb1;clear hb1)
    | (go_at_call 46;refine (implAdd_any x (negN y) _).mono ?_;rintro e w2 ⟨rfl,hb2⟩;have hb12:=HB1.out.trans (hb2.mono HB1.out.size);clear hc hf hb2;obtain ⟨hc,hf⟩:=bcell hb12;have HB2:=Lib.hid hb12;clear hb12))
  all_goals
    go_wp2
    refine bodyPost_ret (v:=itVal (addN x (negN y))) (by simp [results,Try.results56,go_sem,hc]) rfl ⟨rfl,?_⟩
    repeat (refine Below.setCell ?_ (by simp <;> omega) _)
    refine Below.trans ?_ (HB2.out.mono (by simp;omega))
    repeat (first | exact Below.refl _ _ | refine Below.setCell ?_ (by simp <;> omega) _ | refine Below.alloc ?_ (by simp <;> omega) _ | refine below_drewN ?_ _ | refine Below.drew ?_)
set_option maxHeartbeats 400000 in
theorem specSub_any (x y : It) (w : World) : Calls Try.prog 42 #[itVal x,itVal y] w (RetIt (subN x y) w):=by
  go_enter Try.func42,Try.ntmps42
  go_wp2_with fail
  go_region_with (first
    | (go_at_call 62;refine (specNeg_any y _).mono ?_;rintro e w1 ⟨rfl,hb1⟩;obtain ⟨hc,hf⟩:=bcell hb1;have HB1:=Lib.hid hb1;clear hb1)
    | (go_at_call 40;refine (specAdd_any x (negN y) _).mono ?_;rintro e w2 ⟨rfl,hb2⟩;have hb12:=HB1.out.trans (hb2.mono HB1.out.size);clear hc hf hb2;obtain ⟨hc,hf⟩:=bcell hb12;have HB2:=Lib.hid hb12;clear hb12))
  all_goals
    go_wp2
    refine bodyPost_ret (v:=itVal (addN x (negN y))) (by simp [results,Try.results42,go_sem,hc]) rfl ⟨rfl,?_⟩
    repeat (refine Below.setCell ?_ (by simp <;> omega) _)
    refine Below.trans ?_ (HB2.out.mono (by simp;omega))
    repeat (first | exact Below.refl _ _ | refine Below.setCell ?_ (by simp <;> omega) _ | refine Below.alloc ?_ (by simp <;> omega) _ | refine below_drewN ?_ _ | refine Below.drew ?_)
def intN (n : Int) : It:=mkN n 1
theorem intItem_any (n : Int) (w : World) : Calls Try.prog 38 #[.int .i64 n] w (RetIt (intN n) w):=by
  go_enter Try.func38,Try.ntmps38
  go_wp2_with fail
  refine (implMake_any n 1 _).mono ?_
  rintro e w1 ⟨rfl,hb1⟩
  obtain ⟨hc,hf⟩:=bcell hb1
  have HB1:=Lib.hid hb1
  clear hb1
  go_wp2
  refine bodyPost_ret (v:=itVal (mkN n 1)) (by simp [results,Try.results38,go_sem,hc]) rfl ⟨rfl,?_⟩
  repeat (refine Below.setCell ?_ (by simp <;> omega) _)
  refine Below.trans ?_ (HB1.out.mono (by simp))
  repeat (first | exact Below.refl _ _ | refine Below.setCell ?_ (by simp <;> omega) _ | refine Below.alloc ?_ (by simp <;> omega) _ | refine below_drewN ?_ _ | refine Below.drew ?_)
def l2N (n : Int) : It:=⟨n,1,ByteArray.empty⟩
theorem numB_l2N {n : Int} (h : -999999999≤n∧n≤999999999) : numB (l2N n) = true:=by
  rw [numB_iff];exact ⟨rfl,⟨by show (1 : Int)≤1;omega,by show (1 : Int)≤999999999;omega⟩,h,by simp [l2N]⟩
theorem intN_eq {n : Int} (h : -999999999≤n∧n≤999999999) : intN n = l2N n:=by
  have e : redN n 1 = l2N n:=by simp [redN,l2N]
  unfold intN
  rw [mkN_pos (by decide) (by unfold lim;omega) (by decide),e,if_pos (numB_l2N h)]
theorem l2Num_any (n : Int) (w : World) : Calls Try.prog 44 #[.int .i64 n] w (RetIt (l2N n) w):=by
  go_enter Try.func44,Try.ntmps44
  go_wp2
  refine bodyPost_ret (v:=itVal (l2N n)) (by simp [results,Try.results44,go_sem,l2N];try rfl) rfl ⟨rfl,?_⟩
  repeat (first | exact Below.refl _ _ | refine Below.setCell ?_ (by simp <;> omega) _ | refine Below.alloc ?_ (by simp <;> omega) _ | refine below_drewN ?_ _ | refine Below.drew ?_)
theorem isMissing_any (x : It) (w : World) : Calls Try.prog 37 #[itVal x] w fun e w'=>e = .returned (.bool (decide (x = it0)))∧Below w.heap.size w w':=by
  obtain ⟨n,d,t⟩:=x
  by_cases h1 : n = 0
  · subst h1
    by_cases h2 : d = 0
    · subst h2
      by_cases h3 : t = ByteArray.empty
      · subst h3
        have H:=Lib.hid (show decide ((⟨0,0,ByteArray.empty⟩ : It) = it0) = true from by simp [it0])
        go_enter Try.func37,Try.ntmps37
        go_wp2
        go_ret
        exact ⟨by rw [H.out];rfl,by repeat (first | exact Below.refl _ _ | refine Below.setCell ?_ (by simp <;> omega) _ | refine Below.alloc ?_ (by simp <;> omega) _ | refine below_drewN ?_ _ | refine Below.drew ?_)⟩
      · have H:=Lib.hid (show decide ((⟨0,0,t⟩ : It) = it0) = false from by simp [it0,h3])
        have b:=ba_nil h3
        go_enter Try.func37,Try.ntmps37
        go_wp2
        go_ret
        exact ⟨by rw [H.out];rfl,by repeat (first | exact Below.refl _ _ | refine Below.setCell ?_ (by simp <;> omega) _ | refine Below.alloc ?_ (by simp <;> omega) _ | refine below_drewN ?_ _ | refine Below.drew ?_)⟩
    · have H:=Lib.hid (show decide ((⟨0,d,t⟩ : It) = it0) = false from by simp [it0,h2])
      go_enter Try.func37,Try.ntmps37
      go_wp2
      go_ret
      exact ⟨by rw [H.out];rfl,by repeat (first | exact Below.refl _ _ | refine Below.setCell ?_ (by simp <;> omega) _ | refine Below.alloc ?_ (by simp <;> omega) _ | refine below_drewN ?_ _ | refine Below.drew ?_)⟩
  · have H:=Lib.hid (show decide ((⟨n,d,t⟩ : It) = it0) = false from by simp [it0,h1])
    go_enter Try.func37,Try.ntmps37
    go_wp2
    go_ret
    exact ⟨by rw [H.out];rfl,by repeat (first | exact Below.refl _ _ | refine Below.setCell ?_ (by simp <;> omega) _ | refine Below.alloc ?_ (by simp <;> omega) _ | refine below_drewN ?_ _ | refine Below.drew ?_)⟩
end Go.Proofs.Ytpilbhbbdldpeaa

namespace Go.Proofs.Ytpilbhbbdldpeaa
open Go.RowKit
def fillL {α : Type} (l : List α) (k : Nat) (z : α) : List α:=l.take k ++ List.replicate (l.length - k) z
theorem fillL_len {α : Type} {l : List α} {k : Nat} {z : α} (h : k≤l.length) : (fillL l k z).length = l.length:=by simp [fillL];omega
theorem fillL_get {α : Type} {l : List α} {k : Nat} {z : α} (h : k < l.length) : (fillL l k z)[k]? = some z:=by
  unfold fillL
  rw [List.getElem?_append_right (by simp;omega),List.length_take,Nat.min_eq_left (by omega),Nat.sub_self,List.getElem?_replicate,if_pos (by omega)]
theorem fillL_set {α : Type} {l : List α} {k : Nat} {x z : α} (h : l[k]? = some x) : (fillL l k z).set k x = fillL l (k + 1) z:=by
  have hk : k < l.length:=(List.getElem?_eq_some_iff.1 h).1
  apply List.ext_getElem?
  intro j
  rw [List.getElem?_set]
  unfold fillL
  by_cases hj : k = j
  · subst hj
    rw [if_pos rfl,if_pos (by simp;omega),List.getElem?_append_left (by simp;omega)]
    rw [List.getElem?_take,if_pos (by omega),h]
  · rw [if_neg hj]
    by_cases hlt : j < k
    · rw [List.getElem?_append_left (by simp;omega),List.getElem?_append_left (by simp;omega),List.getElem?_take,List.getElem?_take,if_pos hlt,if_pos (by omega)]
    · rw [List.getElem?_append_right (by simp;omega),List.getElem?_append_right (by simp;omega)]
      simp only [List.length_take,List.getElem?_replicate]
      have e1 : (j - min k l.length < l.length - k) ↔ (j - min (k + 1) l.length < l.length - (k + 1)):=by omega
      by_cases h2 : j - min k l.length < l.length - k
      · rw [if_pos h2,if_pos (e1.1 h2)]
      · rw [if_neg h2,if_neg (fun h=>h2 (e1.2 h))]
theorem fillL_end {α : Type} (l : List α) (z : α) : fillL l l.length z = l:=by simp [fillL]
end Go.Proofs.Ytpilbhbbdldpeaa

namespace Go.Proofs.Ytpilbhbbdldpeaa
open Go.RowKit
instance : Inhabited It:=⟨⟨0,0,ByteArray.empty⟩⟩
def encIt (x : It) : List DV:=[.sc (.int .i64 x.num),.sc (.int .i64 x.den),.sc (.string x.text)]
theorem encIt_flat (x : It) : Flat (encIt x):=by intro d hd;simp [encIt] at hd;rcases hd with rfl | rfl | rfl <;> exact ⟨_,rfl⟩
theorem encIts_flat (l : List It) : Flat (l.map encIt).flatten:=by
  intro d hd
  obtain ⟨e,he,hd⟩:=List.mem_flatten.1 hd
  obtain ⟨x,_,rfl⟩:=List.mem_map.1 he
  exact encIt_flat x d hd
def scs (vs : List Value) : List DV:=vs.map .sc
theorem rep_scs {w : World} {A : Nat→Prop} {vals vs : List Value} (h : RepL w A vals (scs vs)) : vals = vs:=by
  induction vs generalizing vals with
  | nil=>cases h;rfl
  | cons v vs ih=>cases h with | sc h1 h2=>rw [ih h2]
theorem own_scs {w : World} {base : Nat} {vs : List Value} (h : ∀ v ∈ vs,Sc v) : OwnL w base vs (scs vs) []:=by
  induction vs with
  | nil=>exact .nil
  | cons v vs ih=>exact .sc (h v (List.mem_cons_self ..)) (ih fun v hv=>h v (List.mem_cons_of_mem _ hv))
def valOf (x : Bool × List Value) : Value:=if x.1 then .agg x.2.toArray else x.2.headD undef
theorem meets_sc {P : Program} {f : FuncId} (args : List (Bool × List Value)) (res : Bool × List Value) (hc : callable P f = true) (ha : ∀ x ∈ args,x.1 = false→x.2.length = 1) (hr : ∀ v ∈ res.2,Sc v) (hr1 : res.1 = false→res.2.length = 1)
    (h : ∀ w,Calls P f (args.map valOf).toArray w fun e w'=>e = .returned (valOf res)∧Below w.heap.size w w') : Meets P f (args.map fun x=>(x.1,scs x.2)) [(res.1,scs res.2,true)]:=by
  refine ⟨hc,fun w B vs hB har=>?_⟩
  have hvs : vs = args.map valOf:=by
    apply List.ext_getElem?
    intro j
    by_cases hj : j < args.length
    · have hl:=har.1
      simp at hl
      have h1:=har.2 j vs[j] _ (List.getElem?_eq_getElem (by omega)) (by rw [List.getElem?_map,List.getElem?_eq_getElem hj];rfl)
      rw [List.getElem?_eq_getElem (by omega),List.getElem?_map,List.getElem?_eq_getElem hj]
      simp only [Option.map_some,Option.some.injEq]
      unfold ArgR at h1
      unfold valOf
      split at h1
      · rename_i hb
        obtain ⟨vals,e1,e2⟩:=h1
        rw [if_pos hb,e1,rep_scs e2]
      · rename_i hb
        have:=rep_scs h1
        rw [if_neg hb]
        rw [← this];rfl
    · have hl:=har.1
      simp at hl
      rw [List.getElem?_eq_none (by omega),List.getElem?_eq_none (by simp;omega)]
  subst hvs
  refine (h w).mono ?_
  rintro e w' ⟨rfl,hb⟩
  refine ⟨_,rfl,⟨[valOf res],[[]],by simp,rfl,rfl,by simp,fun j u r f' h1 h2 h3=>?_⟩,hb⟩
  cases j with
  | zero =>
    simp at h1 h2 h3
    subst h1 h2 h3
    refine ⟨res.2,?_,own_scs hr⟩
    unfold valOf
    simp only
    split
    · rfl
    · rename_i hb
      have:=hr1 (by simpa using hb)
      match hx : res.2,this with
      | [v],_=>rfl
  | succ j=>simp at h1
theorem fillL_zero {α : Type} (l : List α) (z : α) : fillL l 0 z = List.replicate l.length z:=by simp [fillL]
end Go.Proofs.Ytpilbhbbdldpeaa

namespace Go.Proofs.Ytpilbhbbdldpeaa
open Go.RowKit
def itc (x : It) : List Value:=[.int .i64 x.num,.int .i64 x.den,.string x.text]
theorem itc_sc (x : It) : ∀ v ∈ itc x,Sc v:=by simp [itc,Sc]
theorem mImplIsNum (x : It) : Meets Try.prog 53 [(true,encIt x)] [(false,[.sc (.bool (numB x))],true)]:=meets_sc [(true,itc x)] (false,[.bool (numB x)]) (by kernel_rfl) (by simp) (by simp [Sc]) (by simp) (fun w=>implIsNum_any x w)
theorem mSpecIsNum (x : It) : Meets Try.prog 58 [(true,encIt x)] [(false,[.sc (.bool (numB x))],true)]:=meets_sc [(true,itc x)] (false,[.bool (numB x)]) (by kernel_rfl) (by simp) (by simp [Sc]) (by simp) (fun w=>specIsNum_any x w)
theorem mIsMissing (x : It) : Meets Try.prog 37 [(true,encIt x)] [(false,[.sc (.bool (decide (x = it0)))],true)]:=meets_sc [(true,itc x)] (false,[.bool (decide (x = it0))]) (by kernel_rfl) (by simp) (by simp [Sc]) (by simp) (fun w=>isMissing_any x w)
theorem mImplAdd (x y : It) : Meets Try.prog 46 [(true,encIt x),(true,encIt y)] [(true,encIt (addN x y),true)]:=meets_sc [(true,itc x),(true,itc y)] (true,itc (addN x y)) (by kernel_rfl) (by simp) (itc_sc _) (by simp) (fun w=>implAdd_any x y w)
theorem mSpecAdd (x y : It) : Meets Try.prog 40 [(true,encIt x),(true,encIt y)] [(true,encIt (addN x y),true)]:=meets_sc [(true,itc x),(true,itc y)] (true,itc (addN x y)) (by kernel_rfl) (by simp) (itc_sc _) (by simp) (fun w=>specAdd_any x y w)
theorem mImplMul (x y : It) : Meets Try.prog 47 [(true,encIt x),(true,encIt y)] [(true,encIt (mulN x y),true)]:=meets_sc [(true,itc x),(true,itc y)] (true,itc (mulN x y)) (by kernel_rfl) (by simp) (itc_sc _) (by simp) (fun w=>implMul_any x y w)
theorem mSpecMul (x y : It) : Meets Try.prog 41 [(true,encIt x),(true,encIt y)] [(true,encIt (mulN x y),true)]:=meets_sc [(true,itc x),(true,itc y)] (true,itc (mulN x y)) (by kernel_rfl) (by simp) (itc_sc _) (by simp) (fun w=>specMul_any x y w)
theorem mImplSub (x y : It) : Meets Try.prog 56 [(true,encIt x),(true,encIt y)] [(true,encIt (subN x y),true)]:=meets_sc [(true,itc x),(true,itc y)] (true,itc (subN x y)) (by kernel_rfl) (by simp) (itc_sc _) (by simp) (fun w=>implSub_any x y w)
theorem mSpecSub (x y : It) : Meets Try.prog 42 [(true,encIt x),(true,encIt y)] [(true,encIt (subN x y),true)]:=meets_sc [(true,itc x),(true,itc y)] (true,itc (subN x y)) (by kernel_rfl) (by simp) (itc_sc _) (by simp) (fun w=>specSub_any x y w)
theorem mImplDiv (x y : It) : Meets Try.prog 55 [(true,encIt x),(true,encIt y)] [(true,encIt (divN x y),true)]:=meets_sc [(true,itc x),(true,itc y)] (true,itc (divN x y)) (by kernel_rfl) (by simp) (itc_sc _) (by simp) (fun w=>implDiv_any x y w)
theorem mSpecDiv (x y : It) : Meets Try.prog 59 [(true,encIt x),(true,encIt y)] [(true,encIt (divN x y),true)]:=meets_sc [(true,itc x),(true,itc y)] (true,itc (divN x y)) (by kernel_rfl) (by simp) (itc_sc _) (by simp) (fun w=>specDiv_any x y w)
theorem mIntItem (n : Int) : Meets Try.prog 38 [(false,[.sc (.int .i64 n)])] [(true,encIt (intN n),true)]:=meets_sc [(false,[.int .i64 n])] (true,itc (intN n)) (by kernel_rfl) (by simp) (itc_sc _) (by simp) (fun w=>intItem_any n w)
theorem mL2Num (n : Int) : Meets Try.prog 44 [(false,[.sc (.int .i64 n)])] [(true,encIt (l2N n),true)]:=meets_sc [(false,[.int .i64 n])] (true,itc (l2N n)) (by kernel_rfl) (by simp) (itc_sc _) (by simp) (fun w=>l2Num_any n w)
theorem mIn (x lo hi : Int) : Meets Try.prog 57 [(false,[.sc (.int .i64 x)]),(false,[.sc (.int .i64 lo)]),(false,[.sc (.int .i64 hi)])] [(false,[.sc (.bool (decide (lo≤x∧x≤hi)))],true)] :=
  meets_sc [(false,[.int .i64 x]),(false,[.int .i64 lo]),(false,[.int .i64 hi])] (false,[.bool (decide (lo≤x∧x≤hi))]) (by kernel_rfl) (by simp) (by simp [Sc]) (by simp) (fun w=>(in_any x lo hi w).mono fun e w' ⟨h1,h2⟩=>⟨h1,by subst h2;exact Below.refl _ _⟩)
end Go.Proofs.Ytpilbhbbdldpeaa

namespace Go.Proofs.Ytpilbhbbdldpeaa
open Go.RowKit
@[go_sem] theorem tagg_2 : tagg Try.prog 2 = some false:=by kernel_rfl
@[go_sem] theorem tsz_2 : tsz Try.prog 2 = some 1:=by kernel_rfl
@[go_sem] theorem tby_2 : tby Try.prog 2 = some 8:=by kernel_rfl
@[go_sem] theorem und_2 : Try.prog.underlying 2 = some (.int .i64):=by kernel_rfl
@[go_sem] theorem zac_2 : zeroAC Try.prog 2 = some [.d (.sc (.int .i64 0))]:=by kernel_rfl
@[go_sem] theorem tzero_2 : tzero Try.prog 2 = some [.int .i64 0]:=by kernel_rfl
@[go_sem] theorem tagg_3 : tagg Try.prog 3 = some false:=by kernel_rfl
@[go_sem] theorem tsz_3 : tsz Try.prog 3 = some 1:=by kernel_rfl
@[go_sem] theorem tby_3 : tby Try.prog 3 = some 8:=by kernel_rfl
@[go_sem] theorem und_3 : Try.prog.underlying 3 = some (.int .i64):=by kernel_rfl
@[go_sem] theorem zac_3 : zeroAC Try.prog 3 = some [.d (.sc (.int .i64 0))]:=by kernel_rfl
@[go_sem] theorem tzero_3 : tzero Try.prog 3 = some [.int .i64 0]:=by kernel_rfl
@[go_sem] theorem tagg_4 : tagg Try.prog 4 = some false:=by kernel_rfl
@[go_sem] theorem tsz_4 : tsz Try.prog 4 = some 1:=by kernel_rfl
@[go_sem] theorem tby_4 : tby Try.prog 4 = some 1:=by kernel_rfl
@[go_sem] theorem und_4 : Try.prog.underlying 4 = some .bool:=by kernel_rfl
@[go_sem] theorem zac_4 : zeroAC Try.prog 4 = some [.d (.sc (.bool false))]:=by kernel_rfl
@[go_sem] theorem tzero_4 : tzero Try.prog 4 = some [.bool false]:=by kernel_rfl
@[go_sem] theorem tagg_5 : tagg Try.prog 5 = some false:=by kernel_rfl
@[go_sem] theorem tsz_5 : tsz Try.prog 5 = some 1:=by kernel_rfl
@[go_sem] theorem tby_5 : tby Try.prog 5 = some 1:=by kernel_rfl
@[go_sem] theorem und_5 : Try.prog.underlying 5 = some (.int .u8):=by kernel_rfl
@[go_sem] theorem zac_5 : zeroAC Try.prog 5 = some [.d (.sc (.int .u8 0))]:=by kernel_rfl
@[go_sem] theorem tzero_5 : tzero Try.prog 5 = some [.int .u8 0]:=by kernel_rfl
@[go_sem] theorem tagg_6 : tagg Try.prog 6 = some false:=by kernel_rfl
@[go_sem] theorem tsz_6 : tsz Try.prog 6 = some 1:=by kernel_rfl
@[go_sem] theorem tby_6 : tby Try.prog 6 = some 1:=by kernel_rfl
@[go_sem] theorem und_6 : Try.prog.underlying 6 = some (.int .u8):=by kernel_rfl
@[go_sem] theorem zac_6 : zeroAC Try.prog 6 = some [.d (.sc (.int .u8 0))]:=by kernel_rfl
@[go_sem] theorem tzero_6 : tzero Try.prog 6 = some [.int .u8 0]:=by kernel_rfl
@[go_sem] theorem tagg_7 : tagg Try.prog 7 = some true:=by kernel_rfl
@[go_sem] theorem tsz_7 : tsz Try.prog 7 = some 4:=by kernel_rfl
@[go_sem] theorem tby_7 : tby Try.prog 7 = some 24:=by kernel_rfl
@[go_sem] theorem zac_7 : zeroAC Try.prog 7 = some [.d (.sc (.int .i64 0)),.d (.sc (.int .i64 0)),.d (.sc (.bool false)),.d (.sc (.int .u8 0))]:=by kernel_rfl
@[go_sem] theorem tzero_7 : tzero Try.prog 7 = some [.int .i64 0,.int .i64 0,.bool false,.int .u8 0]:=by kernel_rfl
@[go_sem] theorem tpl_7 : tpl Try.prog 7 = true:=by kernel_rfl
@[go_sem] theorem tfl_7_0 : tfl Try.prog 7 0 = some (0,1,false):=by kernel_rfl
@[go_sem] theorem tfl_7_1 : tfl Try.prog 7 1 = some (1,1,false):=by kernel_rfl
@[go_sem] theorem tfl_7_2 : tfl Try.prog 7 2 = some (2,1,false):=by kernel_rfl
@[go_sem] theorem tfl_7_3 : tfl Try.prog 7 3 = some (3,1,false):=by kernel_rfl
@[go_sem] theorem tagg_8 : tagg Try.prog 8 = some true:=by kernel_rfl
@[go_sem] theorem tsz_8 : tsz Try.prog 8 = some 4:=by kernel_rfl
@[go_sem] theorem tby_8 : tby Try.prog 8 = some 24:=by kernel_rfl
@[go_sem] theorem zac_8 : zeroAC Try.prog 8 = some [.d (.sc (.int .i64 0)),.d (.sc (.int .i64 0)),.d (.sc (.bool false)),.d (.sc (.int .u8 0))]:=by kernel_rfl
@[go_sem] theorem tzero_8 : tzero Try.prog 8 = some [.int .i64 0,.int .i64 0,.bool false,.int .u8 0]:=by kernel_rfl
@[go_sem] theorem tpl_8 : tpl Try.prog 8 = true:=by kernel_rfl
@[go_sem] theorem tfl_8_0 : tfl Try.prog 8 0 = some (0,1,false):=by kernel_rfl
@[go_sem] theorem tfl_8_1 : tfl Try.prog 8 1 = some (1,1,false):=by kernel_rfl
@[go_sem] theorem tfl_8_2 : tfl Try.prog 8 2 = some (2,1,false):=by kernel_rfl
@[go_sem] theorem tfl_8_3 : tfl Try.prog 8 3 = some (3,1,false):=by kernel_rfl
@[go_sem] theorem tagg_9 : tagg Try.prog 9 = some false:=by kernel_rfl
@[go_sem] theorem tsz_9 : tsz Try.prog 9 = some 1:=by kernel_rfl
@[go_sem] theorem tby_9 : tby Try.prog 9 = some 16:=by kernel_rfl
@[go_sem] theorem und_9 : Try.prog.underlying 9 = some .string:=by kernel_rfl
@[go_sem] theorem zac_9 : zeroAC Try.prog 9 = some [.d (.sc (.string ByteArray.empty))]:=by kernel_rfl
@[go_sem] theorem tzero_9 : tzero Try.prog 9 = some [.string ByteArray.empty]:=by kernel_rfl
@[go_sem] theorem tagg_10 : tagg Try.prog 10 = some false:=by kernel_rfl
@[go_sem] theorem tsz_10 : tsz Try.prog 10 = some 1:=by kernel_rfl
@[go_sem] theorem tby_10 : tby Try.prog 10 = some 16:=by kernel_rfl
@[go_sem] theorem und_10 : Try.prog.underlying 10 = some .string:=by kernel_rfl
@[go_sem] theorem zac_10 : zeroAC Try.prog 10 = some [.d (.sc (.string ByteArray.empty))]:=by kernel_rfl
@[go_sem] theorem tzero_10 : tzero Try.prog 10 = some [.string ByteArray.empty]:=by kernel_rfl
@[go_sem] theorem tagg_11 : tagg Try.prog 11 = some false:=by kernel_rfl
@[go_sem] theorem tsz_11 : tsz Try.prog 11 = some 1:=by kernel_rfl
@[go_sem] theorem tby_11 : tby Try.prog 11 = some 16:=by kernel_rfl
@[go_sem] theorem und_11 : Try.prog.underlying 11 = some .string:=by kernel_rfl
@[go_sem] theorem zac_11 : zeroAC Try.prog 11 = some [.d (.sc (.string ByteArray.empty))]:=by kernel_rfl
@[go_sem] theorem tzero_11 : tzero Try.prog 11 = some [.string ByteArray.empty]:=by kernel_rfl
@[go_sem] theorem tagg_12 : tagg Try.prog 12 = some false:=by kernel_rfl
@[go_sem] theorem tsz_12 : tsz Try.prog 12 = some 1:=by kernel_rfl
@[go_sem] theorem tby_12 : tby Try.prog 12 = some 8:=by kernel_rfl
@[go_sem] theorem und_12 : Try.prog.underlying 12 = some (.int .u64):=by kernel_rfl
@[go_sem] theorem zac_12 : zeroAC Try.prog 12 = some [.d (.sc (.int .u64 0))]:=by kernel_rfl
@[go_sem] theorem tzero_12 : tzero Try.prog 12 = some [.int .u64 0]:=by kernel_rfl
@[go_sem] theorem tagg_13 : tagg Try.prog 13 = some true:=by kernel_rfl
@[go_sem] theorem tsz_13 : tsz Try.prog 13 = some 2:=by kernel_rfl
@[go_sem] theorem tby_13 : tby Try.prog 13 = some 24:=by kernel_rfl
@[go_sem] theorem zac_13 : zeroAC Try.prog 13 = some [.d (.sc (.string ByteArray.empty)),.d (.sc (.int .u64 0))]:=by kernel_rfl
@[go_sem] theorem tzero_13 : tzero Try.prog 13 = some [.string ByteArray.empty,.int .u64 0]:=by kernel_rfl
@[go_sem] theorem tpl_13 : tpl Try.prog 13 = true:=by kernel_rfl
@[go_sem] theorem tfl_13_0 : tfl Try.prog 13 0 = some (0,1,false):=by kernel_rfl
@[go_sem] theorem tfl_13_1 : tfl Try.prog 13 1 = some (1,1,false):=by kernel_rfl
@[go_sem] theorem tagg_14 : tagg Try.prog 14 = some true:=by kernel_rfl
@[go_sem] theorem tsz_14 : tsz Try.prog 14 = some 2:=by kernel_rfl
@[go_sem] theorem tby_14 : tby Try.prog 14 = some 24:=by kernel_rfl
@[go_sem] theorem zac_14 : zeroAC Try.prog 14 = some [.d (.sc (.string ByteArray.empty)),.d (.sc (.int .u64 0))]:=by kernel_rfl
@[go_sem] theorem tzero_14 : tzero Try.prog 14 = some [.string ByteArray.empty,.int .u64 0]:=by kernel_rfl
@[go_sem] theorem tpl_14 : tpl Try.prog 14 = true:=by kernel_rfl
@[go_sem] theorem tfl_14_0 : tfl Try.prog 14 0 = some (0,1,false):=by kernel_rfl
@[go_sem] theorem tfl_14_1 : tfl Try.prog 14 1 = some (1,1,false):=by kernel_rfl
@[go_sem] theorem tagg_18 : tagg Try.prog 18 = some true:=by kernel_rfl
@[go_sem] theorem tsz_18 : tsz Try.prog 18 = some 1:=by kernel_rfl
@[go_sem] theorem tby_18 : tby Try.prog 18 = some 8:=by kernel_rfl
@[go_sem] theorem tagg_19 : tagg Try.prog 19 = some true:=by kernel_rfl
@[go_sem] theorem tsz_19 : tsz Try.prog 19 = some 1:=by kernel_rfl
@[go_sem] theorem tby_19 : tby Try.prog 19 = some 8:=by kernel_rfl
@[go_sem] theorem tagg_21 : tagg Try.prog 21 = some false:=by kernel_rfl
@[go_sem] theorem tsz_21 : tsz Try.prog 21 = some 1:=by kernel_rfl
@[go_sem] theorem tby_21 : tby Try.prog 21 = some 4:=by kernel_rfl
@[go_sem] theorem und_21 : Try.prog.underlying 21 = some (.int .i32):=by kernel_rfl
@[go_sem] theorem zac_21 : zeroAC Try.prog 21 = some [.d (.sc (.int .i32 0))]:=by kernel_rfl
@[go_sem] theorem tzero_21 : tzero Try.prog 21 = some [.int .i32 0]:=by kernel_rfl
@[go_sem] theorem tagg_22 : tagg Try.prog 22 = some false:=by kernel_rfl
@[go_sem] theorem tsz_22 : tsz Try.prog 22 = some 1:=by kernel_rfl
@[go_sem] theorem tby_22 : tby Try.prog 22 = some 24:=by kernel_rfl
@[go_sem] theorem zac_22 : zeroAC Try.prog 22 = some [.nil]:=by kernel_rfl
@[go_sem] theorem tzero_22 : tzero Try.prog 22 = some [.slice none 0 0]:=by kernel_rfl
@[go_sem] theorem tel_22 : tel Try.prog 22 = some (5,1):=by kernel_rfl
@[go_sem] theorem tagg_24 : tagg Try.prog 24 = some false:=by kernel_rfl
@[go_sem] theorem tsz_24 : tsz Try.prog 24 = some 1:=by kernel_rfl
@[go_sem] theorem tby_24 : tby Try.prog 24 = some 24:=by kernel_rfl
@[go_sem] theorem zac_24 : zeroAC Try.prog 24 = some [.nil]:=by kernel_rfl
@[go_sem] theorem tzero_24 : tzero Try.prog 24 = some [.slice none 0 0]:=by kernel_rfl
@[go_sem] theorem tel_24 : tel Try.prog 24 = some (39,3):=by kernel_rfl
@[go_sem] theorem tagg_25 : tagg Try.prog 25 = some true:=by kernel_rfl
@[go_sem] theorem tsz_25 : tsz Try.prog 25 = some 3:=by kernel_rfl
@[go_sem] theorem tby_25 : tby Try.prog 25 = some 40:=by kernel_rfl
@[go_sem] theorem zac_25 : zeroAC Try.prog 25 = some [.d (.sc (.int .i64 0)),.d (.sc (.int .i64 0)),.nil]:=by kernel_rfl
@[go_sem] theorem tzero_25 : tzero Try.prog 25 = some [.int .i64 0,.int .i64 0,.slice none 0 0]:=by kernel_rfl
@[go_sem] theorem tpl_25 : tpl Try.prog 25 = true:=by kernel_rfl
@[go_sem] theorem tfl_25_0 : tfl Try.prog 25 0 = some (0,1,false):=by kernel_rfl
@[go_sem] theorem tfl_25_1 : tfl Try.prog 25 1 = some (1,1,false):=by kernel_rfl
@[go_sem] theorem tfl_25_2 : tfl Try.prog 25 2 = some (2,1,false):=by kernel_rfl
@[go_sem] theorem tagg_26 : tagg Try.prog 26 = some true:=by kernel_rfl
@[go_sem] theorem tsz_26 : tsz Try.prog 26 = some 3:=by kernel_rfl
@[go_sem] theorem tby_26 : tby Try.prog 26 = some 40:=by kernel_rfl
@[go_sem] theorem zac_26 : zeroAC Try.prog 26 = some [.d (.sc (.int .i64 0)),.d (.sc (.int .i64 0)),.nil]:=by kernel_rfl
@[go_sem] theorem tzero_26 : tzero Try.prog 26 = some [.int .i64 0,.int .i64 0,.slice none 0 0]:=by kernel_rfl
@[go_sem] theorem tpl_26 : tpl Try.prog 26 = true:=by kernel_rfl
@[go_sem] theorem tfl_26_0 : tfl Try.prog 26 0 = some (0,1,false):=by kernel_rfl
@[go_sem] theorem tfl_26_1 : tfl Try.prog 26 1 = some (1,1,false):=by kernel_rfl
@[go_sem] theorem tfl_26_2 : tfl Try.prog 26 2 = some (2,1,false):=by kernel_rfl
@[go_sem] theorem tagg_38 : tagg Try.prog 38 = some true:=by kernel_rfl
@[go_sem] theorem tsz_38 : tsz Try.prog 38 = some 3:=by kernel_rfl
@[go_sem] theorem tby_38 : tby Try.prog 38 = some 32:=by kernel_rfl
@[go_sem] theorem zac_38 : zeroAC Try.prog 38 = some [.d (.sc (.int .i64 0)),.d (.sc (.int .i64 0)),.d (.sc (.string ByteArray.empty))]:=by kernel_rfl
@[go_sem] theorem tzero_38 : tzero Try.prog 38 = some [.int .i64 0,.int .i64 0,.string ByteArray.empty]:=by kernel_rfl
@[go_sem] theorem tpl_38 : tpl Try.prog 38 = true:=by kernel_rfl
@[go_sem] theorem tfl_38_0 : tfl Try.prog 38 0 = some (0,1,false):=by kernel_rfl
@[go_sem] theorem tfl_38_1 : tfl Try.prog 38 1 = some (1,1,false):=by kernel_rfl
@[go_sem] theorem tfl_38_2 : tfl Try.prog 38 2 = some (2,1,false):=by kernel_rfl
@[go_sem] theorem tagg_39 : tagg Try.prog 39 = some true:=by kernel_rfl
@[go_sem] theorem tsz_39 : tsz Try.prog 39 = some 3:=by kernel_rfl
@[go_sem] theorem tby_39 : tby Try.prog 39 = some 32:=by kernel_rfl
@[go_sem] theorem zac_39 : zeroAC Try.prog 39 = some [.d (.sc (.int .i64 0)),.d (.sc (.int .i64 0)),.d (.sc (.string ByteArray.empty))]:=by kernel_rfl
@[go_sem] theorem tzero_39 : tzero Try.prog 39 = some [.int .i64 0,.int .i64 0,.string ByteArray.empty]:=by kernel_rfl
@[go_sem] theorem tpl_39 : tpl Try.prog 39 = true:=by kernel_rfl
@[go_sem] theorem tfl_39_0 : tfl Try.prog 39 0 = some (0,1,false):=by kernel_rfl
@[go_sem] theorem tfl_39_1 : tfl Try.prog 39 1 = some (1,1,false):=by kernel_rfl
@[go_sem] theorem tfl_39_2 : tfl Try.prog 39 2 = some (2,1,false):=by kernel_rfl
@[go_sem] theorem tagg_50 : tagg Try.prog 50 = some false:=by kernel_rfl
@[go_sem] theorem tsz_50 : tsz Try.prog 50 = some 1:=by kernel_rfl
@[go_sem] theorem tby_50 : tby Try.prog 50 = some 24:=by kernel_rfl
@[go_sem] theorem zac_50 : zeroAC Try.prog 50 = some [.nil]:=by kernel_rfl
@[go_sem] theorem tzero_50 : tzero Try.prog 50 = some [.slice none 0 0]:=by kernel_rfl
@[go_sem] theorem tel_50 : tel Try.prog 50 = some (55,5):=by kernel_rfl
@[go_sem] theorem tagg_54 : tagg Try.prog 54 = some true:=by kernel_rfl
@[go_sem] theorem tsz_54 : tsz Try.prog 54 = some 5:=by kernel_rfl
@[go_sem] theorem tby_54 : tby Try.prog 54 = some 48:=by kernel_rfl
@[go_sem] theorem zac_54 : zeroAC Try.prog 54 = some [.d (.sc (.int .i64 0)),.d (.sc (.int .i64 0)),.d (.sc (.int .i64 0)),.d (.sc (.string ByteArray.empty)),.d (.sc (.bool false))]:=by kernel_rfl
@[go_sem] theorem tzero_54 : tzero Try.prog 54 = some [.int .i64 0,.int .i64 0,.int .i64 0,.string ByteArray.empty,.bool false]:=by kernel_rfl
@[go_sem] theorem tpl_54 : tpl Try.prog 54 = true:=by kernel_rfl
@[go_sem] theorem tfl_54_0 : tfl Try.prog 54 0 = some (0,1,false):=by kernel_rfl
@[go_sem] theorem tfl_54_1 : tfl Try.prog 54 1 = some (1,3,true):=by kernel_rfl
@[go_sem] theorem tfl_54_2 : tfl Try.prog 54 2 = some (4,1,false):=by kernel_rfl
@[go_sem] theorem tagg_55 : tagg Try.prog 55 = some true:=by kernel_rfl
@[go_sem] theorem tsz_55 : tsz Try.prog 55 = some 5:=by kernel_rfl
@[go_sem] theorem tby_55 : tby Try.prog 55 = some 48:=by kernel_rfl
@[go_sem] theorem zac_55 : zeroAC Try.prog 55 = some [.d (.sc (.int .i64 0)),.d (.sc (.int .i64 0)),.d (.sc (.int .i64 0)),.d (.sc (.string ByteArray.empty)),.d (.sc (.bool false))]:=by kernel_rfl
@[go_sem] theorem tzero_55 : tzero Try.prog 55 = some [.int .i64 0,.int .i64 0,.int .i64 0,.string ByteArray.empty,.bool false]:=by kernel_rfl
@[go_sem] theorem tpl_55 : tpl Try.prog 55 = true:=by kernel_rfl
@[go_sem] theorem tfl_55_0 : tfl Try.prog 55 0 = some (0,1,false):=by kernel_rfl
@[go_sem] theorem tfl_55_1 : tfl Try.prog 55 1 = some (1,3,true):=by kernel_rfl
@[go_sem] theorem tfl_55_2 : tfl Try.prog 55 2 = some (4,1,false):=by kernel_rfl
@[go_sem] theorem tagg_58 : tagg Try.prog 58 = some false:=by kernel_rfl
@[go_sem] theorem tsz_58 : tsz Try.prog 58 = some 1:=by kernel_rfl
@[go_sem] theorem tby_58 : tby Try.prog 58 = some 24:=by kernel_rfl
@[go_sem] theorem zac_58 : zeroAC Try.prog 58 = some [.nil]:=by kernel_rfl
@[go_sem] theorem tzero_58 : tzero Try.prog 58 = some [.slice none 0 0]:=by kernel_rfl
@[go_sem] theorem tel_58 : tel Try.prog 58 = some (3,1):=by kernel_rfl
@[go_sem] theorem tagg_65 : tagg Try.prog 65 = some true:=by kernel_rfl
@[go_sem] theorem tsz_65 : tsz Try.prog 65 = some 3:=by kernel_rfl
@[go_sem] theorem tby_65 : tby Try.prog 65 = some 40:=by kernel_rfl
@[go_sem] theorem zac_65 : zeroAC Try.prog 65 = some [.nil,.d (.sc (.int .i64 0)),.d (.sc (.int .i64 0))]:=by kernel_rfl
@[go_sem] theorem tzero_65 : tzero Try.prog 65 = some [.slice none 0 0,.int .i64 0,.int .i64 0]:=by kernel_rfl
@[go_sem] theorem tpl_65 : tpl Try.prog 65 = true:=by kernel_rfl
@[go_sem] theorem tfl_65_0 : tfl Try.prog 65 0 = some (0,1,false):=by kernel_rfl
@[go_sem] theorem tfl_65_1 : tfl Try.prog 65 1 = some (1,1,false):=by kernel_rfl
@[go_sem] theorem tfl_65_2 : tfl Try.prog 65 2 = some (2,1,false):=by kernel_rfl
@[go_sem] theorem tagg_66 : tagg Try.prog 66 = some true:=by kernel_rfl
@[go_sem] theorem tsz_66 : tsz Try.prog 66 = some 3:=by kernel_rfl
@[go_sem] theorem tby_66 : tby Try.prog 66 = some 40:=by kernel_rfl
@[go_sem] theorem zac_66 : zeroAC Try.prog 66 = some [.nil,.d (.sc (.int .i64 0)),.d (.sc (.int .i64 0))]:=by kernel_rfl
@[go_sem] theorem tzero_66 : tzero Try.prog 66 = some [.slice none 0 0,.int .i64 0,.int .i64 0]:=by kernel_rfl
@[go_sem] theorem tpl_66 : tpl Try.prog 66 = true:=by kernel_rfl
@[go_sem] theorem tfl_66_0 : tfl Try.prog 66 0 = some (0,1,false):=by kernel_rfl
@[go_sem] theorem tfl_66_1 : tfl Try.prog 66 1 = some (1,1,false):=by kernel_rfl
@[go_sem] theorem tfl_66_2 : tfl Try.prog 66 2 = some (2,1,false):=by kernel_rfl
@[go_sem] theorem tagg_78 : tagg Try.prog 78 = some false:=by kernel_rfl
@[go_sem] theorem tsz_78 : tsz Try.prog 78 = some 1:=by kernel_rfl
@[go_sem] theorem tby_78 : tby Try.prog 78 = some 8:=by kernel_rfl
@[go_sem] theorem und_78 : Try.prog.underlying 78 = some (.int .u64):=by kernel_rfl
@[go_sem] theorem zac_78 : zeroAC Try.prog 78 = some [.d (.sc (.int .u64 0))]:=by kernel_rfl
@[go_sem] theorem tzero_78 : tzero Try.prog 78 = some [.int .u64 0]:=by kernel_rfl
@[go_sem] theorem tagg_81 : tagg Try.prog 81 = some true:=by kernel_rfl
@[go_sem] theorem tsz_81 : tsz Try.prog 81 = some 4:=by kernel_rfl
@[go_sem] theorem tby_81 : tby Try.prog 81 = some 40:=by kernel_rfl
@[go_sem] theorem tagg_82 : tagg Try.prog 82 = some true:=by kernel_rfl
@[go_sem] theorem tsz_82 : tsz Try.prog 82 = some 4:=by kernel_rfl
@[go_sem] theorem tby_82 : tby Try.prog 82 = some 40:=by kernel_rfl
@[go_sem] theorem tagg_84 : tagg Try.prog 84 = some true:=by kernel_rfl
@[go_sem] theorem tsz_84 : tsz Try.prog 84 = some 0:=by kernel_rfl
@[go_sem] theorem tby_84 : tby Try.prog 84 = some 0:=by kernel_rfl
@[go_sem] theorem zac_84 : zeroAC Try.prog 84 = some []:=by kernel_rfl
@[go_sem] theorem tzero_84 : tzero Try.prog 84 = some []:=by kernel_rfl
@[go_sem] theorem tagg_85 : tagg Try.prog 85 = some true:=by kernel_rfl
@[go_sem] theorem tsz_85 : tsz Try.prog 85 = some 0:=by kernel_rfl
@[go_sem] theorem tby_85 : tby Try.prog 85 = some 0:=by kernel_rfl
@[go_sem] theorem zac_85 : zeroAC Try.prog 85 = some []:=by kernel_rfl
@[go_sem] theorem tzero_85 : tzero Try.prog 85 = some []:=by kernel_rfl
@[go_sem] theorem tagg_87 : tagg Try.prog 87 = some false:=by kernel_rfl
@[go_sem] theorem tsz_87 : tsz Try.prog 87 = some 1:=by kernel_rfl
@[go_sem] theorem tby_87 : tby Try.prog 87 = some 4:=by kernel_rfl
@[go_sem] theorem und_87 : Try.prog.underlying 87 = some (.int .u32):=by kernel_rfl
@[go_sem] theorem zac_87 : zeroAC Try.prog 87 = some [.d (.sc (.int .u32 0))]:=by kernel_rfl
@[go_sem] theorem tzero_87 : tzero Try.prog 87 = some [.int .u32 0]:=by kernel_rfl
@[go_sem] theorem tagg_88 : tagg Try.prog 88 = some false:=by kernel_rfl
@[go_sem] theorem tsz_88 : tsz Try.prog 88 = some 1:=by kernel_rfl
@[go_sem] theorem tby_88 : tby Try.prog 88 = some 1:=by kernel_rfl
@[go_sem] theorem und_88 : Try.prog.underlying 88 = some (.int .u8):=by kernel_rfl
@[go_sem] theorem zac_88 : zeroAC Try.prog 88 = some [.d (.sc (.int .u8 0))]:=by kernel_rfl
@[go_sem] theorem tzero_88 : tzero Try.prog 88 = some [.int .u8 0]:=by kernel_rfl
@[go_sem] theorem tagg_89 : tagg Try.prog 89 = some false:=by kernel_rfl
@[go_sem] theorem tsz_89 : tsz Try.prog 89 = some 1:=by kernel_rfl
@[go_sem] theorem tby_89 : tby Try.prog 89 = some 1:=by kernel_rfl
@[go_sem] theorem und_89 : Try.prog.underlying 89 = some (.int .u8):=by kernel_rfl
@[go_sem] theorem zac_89 : zeroAC Try.prog 89 = some [.d (.sc (.int .u8 0))]:=by kernel_rfl
@[go_sem] theorem tzero_89 : tzero Try.prog 89 = some [.int .u8 0]:=by kernel_rfl
@[go_sem] theorem tagg_92 : tagg Try.prog 92 = some false:=by kernel_rfl
@[go_sem] theorem tsz_92 : tsz Try.prog 92 = some 1:=by kernel_rfl
@[go_sem] theorem tby_92 : tby Try.prog 92 = some 4:=by kernel_rfl
@[go_sem] theorem und_92 : Try.prog.underlying 92 = some (.int .i32):=by kernel_rfl
@[go_sem] theorem zac_92 : zeroAC Try.prog 92 = some [.d (.sc (.int .i32 0))]:=by kernel_rfl
@[go_sem] theorem tzero_92 : tzero Try.prog 92 = some [.int .i32 0]:=by kernel_rfl
@[go_sem] theorem tagg_93 : tagg Try.prog 93 = some false:=by kernel_rfl
@[go_sem] theorem tsz_93 : tsz Try.prog 93 = some 1:=by kernel_rfl
@[go_sem] theorem tby_93 : tby Try.prog 93 = some 4:=by kernel_rfl
@[go_sem] theorem und_93 : Try.prog.underlying 93 = some (.int .i32):=by kernel_rfl
@[go_sem] theorem zac_93 : zeroAC Try.prog 93 = some [.d (.sc (.int .i32 0))]:=by kernel_rfl
@[go_sem] theorem tzero_93 : tzero Try.prog 93 = some [.int .i32 0]:=by kernel_rfl
@[go_sem] theorem tagg_94 : tagg Try.prog 94 = some true:=by kernel_rfl
@[go_sem] theorem tsz_94 : tsz Try.prog 94 = some 11:=by kernel_rfl
@[go_sem] theorem tby_94 : tby Try.prog 94 = some 48:=by kernel_rfl
@[go_sem] theorem tagg_95 : tagg Try.prog 95 = some true:=by kernel_rfl
@[go_sem] theorem tsz_95 : tsz Try.prog 95 = some 11:=by kernel_rfl
@[go_sem] theorem tby_95 : tby Try.prog 95 = some 48:=by kernel_rfl
end Go.Proofs.Ytpilbhbbdldpeaa

namespace Go.Proofs.Ytpilbhbbdldpeaa
open Go.RowKit
set_option maxRecDepth 100000
def encIts (l : List It) : DV:=.sl 39 3 (l.map encIt)
end Go.Proofs.Ytpilbhbbdldpeaa

namespace Go.Proofs.Ytpilbhbbdldpeaa
open Go.RowKit
set_option maxRecDepth 100000
structure Mt where
  rows : Int
  cols : Int
  cells : List It
  deriving DecidableEq
def allN (l : List It) : Bool:=l.all numB
def mtB (m : Mt) : Bool:=decide (0≤m.rows∧m.rows≤12∧0≤m.cols∧m.cols≤12∧(m.cells.length : Int) = m.rows * m.cols) && allN m.cells
def encMt (m : Mt) : List DV:=[.sc (.int .i64 m.rows),.sc (.int .i64 m.cols),encIts m.cells]
theorem cellAt_m (r : Int) (C i j : Nat) (l : List It) (x : It) (h : l[i * C + j]? = some x) (hb : i * C + j≤1000000) :
    Meets Try.prog 30 [(true,encMt ⟨r,C,l⟩),(false,[.sc (.int .i64 i)]),(false,[.sc (.int .i64 j)])] [(true,encIt x,true)]:=by
  have h1 : IntKind.i64.wrap ((i : Int) * C) = (i * C : Nat):=by rw [← Int.natCast_mul,wrapN _ (by omega)]
  have h2 : IntKind.i64.wrap (((i * C : Nat) : Int) + j) = (i * C + j : Nat):=by rw [← Int.natCast_add,wrapN _ (by omega)]
  refine meets_of Try.func30 rfl (by kernel_rfl) (by simp) Try.ntmps30 (congrArg Array.toList Try.results30) ?_
  simp only [go_sem,↓reduceIte,Nat.reduceAdd,Nat.reduceSub,Nat.reduceMul,Nat.reduceLT,Nat.reduceLeDiff,Nat.reduceEqDiff,Int.reduceLT,Int.reduceLE,Int.reduceEq,Nat.reduceBEq,reduceCtorEq,reduceCtorEq,encMt,encIts,h1,h2,List.getElem?_map,h,Option.map_some,encIt]
  refine Or.inl ?_;repeat' (first | exact gives_nil | exact trivial | with_reducible apply gives_sc | with_reducible apply gives_nilS (by decide) | with_reducible apply gives_own | with_reducible apply Exists.intro | with_reducible apply And.intro | (show (_ : Option Ob) = _;simp only [go_sem,↓reduceIte,Nat.reduceAdd,Nat.reduceSub,Nat.reduceMul,Nat.reduceLT,Nat.reduceLeDiff,Nat.reduceEqDiff,Int.reduceLT,Int.reduceLE,Int.reduceEq,Nat.reduceBEq,reduceCtorEq,reduceCtorEq,true_and]))
theorem allN_succ {l : List It} {k : Nat} {x : It} (h : l[k]? = some x) : allN (l.take (k + 1)) = (allN (l.take k) && numB x):=by
  obtain ⟨hk,rfl⟩:=List.getElem?_eq_some_iff.1 h
  unfold allN
  rw [List.take_succ_eq_append_getElem hk,List.all_append];simp
theorem allN_get {l : List It} {k : Nat} {x : It} (h : l[k]? = some x) (hx : numB x = false) : allN l = false:=by
  unfold allN
  rw [List.all_eq_false]
  exact ⟨x,List.mem_of_getElem? h,by simp [hx]⟩
theorem allNumbers_m (l : List It) (hl : l.length≤1000000) : Meets Try.prog 24 [(false,[encIts l])] [(false,[.sc (.bool (allN l))],true)]:=by
  refine meets_of Try.func24 rfl (by kernel_rfl) (by simp) Try.ntmps24 (congrArg Array.toList Try.results24) ?_
  simp only [go_sem,↓reduceIte,Nat.reduceAdd,Nat.reduceSub,Nat.reduceMul,Nat.reduceLT,Nat.reduceLeDiff,Nat.reduceEqDiff,Int.reduceLT,Int.reduceLE,Int.reduceEq,Nat.reduceBEq,reduceCtorEq,reduceCtorEq,encIts,List.length_map]
  refine awp_loop (fun s m=>∃ k : Nat,k≤l.length∧m = l.length - k∧allN (l.take k) = true∧s.n = 0∧s.sl 5 = .p false [.d (encIts l)]∧s.sl 6 = .p false [.d (.sc (.int .i64 l.length))]∧s.sl 7 = .p false [.d (.sc (.int .i64 k))]) l.length ?_ ?_
  · exact ⟨0,Nat.zero_le _,rfl,rfl,rfl,rfl,rfl,rfl⟩
  · rintro s m ⟨k,hk,rfl,ha,hn,h5,h6,h7⟩
    by_cases hlt : k < l.length
    · have hx:=List.getElem?_eq_getElem hlt
      generalize l[k] = x at hx
      have hd : decide ((k : Int) < (l.length : Int)) = true:=by simpa using hlt
      have hw : IntKind.i64.wrap ((k : Int) + 1) = (k + 1 : Nat):=wrapN (k + 1) (by omega)
      simp only [go_sem,↓reduceIte,Nat.reduceAdd,Nat.reduceSub,Nat.reduceMul,Nat.reduceLT,Nat.reduceLeDiff,Nat.reduceEqDiff,Int.reduceLT,Int.reduceLE,Int.reduceEq,Nat.reduceBEq,reduceCtorEq,reduceCtorEq,h5,h6,h7,hn,encIts,hd,List.getElem?_map,hx,Option.map_some,encIt]
      refine astep_call rfl (mImplIsNum x) rfl rfl (by simp only [go_sem,↓reduceIte,Nat.reduceAdd,Nat.reduceSub,Nat.reduceMul,Nat.reduceLT,Nat.reduceLeDiff,Nat.reduceEqDiff,Int.reduceLT,Int.reduceLE,Int.reduceEq,Nat.reduceBEq,reduceCtorEq,reduceCtorEq,encIt]) ?_
      cases hb : numB x
      · simp only [go_sem,↓reduceIte,Nat.reduceAdd,Nat.reduceSub,Nat.reduceMul,Nat.reduceLT,Nat.reduceLeDiff,Nat.reduceEqDiff,Int.reduceLT,Int.reduceLE,Int.reduceEq,Nat.reduceBEq,reduceCtorEq,reduceCtorEq,hb,allN_get hx hb]
        refine Or.inl ?_;repeat' (first | exact gives_nil | exact trivial | with_reducible apply gives_sc | with_reducible apply gives_nilS (by decide) | with_reducible apply gives_own | with_reducible apply Exists.intro | with_reducible apply And.intro | (show (_ : Option Ob) = _;simp only [go_sem,↓reduceIte,Nat.reduceAdd,Nat.reduceSub,Nat.reduceMul,Nat.reduceLT,Nat.reduceLeDiff,Nat.reduceEqDiff,Int.reduceLT,Int.reduceLE,Int.reduceEq,Nat.reduceBEq,reduceCtorEq,reduceCtorEq,true_and]))
      · simp only [go_sem,↓reduceIte,Nat.reduceAdd,Nat.reduceSub,Nat.reduceMul,Nat.reduceLT,Nat.reduceLeDiff,Nat.reduceEqDiff,Int.reduceLT,Int.reduceLE,Int.reduceEq,Nat.reduceBEq,reduceCtorEq,reduceCtorEq,hb,h7,hn,hw]
        exact ⟨0,l.length - (k + 1),by omega,by omega,k + 1,by omega,rfl,by rw [allN_succ hx,ha,hb];rfl,rfl,h5,h6,rfl⟩
    · have hd : decide ((k : Int) < (l.length : Int)) = false:=by simpa using hlt
      rw [List.take_of_length_le (by omega)] at ha
      simp only [go_sem,↓reduceIte,Nat.reduceAdd,Nat.reduceSub,Nat.reduceMul,Nat.reduceLT,Nat.reduceLeDiff,Nat.reduceEqDiff,Int.reduceLT,Int.reduceLE,Int.reduceEq,Nat.reduceBEq,reduceCtorEq,reduceCtorEq,h5,h6,h7,hn,encIts,hd,ha]
      refine Or.inl ?_;repeat' (first | exact gives_nil | exact trivial | with_reducible apply gives_sc | with_reducible apply gives_nilS (by decide) | with_reducible apply gives_own | with_reducible apply Exists.intro | with_reducible apply And.intro | (show (_ : Option Ob) = _;simp only [go_sem,↓reduceIte,Nat.reduceAdd,Nat.reduceSub,Nat.reduceMul,Nat.reduceLT,Nat.reduceLeDiff,Nat.reduceEqDiff,Int.reduceLT,Int.reduceLE,Int.reduceEq,Nat.reduceBEq,reduceCtorEq,reduceCtorEq,true_and]))
theorem mtB_false {m : Mt} (h : ¬ (0≤m.rows∧m.rows≤12∧0≤m.cols∧m.cols≤12∧(m.cells.length : Int) = m.rows * m.cols)) : mtB m = false:=by unfold mtB;rw [decide_eq_false h];rfl
theorem mtB_true {m : Mt} (h : 0≤m.rows∧m.rows≤12∧0≤m.cols∧m.cols≤12∧(m.cells.length : Int) = m.rows * m.cols) : mtB m = allN m.cells:=by unfold mtB;rw [decide_eq_true h];rfl
theorem mul12 {a b : Int} (h1 : 0≤a∧a≤12) (h2 : 0≤b∧b≤12) : 0≤a * b∧a * b≤144:=by
  refine ⟨Int.mul_nonneg h1.1 h2.1,?_⟩
  have : a * b≤12 * 12:=Int.mul_le_mul h1.2 h2.2 h2.1 (by omega)
  omega
theorem isMt_m (m : Mt) : Meets Try.prog 23 [(true,encMt m)] [(false,[.sc (.bool (mtB m))],true)]:=by
  obtain ⟨r,c,l⟩:=m
  by_cases c1 : r < 0
  · have hb : mtB ⟨r,c,l⟩ = false:=mtB_false (by simp;omega)
    refine meets_of Try.func23 rfl (by kernel_rfl) (by simp) Try.ntmps23 (congrArg Array.toList Try.results23) ?_
    simp only [go_sem,↓reduceIte,Nat.reduceAdd,Nat.reduceSub,Nat.reduceMul,Nat.reduceLT,Nat.reduceLeDiff,Nat.reduceEqDiff,Int.reduceLT,Int.reduceLE,Int.reduceEq,Nat.reduceBEq,reduceCtorEq,reduceCtorEq,encMt,encIts,decide_eq_true c1,hb]
    refine Or.inl ?_;repeat' (first | exact gives_nil | exact trivial | with_reducible apply gives_sc | with_reducible apply gives_nilS (by decide) | with_reducible apply gives_own | with_reducible apply Exists.intro | with_reducible apply And.intro | (show (_ : Option Ob) = _;simp only [go_sem,↓reduceIte,Nat.reduceAdd,Nat.reduceSub,Nat.reduceMul,Nat.reduceLT,Nat.reduceLeDiff,Nat.reduceEqDiff,Int.reduceLT,Int.reduceLE,Int.reduceEq,Nat.reduceBEq,reduceCtorEq,reduceCtorEq,true_and]))
  have d1:=decide_eq_false c1
  by_cases c2 : 12 < r
  · have hb : mtB ⟨r,c,l⟩ = false:=mtB_false (by simp;omega)
    refine meets_of Try.func23 rfl (by kernel_rfl) (by simp) Try.ntmps23 (congrArg Array.toList Try.results23) ?_
    simp only [go_sem,↓reduceIte,Nat.reduceAdd,Nat.reduceSub,Nat.reduceMul,Nat.reduceLT,Nat.reduceLeDiff,Nat.reduceEqDiff,Int.reduceLT,Int.reduceLE,Int.reduceEq,Nat.reduceBEq,reduceCtorEq,reduceCtorEq,encMt,encIts,d1,decide_eq_true c2,hb]
    refine Or.inl ?_;repeat' (first | exact gives_nil | exact trivial | with_reducible apply gives_sc | with_reducible apply gives_nilS (by decide) | with_reducible apply gives_own | with_reducible apply Exists.intro | with_reducible apply And.intro | (show (_ : Option Ob) = _;simp only [go_sem,↓reduceIte,Nat.reduceAdd,Nat.reduceSub,Nat.reduceMul,Nat.reduceLT,Nat.reduceLeDiff,Nat.reduceEqDiff,Int.reduceLT,Int.reduceLE,Int.reduceEq,Nat.reduceBEq,reduceCtorEq,reduceCtorEq,true_and]))
  have d2:=decide_eq_false c2
  by_cases c3 : c < 0
  · have hb : mtB ⟨r,c,l⟩ = false:=mtB_false (by simp;omega)
    refine meets_of Try.func23 rfl (by kernel_rfl) (by simp) Try.ntmps23 (congrArg Array.toList Try.results23) ?_
    simp only [go_sem,↓reduceIte,Nat.reduceAdd,Nat.reduceSub,Nat.reduceMul,Nat.reduceLT,Nat.reduceLeDiff,Nat.reduceEqDiff,Int.reduceLT,Int.reduceLE,Int.reduceEq,Nat.reduceBEq,reduceCtorEq,reduceCtorEq,encMt,encIts,d1,d2,decide_eq_true c3,hb]
    refine Or.inl ?_;repeat' (first | exact gives_nil | exact trivial | with_reducible apply gives_sc | with_reducible apply gives_nilS (by decide) | with_reducible apply gives_own | with_reducible apply Exists.intro | with_reducible apply And.intro | (show (_ : Option Ob) = _;simp only [go_sem,↓reduceIte,Nat.reduceAdd,Nat.reduceSub,Nat.reduceMul,Nat.reduceLT,Nat.reduceLeDiff,Nat.reduceEqDiff,Int.reduceLT,Int.reduceLE,Int.reduceEq,Nat.reduceBEq,reduceCtorEq,reduceCtorEq,true_and]))
  have d3:=decide_eq_false c3
  by_cases c4 : 12 < c
  · have hb : mtB ⟨r,c,l⟩ = false:=mtB_false (by simp;omega)
    refine meets_of Try.func23 rfl (by kernel_rfl) (by simp) Try.ntmps23 (congrArg Array.toList Try.results23) ?_
    simp only [go_sem,↓reduceIte,Nat.reduceAdd,Nat.reduceSub,Nat.reduceMul,Nat.reduceLT,Nat.reduceLeDiff,Nat.reduceEqDiff,Int.reduceLT,Int.reduceLE,Int.reduceEq,Nat.reduceBEq,reduceCtorEq,reduceCtorEq,encMt,encIts,d1,d2,d3,decide_eq_true c4,hb]
    refine Or.inl ?_;repeat' (first | exact gives_nil | exact trivial | with_reducible apply gives_sc | with_reducible apply gives_nilS (by decide) | with_reducible apply gives_own | with_reducible apply Exists.intro | with_reducible apply And.intro | (show (_ : Option Ob) = _;simp only [go_sem,↓reduceIte,Nat.reduceAdd,Nat.reduceSub,Nat.reduceMul,Nat.reduceLT,Nat.reduceLeDiff,Nat.reduceEqDiff,Int.reduceLT,Int.reduceLE,Int.reduceEq,Nat.reduceBEq,reduceCtorEq,reduceCtorEq,true_and]))
  have d4:=decide_eq_false c4
  have hm:=mul12 (a:=r) (b:=c) (by omega) (by omega)
  have hw:=wrapI (r * c) (by omega)
  by_cases c5 : (l.length : Int) = r * c
  · have hb : mtB ⟨r,c,l⟩ = allN l:=mtB_true (m:=⟨r,c,l⟩) ⟨by simp;omega,by simp;omega,by simp;omega,by simp;omega,c5⟩
    refine meets_of Try.func23 rfl (by kernel_rfl) (by simp) Try.ntmps23 (congrArg Array.toList Try.results23) ?_
    simp only [go_sem,↓reduceIte,Nat.reduceAdd,Nat.reduceSub,Nat.reduceMul,Nat.reduceLT,Nat.reduceLeDiff,Nat.reduceEqDiff,Int.reduceLT,Int.reduceLE,Int.reduceEq,Nat.reduceBEq,reduceCtorEq,reduceCtorEq,encMt,encIts,d1,d2,d3,d4,List.length_map,hw,decide_eq_true c5]
    refine astep_call rfl (allNumbers_m l (by omega)) rfl rfl (by simp only [go_sem,↓reduceIte,Nat.reduceAdd,Nat.reduceSub,Nat.reduceMul,Nat.reduceLT,Nat.reduceLeDiff,Nat.reduceEqDiff,Int.reduceLT,Int.reduceLE,Int.reduceEq,Nat.reduceBEq,reduceCtorEq,reduceCtorEq,encIts]) ?_
    simp only [go_sem,↓reduceIte,Nat.reduceAdd,Nat.reduceSub,Nat.reduceMul,Nat.reduceLT,Nat.reduceLeDiff,Nat.reduceEqDiff,Int.reduceLT,Int.reduceLE,Int.reduceEq,Nat.reduceBEq,reduceCtorEq,reduceCtorEq,hb]
    refine Or.inl ?_;repeat' (first | exact gives_nil | exact trivial | with_reducible apply gives_sc | with_reducible apply gives_nilS (by decide) | with_reducible apply gives_own | with_reducible apply Exists.intro | with_reducible apply And.intro | (show (_ : Option Ob) = _;simp only [go_sem,↓reduceIte,Nat.reduceAdd,Nat.reduceSub,Nat.reduceMul,Nat.reduceLT,Nat.reduceLeDiff,Nat.reduceEqDiff,Int.reduceLT,Int.reduceLE,Int.reduceEq,Nat.reduceBEq,reduceCtorEq,reduceCtorEq,true_and]))
  · have hb : mtB ⟨r,c,l⟩ = false:=mtB_false (by simp;omega)
    refine meets_of Try.func23 rfl (by kernel_rfl) (by simp) Try.ntmps23 (congrArg Array.toList Try.results23) ?_
    simp only [go_sem,↓reduceIte,Nat.reduceAdd,Nat.reduceSub,Nat.reduceMul,Nat.reduceLT,Nat.reduceLeDiff,Nat.reduceEqDiff,Int.reduceLT,Int.reduceLE,Int.reduceEq,Nat.reduceBEq,reduceCtorEq,reduceCtorEq,encMt,encIts,d1,d2,d3,d4,List.length_map,hw,decide_eq_false c5,hb]
    refine Or.inl ?_;repeat' (first | exact gives_nil | exact trivial | with_reducible apply gives_sc | with_reducible apply gives_nilS (by decide) | with_reducible apply gives_own | with_reducible apply Exists.intro | with_reducible apply And.intro | (show (_ : Option Ob) = _;simp only [go_sem,↓reduceIte,Nat.reduceAdd,Nat.reduceSub,Nat.reduceMul,Nat.reduceLT,Nat.reduceLeDiff,Nat.reduceEqDiff,Int.reduceLT,Int.reduceLE,Int.reduceEq,Nat.reduceBEq,reduceCtorEq,reduceCtorEq,true_and]))
end Go.Proofs.Ytpilbhbbdldpeaa

namespace Go.Proofs.Ytpilbhbbdldpeaa
open List (length_take length_drop length_append map_cons map_nil length_map length_cons length_nil length_set length_replicate)
open Go.RowKit
set_option maxRecDepth 100000
theorem encIt_all (x : It) : (encIt x).all isScD = true:=rfl
theorem fl_it {t k : Nat} {l : List It} : eFlat (some (.sl t k (l.map encIt))) = some []:=e_flat_map encIt_all
theorem ix_it {t : Nat} {l : List It} {kd : IntKind} {z : Int} (h : 0≤z) (h1 : z < l.length) : eIdx 3 (some (.sl t 3 (l.map encIt))) (some (.sc (.int kd z))) = some (encIt (l.getD z.toNat default)):=e_idx_map (fun _=>rfl) h h1
theorem st_it {t : Nat} {l : List It} {kd : IntKind} {z : Int} {ds : List DV} (h : 0≤z) (h1 : z < l.length) (hl : ds.length = 3) : eSet 3 0 (some (.sl t 3 (l.map encIt))) (some (.sc (.int kd z))) (some ds) = some [.sl t 3 ((l.map encIt).set z.toNat ds)]:=e_set_map (fun _=>rfl) h h1 hl
def besL (a b : Nat) (la lb : List It) : Nat→List It
  | 0=>[]
  | i + 1=>besL a b la lb i ++ ((la.drop (i * a)).take a ++ (lb.drop (i * b)).take b)
theorem besL_len (a b : Nat) (la lb : List It) : ∀ i,(besL a b la lb i).length≤i * (a + b)
  | 0=>by simp [besL]
  | i + 1=>by
    have:=besL_len a b la lb i
    simp only [besL,List.length_append,List.length_take,List.length_drop,Nat.succ_mul]
    omega
set_option maxHeartbeats 1000000 in
theorem implBeside_m (n a b : Nat) (r : Int) (la lb : List It) (hn : n≤12) (ha : a≤12) (hb : b≤12) (hla : la.length = n * a) (hlb : lb.length = n * b) :
    Meets Try.prog 29 [(true,encMt ⟨n,a,la⟩),(true,encMt ⟨r,b,lb⟩)] [(true,encMt ⟨n,(a + b : Nat),besL a b la lb n⟩,true)]:=by
  refine meets_upf Try.func29 u_impl_beside_g rfl ?_;simp only [u_impl_beside_u]
  simp (disch:=first | omega | (simp only [length_take,length_drop,length_append,map_cons,map_nil,length_map,length_cons,length_nil,length_set,length_replicate];omega) | (simp only [length_cons,length_nil,Nat.zero_add,Nat.reduceAdd])) only [go_sem,↓reduceIte,Nat.reduceAdd,Int.reduceNeg,Int.reduceAdd,Int.reduceSub,Int.reduceMul,Int.reduceLT,Int.reduceLE,Int.reduceEq,Int.reduceToNat,Nat.reduceBEq,encMt,encIts]
  refine lp_n n (fun i=>[.sc (.int .i64 (i : Nat)),.sl 39 3 ((besL a b la lb i).map encIt)]) rfl fun i hi=>?_
  have h1 : i * a≤12 * 12:=Nat.mul_le_mul (by omega) (by omega)
  have h2 : i * b≤12 * 12:=Nat.mul_le_mul (by omega) (by omega)
  have h3:=besL_len a b la lb i
  have h4 : i * (a + b)≤12 * 24:=Nat.mul_le_mul (by omega) (by omega)
  have g1 : (i : Int) * a = ((i * a : Nat) : Int):=by simp
  have g2 : (i : Int) * b = ((i * b : Nat) : Int):=by simp
  have g3 : ((i + 1 : Nat) : Int) * a = ((i * a + a : Nat) : Int):=by rw [← Int.natCast_mul,Nat.succ_mul]
  have g4 : ((i + 1 : Nat) : Int) * b = ((i * b + b : Nat) : Int):=by rw [← Int.natCast_mul,Nat.succ_mul]
  simp only [u_impl_beside_l0]
  simp (disch:=first | omega | (simp only [length_take,length_drop,length_append,map_cons,map_nil,length_map,length_cons,length_nil,length_set,length_replicate];omega) | (simp only [length_cons,length_nil,Nat.zero_add,Nat.reduceAdd])) only [go_sem,↓reduceIte,Nat.reduceAdd,Int.reduceNeg,Int.reduceAdd,Int.reduceSub,Int.reduceMul,Int.reduceLT,Int.reduceLE,Int.reduceEq,Int.reduceToNat,Nat.reduceBEq,nat1,g1,g2,g3,g4]
  refine br_if (fun h=>?_) (fun h=>?_)
  · have hlt : i < n:=by omega
    have k1 : i * a + a≤n * a:=by rw [← Nat.succ_mul];exact Nat.mul_le_mul_right _ hlt
    have k2 : i * b + b≤n * b:=by rw [← Nat.succ_mul];exact Nat.mul_le_mul_right _ hlt
    simp (disch:=first | omega | (simp only [length_take,length_drop,length_append,map_cons,map_nil,length_map,length_cons,length_nil,length_set,length_replicate];omega) | (simp only [length_cons,length_nil,Nat.zero_add,Nat.reduceAdd])) only [go_sem,↓reduceIte,Nat.reduceAdd,Int.reduceNeg,Int.reduceAdd,Int.reduceSub,Int.reduceMul,Int.reduceLT,Int.reduceLE,Int.reduceEq,Int.reduceToNat,Nat.reduceBEq,nat1,g1,g2,g3,g4,fl_it]
    refine ⟨?_,hlt⟩
    simp [besL]
  · have : i = n:=by omega
    subst this
    simp (disch:=first | omega | (simp only [length_take,length_drop,length_append,map_cons,map_nil,length_map,length_cons,length_nil,length_set,length_replicate];omega) | (simp only [length_cons,length_nil,Nat.zero_add,Nat.reduceAdd])) only [go_sem,↓reduceIte,Nat.reduceAdd,Int.reduceNeg,Int.reduceAdd,Int.reduceSub,Int.reduceMul,Int.reduceLT,Int.reduceLE,Int.reduceEq,Int.reduceToNat,Nat.reduceBEq,true_and]
    rfl
end Go.Proofs.Ytpilbhbbdldpeaa

namespace Go.Proofs.Ytpilbhbbdldpeaa
open Go.RowKit
set_option maxRecDepth 100000
def turnAt (R C : Nat) (l : List It) (t : Nat) : It:=l.getD ((t % R) * C + t / R) it0
def turnL (R C : Nat) (l : List It) (k : Nat) : List It:=(List.range k).map (turnAt R C l)
theorem turnL_len (R C : Nat) (l : List It) (k : Nat) : (turnL R C l k).length = k:=by simp [turnL]
theorem turnL_succ (R C : Nat) (l : List It) (k : Nat) : turnL R C l (k + 1) = turnL R C l k ++ [turnAt R C l k]:=by simp [turnL,List.range_succ]
def turnM (m : Mt) : Mt:=if mtB m = true then ⟨m.cols,m.rows,turnL m.rows.toNat m.cols.toNat m.cells (m.cols.toNat * m.rows.toNat)⟩ else ⟨0,0,[]⟩
theorem turn_ix {R C i j n : Nat} (hi : i < C) (hj : j < R) (hn : n = R * C) : (i * R + j) % R = j∧(i * R + j) / R = i∧j * C + i < n:=by
  have h1 : (i * R + j) % R = j:=by rw [Nat.add_comm,Nat.add_mul_mod_self_right,Nat.mod_eq_of_lt hj]
  have h2 : (i * R + j) / R = i:=by rw [Nat.add_comm,Nat.add_mul_div_right _ _ (by omega),Nat.div_eq_of_lt hj];omega
  refine ⟨h1,h2,?_⟩
  subst hn
  have : (j + 1) * C≤R * C:=Nat.mul_le_mul_right _ hj
  rw [Nat.add_mul] at this
  omega
theorem turn_get {R C i j : Nat} {l : List It} (hi : i < C) (hj : j < R) (hn : l.length = R * C) : l[j * C + i]? = some (turnAt R C l (i * R + j)):=by
  obtain ⟨h1,h2,h3⟩:=turn_ix hi hj hn
  unfold turnAt
  rw [h1,h2,List.getD_eq_getElem?_getD,List.getElem?_eq_getElem h3];rfl
theorem sq_bd {i R C j : Nat} (hi : i < C) (hj : j≤R) (hR : R≤12) (hC : C≤12) : i * R + j≤144:=by
  have : (i + 1) * R≤12 * 12:=Nat.mul_le_mul (by omega) hR
  rw [Nat.add_mul] at this;omega
theorem mtB_dims {m : Mt} (h : mtB m = true) : 0≤m.rows∧m.rows≤12∧0≤m.cols∧m.cols≤12∧(m.cells.length : Int) = m.rows * m.cols:=by
  unfold mtB at h;simp only [Bool.and_eq_true,decide_eq_true_eq] at h;exact h.1
def TI (q R C : Nat) (l : List It) (k : Nat) (s : AS) : Prop :=
  s.n = 4∧s.sl 1 = .p false [.ptr 0 0 0]∧s.sl 2 = .p false [.ptr 1 1 0]∧s.sl q = .p false [.ptr 2 2 0]∧s.ob 0 = .var 0 26 ((encMt ⟨R,C,l⟩).map .d)∧s.ob 1 = .var 1 26 [.d (.sc (.int .i64 0)),.d (.sc (.int .i64 0)),.nil] ∧
  ∃ v,s.ob 2 = .var 2 26 [.d (.sc (.int .i64 C)),.d (.sc (.int .i64 R)),.own 3 v]∧s.ob 3 = .row v 39 3 ((turnL R C l k).map encIt) true
theorem implTurn_m (m : Mt) : Meets Try.prog 25 [(true,encMt m)] [(true,encMt (turnM m),true),(false,[.sc (.bool (mtB m))],true)]:=by
  obtain ⟨r,c,l⟩:=m
  refine meets_of Try.func25 rfl (by kernel_rfl) (by simp) Try.ntmps25 (congrArg Array.toList Try.results25) ?_
  simp only [go_sem,↓reduceIte,Nat.reduceAdd,Nat.reduceSub,Nat.reduceMul,Nat.reduceLT,Nat.reduceLeDiff,Nat.reduceEqDiff,Int.reduceLT,Int.reduceLE,Int.reduceEq,Nat.reduceBEq,reduceCtorEq,reduceCtorEq,encMt,encIts]
  refine astep_call rfl (isMt_m ⟨r,c,l⟩) rfl rfl (by simp only [go_sem,↓reduceIte,Nat.reduceAdd,Nat.reduceSub,Nat.reduceMul,Nat.reduceLT,Nat.reduceLeDiff,Nat.reduceEqDiff,Int.reduceLT,Int.reduceLE,Int.reduceEq,Nat.reduceBEq,reduceCtorEq,reduceCtorEq,encMt,encIts]) ?_
  cases hb : mtB ⟨r,c,l⟩
  · have ht : turnM ⟨r,c,l⟩ = ⟨0,0,[]⟩:=by unfold turnM;rw [if_neg (by simp [hb])]
    simp only [go_sem,↓reduceIte,Nat.reduceAdd,Nat.reduceSub,Nat.reduceMul,Nat.reduceLT,Nat.reduceLeDiff,Nat.reduceEqDiff,Int.reduceLT,Int.reduceLE,Int.reduceEq,Nat.reduceBEq,reduceCtorEq,reduceCtorEq,hb,ht,encMt,encIts]
    refine Or.inl ?_;repeat' (first | exact gives_nil | exact trivial | with_reducible apply gives_sc | with_reducible apply gives_nilS (by decide) | with_reducible apply gives_own | with_reducible apply Exists.intro | with_reducible apply And.intro | (show (_ : Option Ob) = _;simp only [go_sem,↓reduceIte,Nat.reduceAdd,Nat.reduceSub,Nat.reduceMul,Nat.reduceLT,Nat.reduceLeDiff,Nat.reduceEqDiff,Int.reduceLT,Int.reduceLE,Int.reduceEq,Nat.reduceBEq,reduceCtorEq,reduceCtorEq,true_and]))
  · obtain ⟨h1,h2,h3,h4,hq5⟩:=mtB_dims hb
    simp only at h1 h2 h3 h4 hq5
    obtain ⟨R,rfl⟩:=Int.eq_ofNat_of_zero_le h1
    obtain ⟨C,rfl⟩:=Int.eq_ofNat_of_zero_le h3
    have ht : turnM ⟨R,C,l⟩ = ⟨C,R,turnL R C l (C * R)⟩:=by unfold turnM;rw [if_pos hb];simp
    have hR : R≤12:=by omega
    have hC : C≤12:=by omega
    have hD : l.length = R * C:=by exact_mod_cast hq5
    simp only [go_sem,↓reduceIte,Nat.reduceAdd,Nat.reduceSub,Nat.reduceMul,Nat.reduceLT,Nat.reduceLeDiff,Nat.reduceEqDiff,Int.reduceLT,Int.reduceLE,Int.reduceEq,Nat.reduceBEq,reduceCtorEq,reduceCtorEq,hb,ht,encMt,encIts]
    refine awp_nilcell (el:=39) (k:=3) (i:=2) (j:=2) (st:=2) (by decide) rfl rfl ?_
    refine awp_loop (fun s m=>∃ i : Nat,i≤C∧m = C - i∧s.sl 5 = .p false [.d (.sc (.int .i64 i))]∧TI 4 R C l (i * R) s) C ?_ ?_
    · exact ⟨0,Nat.zero_le _,rfl,rfl,rfl,rfl,rfl,rfl,rfl,rfl,3,rfl,by rw [Nat.zero_mul];rfl⟩
    · rintro s m ⟨i,hi,rfl,h5,hn,g1,g2,g4,o0,o1,v,o2,o3⟩
      by_cases hlt : i < C
      · have hd : decide ((i : Int) < (C : Int)) = true:=by simpa using hlt
        have hw : IntKind.i64.wrap ((i : Int) + 1) = (i + 1 : Nat):=wrapN (i + 1) (by omega)
        simp only [go_sem,↓reduceIte,Nat.reduceAdd,Nat.reduceSub,Nat.reduceMul,Nat.reduceLT,Nat.reduceLeDiff,Nat.reduceEqDiff,Int.reduceLT,Int.reduceLE,Int.reduceEq,Nat.reduceBEq,reduceCtorEq,reduceCtorEq,g1,h5,hn,o0,encMt,encIts,hd]
        refine awp_loop (fun s m=>∃ j : Nat,j≤R∧m = R - j∧s.sl 6 = .p false [.d (.sc (.int .i64 j))]∧s.sl 5 = .p false [.d (.sc (.int .i64 i))]∧TI 4 R C l (i * R + j) s) R ?_ ?_
        · exact ⟨0,Nat.zero_le _,rfl,rfl,h5,rfl,g1,g2,g4,o0,o1,v,o2,o3⟩
        · clear h5 hn g1 g2 g4 o0 o1 o2 o3
          rintro s m ⟨j,hj,rfl,h6,h5,hn,g1,g2,g4,o0,o1,v,o2,o3⟩
          by_cases hjt : j < R
          · have hd : decide ((j : Int) < (R : Int)) = true:=by simpa using hjt
            have hw : IntKind.i64.wrap ((j : Int) + 1) = (j + 1 : Nat):=wrapN (j + 1) (by omega)
            have hx:=turn_get hlt hjt hD
            have hix:=(turn_ix hlt hjt hD).2.2
            have hbd:=sq_bd hlt hj hR hC
            have hsu:=turnL_succ R C l (i * R + j)
            have hLL:=turnL_len R C l (i * R + j)
            generalize turnAt R C l (i * R + j) = x at *
            generalize hL : turnL R C l (i * R + j) = L at *
            simp only [go_sem,↓reduceIte,Nat.reduceAdd,Nat.reduceSub,Nat.reduceMul,Nat.reduceLT,Nat.reduceLeDiff,Nat.reduceEqDiff,Int.reduceLT,Int.reduceLE,Int.reduceEq,Nat.reduceBEq,reduceCtorEq,reduceCtorEq,g1,h6,h5,hn,o0,encMt,encIts,hd]
            refine awp_drawn (n:=7) false (by kernel_rfl) (by kernel_rfl) ?_
            simp only [go_sem,↓reduceIte,Nat.reduceAdd,Nat.reduceSub,Nat.reduceMul,Nat.reduceLT,Nat.reduceLeDiff,Nat.reduceEqDiff,Int.reduceLT,Int.reduceLE,Int.reduceEq,Nat.reduceBEq,reduceCtorEq,reduceCtorEq,g1,g4,h6,h5,hn,o0,o2,encMt,encIts]
            refine hcall rfl (cellAt_m R C j i l x hx (by rw [hD] at hix;have:=Nat.mul_le_mul hR hC;omega)) rfl (by simp only [go_sem,↓reduceIte,Nat.reduceAdd,Nat.reduceSub,Nat.reduceMul,Nat.reduceLT,Nat.reduceLeDiff,Nat.reduceEqDiff,Int.reduceLT,Int.reduceLE,Int.reduceEq,Nat.reduceBEq,reduceCtorEq,reduceCtorEq,encMt,encIts]) (by simp) ?_
            simp only [go_sem,↓reduceIte,Nat.reduceAdd,Nat.reduceSub,Nat.reduceMul,Nat.reduceLT,Nat.reduceLeDiff,Nat.reduceEqDiff,Int.reduceLT,Int.reduceLE,Int.reduceEq,Nat.reduceBEq,reduceCtorEq,reduceCtorEq,encIt,hn]
            refine astep_app (i:=3) (st:=v) (es:=L.map encIt) (news:=[encIt x]) rfl rfl tel_24 tzero_39 rfl tby_39 rfl rfl (src_flat (t:=39) (by simp only [go_sem,↓reduceIte,Nat.reduceAdd,Nat.reduceSub,Nat.reduceMul,Nat.reduceLT,Nat.reduceLeDiff,Nat.reduceEqDiff,Int.reduceLT,Int.reduceLE,Int.reduceEq,Nat.reduceBEq,reduceCtorEq,reduceCtorEq,encIt]) (encIts_flat [x])) (by simp only [go_sem,↓reduceIte,Nat.reduceAdd,Nat.reduceSub,Nat.reduceMul,Nat.reduceLT,Nat.reduceLeDiff,Nat.reduceEqDiff,Int.reduceLT,Int.reduceLE,Int.reduceEq,Nat.reduceBEq,reduceCtorEq,reduceCtorEq,o3]) ?_ ?_ ?_
            · simp [hLL];omega
            · simp [hLL];omega
            simp only [go_sem,↓reduceIte,Nat.reduceAdd,Nat.reduceSub,Nat.reduceMul,Nat.reduceLT,Nat.reduceLeDiff,Nat.reduceEqDiff,Int.reduceLT,Int.reduceLE,Int.reduceEq,Nat.reduceBEq,reduceCtorEq,reduceCtorEq,g4,h6,hw,o2]
            exact ⟨4,R - (j + 1),by omega,by omega,j + 1,by omega,rfl,rfl,h5,rfl,g1,g2,g4,o0,o1,_,rfl,by rw [← Nat.add_assoc,hsu,List.map_append];rfl⟩
          · obtain rfl : j = R:=by omega
            have hd : decide ((j : Int) < (j : Int)) = false:=by simp
            simp only [go_sem,↓reduceIte,Nat.reduceAdd,Nat.reduceSub,Nat.reduceMul,Nat.reduceLT,Nat.reduceLeDiff,Nat.reduceEqDiff,Int.reduceLT,Int.reduceLE,Int.reduceEq,Nat.reduceBEq,reduceCtorEq,reduceCtorEq,g1,h6,h5,hn,o0,encMt,encIts,hd,hw]
            exact ⟨4,C - (i + 1),by omega,by omega,i + 1,by omega,rfl,rfl,rfl,g1,g2,g4,o0,o1,v,o2,by rw [Nat.add_mul,Nat.one_mul];exact o3⟩
      · obtain rfl : i = C:=by omega
        have hd : decide ((i : Int) < (i : Int)) = false:=by simp
        simp only [go_sem,↓reduceIte,Nat.reduceAdd,Nat.reduceSub,Nat.reduceMul,Nat.reduceLT,Nat.reduceLeDiff,Nat.reduceEqDiff,Int.reduceLT,Int.reduceLE,Int.reduceEq,Nat.reduceBEq,reduceCtorEq,reduceCtorEq,g1,g2,g4,h5,hn,o0,o1,o2,o3,encMt,encIts,hd]
        refine Or.inl ?_;repeat' (first | exact gives_nil | exact trivial | with_reducible apply gives_sc | with_reducible apply gives_nilS (by decide) | with_reducible apply gives_own | with_reducible apply Exists.intro | with_reducible apply And.intro | (show (_ : Option Ob) = _;simp only [go_sem,↓reduceIte,Nat.reduceAdd,Nat.reduceSub,Nat.reduceMul,Nat.reduceLT,Nat.reduceLeDiff,Nat.reduceEqDiff,Int.reduceLT,Int.reduceLE,Int.reduceEq,Nat.reduceBEq,reduceCtorEq,reduceCtorEq,o3]))
theorem l14Turn_m (R C : Nat) (l : List It) (hD : l.length = R * C) (hR : R≤12) (hC : C≤12) : Meets Try.prog 34 [(true,encMt ⟨R,C,l⟩)] [(true,encMt ⟨C,R,turnL R C l (C * R)⟩,true)]:=by
  refine meets_of Try.func34 rfl (by kernel_rfl) (by simp) Try.ntmps34 (congrArg Array.toList Try.results34) ?_
  simp only [go_sem,↓reduceIte,Nat.reduceAdd,Nat.reduceSub,Nat.reduceMul,Nat.reduceLT,Nat.reduceLeDiff,Nat.reduceEqDiff,Int.reduceLT,Int.reduceLE,Int.reduceEq,Nat.reduceBEq,reduceCtorEq,reduceCtorEq,encMt,encIts]
  refine awp_nilcell (el:=39) (k:=3) (i:=2) (j:=2) (st:=2) (by decide) rfl rfl ?_
  refine awp_loop (fun s m=>∃ i : Nat,i≤C∧m = C - i∧s.sl 4 = .p false [.d (.sc (.int .i64 i))]∧TI 3 R C l (i * R) s) C ?_ ?_
  · exact ⟨0,Nat.zero_le _,rfl,rfl,rfl,rfl,rfl,rfl,rfl,rfl,3,rfl,by rw [Nat.zero_mul];rfl⟩
  · rintro s m ⟨i,hi,rfl,h5,hn,g1,g2,g4,o0,o1,v,o2,o3⟩
    by_cases hlt : i < C
    · have hd : decide ((i : Int) < (C : Int)) = true:=by simpa using hlt
      have hw : IntKind.i64.wrap ((i : Int) + 1) = (i + 1 : Nat):=wrapN (i + 1) (by omega)
      simp only [go_sem,↓reduceIte,Nat.reduceAdd,Nat.reduceSub,Nat.reduceMul,Nat.reduceLT,Nat.reduceLeDiff,Nat.reduceEqDiff,Int.reduceLT,Int.reduceLE,Int.reduceEq,Nat.reduceBEq,reduceCtorEq,reduceCtorEq,g1,h5,hn,o0,encMt,encIts,hd]
      refine awp_loop (fun s m=>∃ j : Nat,j≤R∧m = R - j∧s.sl 5 = .p false [.d (.sc (.int .i64 j))]∧s.sl 4 = .p false [.d (.sc (.int .i64 i))]∧TI 3 R C l (i * R + j) s) R ?_ ?_
      · exact ⟨0,Nat.zero_le _,rfl,rfl,h5,rfl,g1,g2,g4,o0,o1,v,o2,o3⟩
      · clear h5 hn g1 g2 g4 o0 o1 o2 o3
        rintro s m ⟨j,hj,rfl,h6,h5,hn,g1,g2,g4,o0,o1,v,o2,o3⟩
        by_cases hjt : j < R
        · have hd : decide ((j : Int) < (R : Int)) = true:=by simpa using hjt
          have hw : IntKind.i64.wrap ((j : Int) + 1) = (j + 1 : Nat):=wrapN (j + 1) (by omega)
          have hx:=turn_get hlt hjt hD
          have hix:=(turn_ix hlt hjt hD).2.2
          have hb2:=Nat.mul_le_mul hR hC
          have hw1 : IntKind.i64.wrap ((j : Int) * C) = (j * C : Nat):=by rw [← Int.natCast_mul,wrapN _ (by omega)]
          have hw2 : IntKind.i64.wrap (((j * C : Nat) : Int) + i) = (j * C + i : Nat):=by rw [← Int.natCast_add,wrapN _ (by omega)]
          have hbd:=sq_bd hlt hj hR hC
          have hsu:=turnL_succ R C l (i * R + j)
          have hLL:=turnL_len R C l (i * R + j)
          generalize turnAt R C l (i * R + j) = x at *
          generalize hL : turnL R C l (i * R + j) = L at *
          simp only [go_sem,↓reduceIte,Nat.reduceAdd,Nat.reduceSub,Nat.reduceMul,Nat.reduceLT,Nat.reduceLeDiff,Nat.reduceEqDiff,Int.reduceLT,Int.reduceLE,Int.reduceEq,Nat.reduceBEq,reduceCtorEq,reduceCtorEq,g1,h6,h5,hn,o0,encMt,encIts,hd]
          refine awp_drawn (n:=13) false (by kernel_rfl) (by kernel_rfl) ?_
          simp only [go_sem,↓reduceIte,Nat.reduceAdd,Nat.reduceSub,Nat.reduceMul,Nat.reduceLT,Nat.reduceLeDiff,Nat.reduceEqDiff,Int.reduceLT,Int.reduceLE,Int.reduceEq,Nat.reduceBEq,reduceCtorEq,reduceCtorEq,g1,g4,h6,h5,hn,o0,o2,encMt,encIts,hw1,hw2,List.getElem?_map,hx,Option.map_some,encIt]
          refine astep_app (i:=3) (st:=v) (es:=L.map encIt) (news:=[encIt x]) rfl rfl tel_24 tzero_39 rfl tby_39 rfl rfl (src_flat (t:=39) (by simp only [go_sem,↓reduceIte,Nat.reduceAdd,Nat.reduceSub,Nat.reduceMul,Nat.reduceLT,Nat.reduceLeDiff,Nat.reduceEqDiff,Int.reduceLT,Int.reduceLE,Int.reduceEq,Nat.reduceBEq,reduceCtorEq,reduceCtorEq,encIt]) (encIts_flat [x])) (by simp only [go_sem,↓reduceIte,Nat.reduceAdd,Nat.reduceSub,Nat.reduceMul,Nat.reduceLT,Nat.reduceLeDiff,Nat.reduceEqDiff,Int.reduceLT,Int.reduceLE,Int.reduceEq,Nat.reduceBEq,reduceCtorEq,reduceCtorEq,o3]) ?_ ?_ ?_
          · simp [hLL];omega
          · simp [hLL];omega
          simp only [go_sem,↓reduceIte,Nat.reduceAdd,Nat.reduceSub,Nat.reduceMul,Nat.reduceLT,Nat.reduceLeDiff,Nat.reduceEqDiff,Int.reduceLT,Int.reduceLE,Int.reduceEq,Nat.reduceBEq,reduceCtorEq,reduceCtorEq,g4,h6,hw,o2]
          exact ⟨4,R - (j + 1),by omega,by omega,j + 1,by omega,rfl,rfl,h5,rfl,g1,g2,g4,o0,o1,_,rfl,by rw [← Nat.add_assoc,hsu,List.map_append];rfl⟩
        · obtain rfl : j = R:=by omega
          have hd : decide ((j : Int) < (j : Int)) = false:=by simp
          simp only [go_sem,↓reduceIte,Nat.reduceAdd,Nat.reduceSub,Nat.reduceMul,Nat.reduceLT,Nat.reduceLeDiff,Nat.reduceEqDiff,Int.reduceLT,Int.reduceLE,Int.reduceEq,Nat.reduceBEq,reduceCtorEq,reduceCtorEq,g1,h6,h5,hn,o0,encMt,encIts,hd,hw]
          exact ⟨4,C - (i + 1),by omega,by omega,i + 1,by omega,rfl,rfl,rfl,g1,g2,g4,o0,o1,v,o2,by rw [Nat.add_mul,Nat.one_mul];exact o3⟩
    · obtain rfl : i = C:=by omega
      have hd : decide ((i : Int) < (i : Int)) = false:=by simp
      simp only [go_sem,↓reduceIte,Nat.reduceAdd,Nat.reduceSub,Nat.reduceMul,Nat.reduceLT,Nat.reduceLeDiff,Nat.reduceEqDiff,Int.reduceLT,Int.reduceLE,Int.reduceEq,Nat.reduceBEq,reduceCtorEq,reduceCtorEq,g1,g2,g4,h5,hn,o0,o1,o2,o3,encMt,encIts,hd]
      refine Or.inl ?_;repeat' (first | exact gives_nil | exact trivial | with_reducible apply gives_sc | with_reducible apply gives_nilS (by decide) | with_reducible apply gives_own | with_reducible apply Exists.intro | with_reducible apply And.intro | (show (_ : Option Ob) = _;simp only [go_sem,↓reduceIte,Nat.reduceAdd,Nat.reduceSub,Nat.reduceMul,Nat.reduceLT,Nat.reduceLeDiff,Nat.reduceEqDiff,Int.reduceLT,Int.reduceLE,Int.reduceEq,Nat.reduceBEq,reduceCtorEq,reduceCtorEq,o3]))
end Go.Proofs.Ytpilbhbbdldpeaa

namespace Go.Proofs.Ytpilbhbbdldpeaa
open Go.RowKit
set_option maxRecDepth 100000
theorem l14Known_m (r c : Int) (l : List It) (hl : l.length≤1000000) : Meets Try.prog 32 [(true,encMt ⟨r,c,l⟩)] [(false,[.sc (.bool (allN l))],true)]:=by
  refine meets_of Try.func32 rfl (by kernel_rfl) (by simp) Try.ntmps32 (congrArg Array.toList Try.results32) ?_
  simp only [go_sem,↓reduceIte,Nat.reduceAdd,Nat.reduceSub,Nat.reduceMul,Nat.reduceLT,Nat.reduceLeDiff,Nat.reduceEqDiff,Int.reduceLT,Int.reduceLE,Int.reduceEq,Nat.reduceBEq,reduceCtorEq,reduceCtorEq,encMt,encIts]
  refine awp_loop (fun s m=>∃ k : Nat,k≤l.length∧m = l.length - k∧allN (l.take k) = true∧s.n = 1∧s.sl 1 = .p false [.ptr 0 0 0]∧s.ob 0 = .var 0 26 ((encMt ⟨r,c,l⟩).map .d)∧s.sl 3 = .p false [.d (.sc (.int .i64 k))]) l.length ?_ ?_
  · exact ⟨0,Nat.zero_le _,rfl,rfl,rfl,rfl,rfl,rfl⟩
  · rintro s m ⟨k,hk,rfl,ha,hn,g1,o0,h3⟩
    by_cases hlt : k < l.length
    · have hx:=List.getElem?_eq_getElem hlt
      generalize l[k] = x at hx
      have hd : decide ((k : Int) < (l.length : Int)) = true:=by simpa using hlt
      have hw : IntKind.i64.wrap ((k : Int) + 1) = (k + 1 : Nat):=wrapN (k + 1) (by omega)
      simp only [go_sem,↓reduceIte,Nat.reduceAdd,Nat.reduceSub,Nat.reduceMul,Nat.reduceLT,Nat.reduceLeDiff,Nat.reduceEqDiff,Int.reduceLT,Int.reduceLE,Int.reduceEq,Nat.reduceBEq,reduceCtorEq,reduceCtorEq,g1,o0,h3,hn,encMt,encIts,List.length_map,hd,List.getElem?_map,hx,Option.map_some,encIt]
      refine astep_call rfl (mSpecIsNum x) rfl rfl (by simp only [go_sem,↓reduceIte,Nat.reduceAdd,Nat.reduceSub,Nat.reduceMul,Nat.reduceLT,Nat.reduceLeDiff,Nat.reduceEqDiff,Int.reduceLT,Int.reduceLE,Int.reduceEq,Nat.reduceBEq,reduceCtorEq,reduceCtorEq,encIt]) ?_
      cases hb : numB x
      · simp only [go_sem,↓reduceIte,Nat.reduceAdd,Nat.reduceSub,Nat.reduceMul,Nat.reduceLT,Nat.reduceLeDiff,Nat.reduceEqDiff,Int.reduceLT,Int.reduceLE,Int.reduceEq,Nat.reduceBEq,reduceCtorEq,reduceCtorEq,hb,allN_get hx hb]
        refine Or.inl ?_;repeat' (first | exact gives_nil | exact trivial | with_reducible apply gives_sc | with_reducible apply gives_nilS (by decide) | with_reducible apply gives_own | with_reducible apply Exists.intro | with_reducible apply And.intro | (show (_ : Option Ob) = _;simp only [go_sem,↓reduceIte,Nat.reduceAdd,Nat.reduceSub,Nat.reduceMul,Nat.reduceLT,Nat.reduceLeDiff,Nat.reduceEqDiff,Int.reduceLT,Int.reduceLE,Int.reduceEq,Nat.reduceBEq,reduceCtorEq,reduceCtorEq,true_and]))
      · simp only [go_sem,↓reduceIte,Nat.reduceAdd,Nat.reduceSub,Nat.reduceMul,Nat.reduceLT,Nat.reduceLeDiff,Nat.reduceEqDiff,Int.reduceLT,Int.reduceLE,Int.reduceEq,Nat.reduceBEq,reduceCtorEq,reduceCtorEq,hb,h3,hn,hw]
        exact ⟨1,l.length - (k + 1),by omega,by omega,k + 1,by omega,rfl,by rw [allN_succ hx,ha,hb];rfl,rfl,g1,o0,rfl⟩
    · have hd : decide ((k : Int) < (l.length : Int)) = false:=by simpa using hlt
      rw [List.take_of_length_le (by omega)] at ha
      simp only [go_sem,↓reduceIte,Nat.reduceAdd,Nat.reduceSub,Nat.reduceMul,Nat.reduceLT,Nat.reduceLeDiff,Nat.reduceEqDiff,Int.reduceLT,Int.reduceLE,Int.reduceEq,Nat.reduceBEq,reduceCtorEq,reduceCtorEq,g1,o0,h3,hn,encMt,encIts,List.length_map,hd,ha]
      refine Or.inl ?_;repeat' (first | exact gives_nil | exact trivial | with_reducible apply gives_sc | with_reducible apply gives_nilS (by decide) | with_reducible apply gives_own | with_reducible apply Exists.intro | with_reducible apply And.intro | (show (_ : Option Ob) = _;simp only [go_sem,↓reduceIte,Nat.reduceAdd,Nat.reduceSub,Nat.reduceMul,Nat.reduceLT,Nat.reduceLeDiff,Nat.reduceEqDiff,Int.reduceLT,Int.reduceLE,Int.reduceEq,Nat.reduceBEq,reduceCtorEq,reduceCtorEq,true_and]))
theorem specIsMt_m (m : Mt) : Meets Try.prog 31 [(true,encMt m)] [(false,[.sc (.bool (mtB m))],true)]:=by
  obtain ⟨r,c,l⟩:=m
  refine meets_of Try.func31 rfl (by kernel_rfl) (by simp) Try.ntmps31 (congrArg Array.toList Try.results31) ?_
  simp only [go_sem,↓reduceIte,Nat.reduceAdd,Nat.reduceSub,Nat.reduceMul,Nat.reduceLT,Nat.reduceLeDiff,Nat.reduceEqDiff,Int.reduceLT,Int.reduceLE,Int.reduceEq,Nat.reduceBEq,reduceCtorEq,reduceCtorEq,encMt,encIts]
  refine astep_call rfl (mIn r 0 12) rfl rfl (by simp only [go_sem,↓reduceIte,Nat.reduceAdd,Nat.reduceSub,Nat.reduceMul,Nat.reduceLT,Nat.reduceLeDiff,Nat.reduceEqDiff,Int.reduceLT,Int.reduceLE,Int.reduceEq,Nat.reduceBEq,reduceCtorEq,reduceCtorEq,true_and]) ?_
  by_cases c1 : 0≤r∧r≤12
  · have d1:=decide_eq_true c1
    simp only [go_sem,↓reduceIte,Nat.reduceAdd,Nat.reduceSub,Nat.reduceMul,Nat.reduceLT,Nat.reduceLeDiff,Nat.reduceEqDiff,Int.reduceLT,Int.reduceLE,Int.reduceEq,Nat.reduceBEq,reduceCtorEq,reduceCtorEq,d1]
    refine astep_call rfl (mIn c 0 12) rfl rfl (by simp only [go_sem,↓reduceIte,Nat.reduceAdd,Nat.reduceSub,Nat.reduceMul,Nat.reduceLT,Nat.reduceLeDiff,Nat.reduceEqDiff,Int.reduceLT,Int.reduceLE,Int.reduceEq,Nat.reduceBEq,reduceCtorEq,reduceCtorEq,true_and]) ?_
    by_cases c2 : 0≤c∧c≤12
    · have d2:=decide_eq_true c2
      have hm:=mul12 (a:=r) (b:=c) (by omega) (by omega)
      have hw:=wrapI (r * c) (by omega)
      by_cases c5 : (l.length : Int) = r * c
      · have hb : mtB ⟨r,c,l⟩ = allN l:=mtB_true (m:=⟨r,c,l⟩) ⟨by simp;omega,by simp;omega,by simp;omega,by simp;omega,c5⟩
        simp only [go_sem,↓reduceIte,Nat.reduceAdd,Nat.reduceSub,Nat.reduceMul,Nat.reduceLT,Nat.reduceLeDiff,Nat.reduceEqDiff,Int.reduceLT,Int.reduceLE,Int.reduceEq,Nat.reduceBEq,reduceCtorEq,reduceCtorEq,d2,List.length_map,hw,decide_eq_true c5]
        refine astep_call rfl (l14Known_m r c l (by omega)) rfl rfl (by simp only [go_sem,↓reduceIte,Nat.reduceAdd,Nat.reduceSub,Nat.reduceMul,Nat.reduceLT,Nat.reduceLeDiff,Nat.reduceEqDiff,Int.reduceLT,Int.reduceLE,Int.reduceEq,Nat.reduceBEq,reduceCtorEq,reduceCtorEq,encMt,encIts]) ?_
        simp only [go_sem,↓reduceIte,Nat.reduceAdd,Nat.reduceSub,Nat.reduceMul,Nat.reduceLT,Nat.reduceLeDiff,Nat.reduceEqDiff,Int.reduceLT,Int.reduceLE,Int.reduceEq,Nat.reduceBEq,reduceCtorEq,reduceCtorEq,hb]
        refine Or.inl ?_;repeat' (first | exact gives_nil | exact trivial | with_reducible apply gives_sc | with_reducible apply gives_nilS (by decide) | with_reducible apply gives_own | with_reducible apply Exists.intro | with_reducible apply And.intro | (show (_ : Option Ob) = _;simp only [go_sem,↓reduceIte,Nat.reduceAdd,Nat.reduceSub,Nat.reduceMul,Nat.reduceLT,Nat.reduceLeDiff,Nat.reduceEqDiff,Int.reduceLT,Int.reduceLE,Int.reduceEq,Nat.reduceBEq,reduceCtorEq,reduceCtorEq,true_and]))
      · have hb : mtB ⟨r,c,l⟩ = false:=mtB_false (by simp;omega)
        simp only [go_sem,↓reduceIte,Nat.reduceAdd,Nat.reduceSub,Nat.reduceMul,Nat.reduceLT,Nat.reduceLeDiff,Nat.reduceEqDiff,Int.reduceLT,Int.reduceLE,Int.reduceEq,Nat.reduceBEq,reduceCtorEq,reduceCtorEq,d2,List.length_map,hw,decide_eq_false c5,hb]
        refine Or.inl ?_;repeat' (first | exact gives_nil | exact trivial | with_reducible apply gives_sc | with_reducible apply gives_nilS (by decide) | with_reducible apply gives_own | with_reducible apply Exists.intro | with_reducible apply And.intro | (show (_ : Option Ob) = _;simp only [go_sem,↓reduceIte,Nat.reduceAdd,Nat.reduceSub,Nat.reduceMul,Nat.reduceLT,Nat.reduceLeDiff,Nat.reduceEqDiff,Int.reduceLT,Int.reduceLE,Int.reduceEq,Nat.reduceBEq,reduceCtorEq,reduceCtorEq,true_and]))
    · have hb : mtB ⟨r,c,l⟩ = false:=mtB_false (by simp;omega)
      simp only [go_sem,↓reduceIte,Nat.reduceAdd,Nat.reduceSub,Nat.reduceMul,Nat.reduceLT,Nat.reduceLeDiff,Nat.reduceEqDiff,Int.reduceLT,Int.reduceLE,Int.reduceEq,Nat.reduceBEq,reduceCtorEq,reduceCtorEq,decide_eq_false c2,hb]
      refine Or.inl ?_;repeat' (first | exact gives_nil | exact trivial | with_reducible apply gives_sc | with_reducible apply gives_nilS (by decide) | with_reducible apply gives_own | with_reducible apply Exists.intro | with_reducible apply And.intro | (show (_ : Option Ob) = _;simp only [go_sem,↓reduceIte,Nat.reduceAdd,Nat.reduceSub,Nat.reduceMul,Nat.reduceLT,Nat.reduceLeDiff,Nat.reduceEqDiff,Int.reduceLT,Int.reduceLE,Int.reduceEq,Nat.reduceBEq,reduceCtorEq,reduceCtorEq,true_and]))
  · have hb : mtB ⟨r,c,l⟩ = false:=mtB_false (by simp;omega)
    simp only [go_sem,↓reduceIte,Nat.reduceAdd,Nat.reduceSub,Nat.reduceMul,Nat.reduceLT,Nat.reduceLeDiff,Nat.reduceEqDiff,Int.reduceLT,Int.reduceLE,Int.reduceEq,Nat.reduceBEq,reduceCtorEq,reduceCtorEq,decide_eq_false c1,hb]
    refine Or.inl ?_;repeat' (first | exact gives_nil | exact trivial | with_reducible apply gives_sc | with_reducible apply gives_nilS (by decide) | with_reducible apply gives_own | with_reducible apply Exists.intro | with_reducible apply And.intro | (show (_ : Option Ob) = _;simp only [go_sem,↓reduceIte,Nat.reduceAdd,Nat.reduceSub,Nat.reduceMul,Nat.reduceLT,Nat.reduceLeDiff,Nat.reduceEqDiff,Int.reduceLT,Int.reduceLE,Int.reduceEq,Nat.reduceBEq,reduceCtorEq,reduceCtorEq,true_and]))
theorem specTurn_m (m : Mt) : Meets Try.prog 10 [(true,encMt m)] [(true,encMt (turnM m),true),(false,[.sc (.bool (mtB m))],true)]:=by
  obtain ⟨r,c,l⟩:=m
  refine meets_of Try.func10 rfl (by kernel_rfl) (by simp) Try.ntmps10 (congrArg Array.toList Try.results10) ?_
  simp only [go_sem,↓reduceIte,Nat.reduceAdd,Nat.reduceSub,Nat.reduceMul,Nat.reduceLT,Nat.reduceLeDiff,Nat.reduceEqDiff,Int.reduceLT,Int.reduceLE,Int.reduceEq,Nat.reduceBEq,reduceCtorEq,reduceCtorEq,encMt,encIts]
  refine astep_call rfl (specIsMt_m ⟨r,c,l⟩) rfl rfl (by simp only [go_sem,↓reduceIte,Nat.reduceAdd,Nat.reduceSub,Nat.reduceMul,Nat.reduceLT,Nat.reduceLeDiff,Nat.reduceEqDiff,Int.reduceLT,Int.reduceLE,Int.reduceEq,Nat.reduceBEq,reduceCtorEq,reduceCtorEq,encMt,encIts]) ?_
  cases hb : mtB ⟨r,c,l⟩
  · have ht : turnM ⟨r,c,l⟩ = ⟨0,0,[]⟩:=by unfold turnM;rw [if_neg (by simp [hb])]
    simp only [go_sem,↓reduceIte,Nat.reduceAdd,Nat.reduceSub,Nat.reduceMul,Nat.reduceLT,Nat.reduceLeDiff,Nat.reduceEqDiff,Int.reduceLT,Int.reduceLE,Int.reduceEq,Nat.reduceBEq,reduceCtorEq,reduceCtorEq,hb,ht,encMt,encIts]
    refine Or.inl ?_;repeat' (first | exact gives_nil | exact trivial | with_reducible apply gives_sc | with_reducible apply gives_nilS (by decide) | with_reducible apply gives_own | with_reducible apply Exists.intro | with_reducible apply And.intro | (show (_ : Option Ob) = _;simp only [go_sem,↓reduceIte,Nat.reduceAdd,Nat.reduceSub,Nat.reduceMul,Nat.reduceLT,Nat.reduceLeDiff,Nat.reduceEqDiff,Int.reduceLT,Int.reduceLE,Int.reduceEq,Nat.reduceBEq,reduceCtorEq,reduceCtorEq,true_and]))
  · obtain ⟨h1,h2,h3,h4,hq5⟩:=mtB_dims hb
    simp only at h1 h2 h3 h4 hq5
    obtain ⟨R,rfl⟩:=Int.eq_ofNat_of_zero_le h1
    obtain ⟨C,rfl⟩:=Int.eq_ofNat_of_zero_le h3
    have ht : turnM ⟨R,C,l⟩ = ⟨C,R,turnL R C l (C * R)⟩:=by unfold turnM;rw [if_pos hb];simp
    simp only [go_sem,↓reduceIte,Nat.reduceAdd,Nat.reduceSub,Nat.reduceMul,Nat.reduceLT,Nat.reduceLeDiff,Nat.reduceEqDiff,Int.reduceLT,Int.reduceLE,Int.reduceEq,Nat.reduceBEq,reduceCtorEq,reduceCtorEq,hb,ht,encMt,encIts]
    refine astep_call rfl (l14Turn_m R C l (by exact_mod_cast hq5) (by omega) (by omega)) rfl rfl (by simp only [go_sem,↓reduceIte,Nat.reduceAdd,Nat.reduceSub,Nat.reduceMul,Nat.reduceLT,Nat.reduceLeDiff,Nat.reduceEqDiff,Int.reduceLT,Int.reduceLE,Int.reduceEq,Nat.reduceBEq,reduceCtorEq,reduceCtorEq,encMt,encIts]) ?_
    simp only [go_sem,↓reduceIte,Nat.reduceAdd,Nat.reduceSub,Nat.reduceMul,Nat.reduceLT,Nat.reduceLeDiff,Nat.reduceEqDiff,Int.reduceLT,Int.reduceLE,Int.reduceEq,Nat.reduceBEq,reduceCtorEq,reduceCtorEq,encMt,encIts]
    refine Or.inl ?_;repeat' (first | exact gives_nil | exact trivial | with_reducible apply gives_sc | with_reducible apply gives_nilS (by decide) | with_reducible apply gives_own | with_reducible apply Exists.intro | with_reducible apply And.intro | (show (_ : Option Ob) = _;simp only [go_sem,↓reduceIte,Nat.reduceAdd,Nat.reduceSub,Nat.reduceMul,Nat.reduceLT,Nat.reduceLeDiff,Nat.reduceEqDiff,Int.reduceLT,Int.reduceLE,Int.reduceEq,Nat.reduceBEq,reduceCtorEq,reduceCtorEq,true_and]))
end Go.Proofs.Ytpilbhbbdldpeaa

namespace Go.Proofs.Ytpilbhbbdldpeaa
open Go.RowKit
set_option maxRecDepth 100000
def gridL {α : Type} (W : Nat) (f : Nat→Nat→α) (n : Nat) : List α:=(List.range n).map fun t=>f (t / W) (t % W)
theorem gridL_len {α : Type} (W : Nat) (f : Nat→Nat→α) (n : Nat) : (gridL W f n).length = n:=by simp [gridL]
theorem grid_ix {W i k : Nat} (hk : k < W) : (i * W + k) / W = i∧(i * W + k) % W = k:=by
  constructor
  · rw [Nat.add_comm,Nat.add_mul_div_right _ _ (by omega),Nat.div_eq_of_lt hk];omega
  · rw [Nat.add_comm,Nat.add_mul_mod_self_right,Nat.mod_eq_of_lt hk]
theorem gridL_succ {α : Type} {W i k : Nat} (f : Nat→Nat→α) (hk : k < W) : gridL W f (i * W + k + 1) = gridL W f (i * W + k) ++ [f i k]:=by
  obtain ⟨h1,h2⟩:=grid_ix (i:=i) hk
  simp [gridL,List.range_succ,h1,h2]
theorem gridL_get {α : Type} {W i k n : Nat} (f : Nat→Nat→α) (hk : k < W) (hn : i * W + k < n) : (gridL W f n)[i * W + k]? = some (f i k):=by
  obtain ⟨h1,h2⟩:=grid_ix (i:=i) hk
  simp [gridL,hn,h1,h2]
theorem grid_lt {R W i k : Nat} (hi : i < R) (hk : k < W) : i * W + k < R * W:=by
  have : (i + 1) * W≤R * W:=Nat.mul_le_mul_right _ hi
  rw [Nat.add_mul] at this;omega
def GI (q : Nat) (r c : Int) (l : List It) (s : AS) : Prop :=
  s.n = 3∧s.sl 4 = .p false [.ptr 0 0 0]∧s.sl q = .p false [.ptr 1 1 0]∧s.ob 0 = .var 0 26 [.d (.sc (.int .i64 0)),.d (.sc (.int .i64 0)),.nil] ∧
  ∃ v,s.ob 1 = .var 1 26 [.d (.sc (.int .i64 r)),.d (.sc (.int .i64 c)),.own 2 v]∧s.ob 2 = .row v 39 3 (l.map encIt) true
end Go.Proofs.Ytpilbhbbdldpeaa

namespace Go.Proofs.Ytpilbhbbdldpeaa
open Go.RowKit
set_option maxRecDepth 100000
theorem l14Zero_m (R C : Nat) (hR : R≤24) (hC : C≤24) : Meets Try.prog 39 [(false,[.sc (.int .i64 R)]),(false,[.sc (.int .i64 C)])] [(true,encMt ⟨R,C,List.replicate (R * C) (l2N 0)⟩,true)]:=by
  have hb2 : R * C≤24 * 24:=Nat.mul_le_mul hR hC
  have hwm : IntKind.i64.wrap ((R : Int) * (C : Int)) = (R * C : Nat):=by rw [show (R : Int) * (C : Int) = (R * C : Nat) by push_cast;rfl];exact wrapN _ (by omega)
  generalize hN : R * C = M at *
  generalize hx : l2N 0 = x
  refine meets_of Try.func39 rfl (by kernel_rfl) (by simp) Try.ntmps39 (congrArg Array.toList Try.results39) ?_
  simp only [go_sem,↓reduceIte,Nat.reduceAdd,Nat.reduceSub,Nat.reduceMul,Nat.reduceLT,Nat.reduceLeDiff,Nat.reduceEqDiff,Int.reduceLT,Int.reduceLE,Int.reduceEq,Nat.reduceBEq,reduceCtorEq,reduceCtorEq,true_and]
  refine awp_nilcell (el:=39) (k:=3) (i:=1) (j:=2) (st:=1) (by decide) rfl rfl ?_
  refine awp_loop (fun s m=>∃ k : Nat,k≤M∧m = M - k∧s.sl 0 = .p false [.d (.sc (.int .i64 R))]∧s.sl 1 = .p false [.d (.sc (.int .i64 C))]∧s.sl 6 = .p false [.d (.sc (.int .i64 k))]∧GI 5 R C (List.replicate k x) s) M ?_ ?_
  · exact ⟨0,Nat.zero_le _,rfl,rfl,rfl,rfl,rfl,rfl,rfl,rfl,2,rfl,rfl⟩
  · rintro s m ⟨k,hk,rfl,g0,g1,g6,hn,g4,g5,o0,v,o1,o2⟩
    by_cases hlt : k < M
    · have hd : decide ((k : Int) < (M : Int)) = true:=decide_eq_true (by omega)
      have hw : IntKind.i64.wrap ((k : Int) + 1) = (k + 1 : Nat):=wrapN (k + 1) (by omega)
      simp only [go_sem,↓reduceIte,Nat.reduceAdd,Nat.reduceSub,Nat.reduceMul,Nat.reduceLT,Nat.reduceLeDiff,Nat.reduceEqDiff,Int.reduceLT,Int.reduceLE,Int.reduceEq,Nat.reduceBEq,reduceCtorEq,reduceCtorEq,g0,g1,g6,hn,hd,hwm]
      refine awp_drawn (n:=4) false (by kernel_rfl) (by kernel_rfl) ?_
      simp only [go_sem,↓reduceIte,Nat.reduceAdd,Nat.reduceSub,Nat.reduceMul,Nat.reduceLT,Nat.reduceLeDiff,Nat.reduceEqDiff,Int.reduceLT,Int.reduceLE,Int.reduceEq,Nat.reduceBEq,reduceCtorEq,reduceCtorEq,g5,hn,o1]
      refine hcall rfl (mL2Num 0) rfl (by simp only [go_sem,↓reduceIte,Nat.reduceAdd,Nat.reduceSub,Nat.reduceMul,Nat.reduceLT,Nat.reduceLeDiff,Nat.reduceEqDiff,Int.reduceLT,Int.reduceLE,Int.reduceEq,Nat.reduceBEq,reduceCtorEq,reduceCtorEq,true_and]) (by simp) ?_
      rw [hx]
      simp only [go_sem,↓reduceIte,Nat.reduceAdd,Nat.reduceSub,Nat.reduceMul,Nat.reduceLT,Nat.reduceLeDiff,Nat.reduceEqDiff,Int.reduceLT,Int.reduceLE,Int.reduceEq,Nat.reduceBEq,reduceCtorEq,reduceCtorEq,encIt,hn]
      refine astep_app (i:=2) (st:=v) (es:=(List.replicate k x).map encIt) (news:=[encIt x]) rfl rfl tel_24 tzero_39 rfl tby_39 rfl rfl (src_flat (t:=39) (by simp only [go_sem,↓reduceIte,Nat.reduceAdd,Nat.reduceSub,Nat.reduceMul,Nat.reduceLT,Nat.reduceLeDiff,Nat.reduceEqDiff,Int.reduceLT,Int.reduceLE,Int.reduceEq,Nat.reduceBEq,reduceCtorEq,reduceCtorEq,encIt]) (encIts_flat [x])) (by simp only [go_sem,↓reduceIte,Nat.reduceAdd,Nat.reduceSub,Nat.reduceMul,Nat.reduceLT,Nat.reduceLeDiff,Nat.reduceEqDiff,Int.reduceLT,Int.reduceLE,Int.reduceEq,Nat.reduceBEq,reduceCtorEq,reduceCtorEq,o2]) ?_ ?_ ?_
      · simp;omega
      · simp;omega
      simp only [go_sem,↓reduceIte,Nat.reduceAdd,Nat.reduceSub,Nat.reduceMul,Nat.reduceLT,Nat.reduceLeDiff,Nat.reduceEqDiff,Int.reduceLT,Int.reduceLE,Int.reduceEq,Nat.reduceBEq,reduceCtorEq,reduceCtorEq,g5,g6,hw,o1]
      exact ⟨3,M - (k + 1),by omega,by omega,k + 1,by omega,rfl,g0,g1,rfl,rfl,g4,g5,o0,_,rfl,by rw [List.replicate_succ',List.map_append];rfl⟩
    · obtain rfl : k = M:=by omega
      have hd : decide ((k : Int) < (k : Int)) = false:=by simp
      simp only [go_sem,↓reduceIte,Nat.reduceAdd,Nat.reduceSub,Nat.reduceMul,Nat.reduceLT,Nat.reduceLeDiff,Nat.reduceEqDiff,Int.reduceLT,Int.reduceLE,Int.reduceEq,Nat.reduceBEq,reduceCtorEq,reduceCtorEq,g0,g1,g5,g4,g6,hn,hd,hwm,o0,o1,o2,encMt,encIts]
      refine Or.inl ?_;repeat' (first | exact gives_nil | exact trivial | with_reducible apply gives_sc | with_reducible apply gives_nilS (by decide) | with_reducible apply gives_own | with_reducible apply Exists.intro | with_reducible apply And.intro | (show (_ : Option Ob) = _;simp only [go_sem,↓reduceIte,Nat.reduceAdd,Nat.reduceSub,Nat.reduceMul,Nat.reduceLT,Nat.reduceLeDiff,Nat.reduceEqDiff,Int.reduceLT,Int.reduceLE,Int.reduceEq,Nat.reduceBEq,reduceCtorEq,reduceCtorEq,o2]))
end Go.Proofs.Ytpilbhbbdldpeaa

namespace Go.Proofs.Ytpilbhbbdldpeaa
open Go.RowKit
set_option maxRecDepth 100000
def cel (C : Nat) (l : List It) (i j : Nat) : It:=(l[i * C + j]?).getD it0
theorem cel_get {R C : Nat} {l : List It} {i j : Nat} (hl : l.length = R * C) (hi : i < R) (hj : j < C) : l[i * C + j]? = some (cel C l i j):=by
  have:=grid_lt hi hj
  unfold cel
  rw [List.getElem?_eq_getElem (by omega)];rfl
def mulS (C K : Nat) (la lb : List It) (i k : Nat) : Nat→It
  | 0=>l2N 0
  | n + 1=>addN (mulS C K la lb i k n) (mulN (cel C la i n) (cel K lb n k))
def mulL (a b : Mt) (n : Nat) : List It:=gridL b.cols.toNat (fun i k=>mulS a.cols.toNat b.cols.toNat a.cells b.cells i k a.cols.toNat) n
def mulB (a b : Mt) : Bool:=mtB a && mtB b && decide (a.cols = b.rows) && allN (mulL a b (a.rows.toNat * b.cols.toNat))
def mulM (a b : Mt) : Mt:=if mulB a b = true then ⟨a.rows,b.cols,mulL a b (a.rows.toNat * b.cols.toNat)⟩ else ⟨0,0,[]⟩
theorem mulM_false {a b : Mt} (h : mulB a b = false) : mulM a b = ⟨0,0,[]⟩:=by unfold mulM;rw [if_neg (by simp [h])]
theorem mulM_true {a b : Mt} (h : mulB a b = true) : mulM a b = ⟨a.rows,b.cols,mulL a b (a.rows.toNat * b.cols.toNat)⟩:=by unfold mulM;rw [if_pos h]
def MI (a b : Mt) (l : List It) (s : AS) : Prop :=
  s.sl 2 = .p false [.ptr 0 0 0]∧s.sl 3 = .p false [.ptr 1 1 0]∧s.sl 4 = .p false [.ptr 2 2 0]∧s.sl 6 = .p false [.ptr 3 3 0] ∧
  s.ob 0 = .var 0 26 ((encMt a).map .d)∧s.ob 1 = .var 1 26 ((encMt b).map .d)∧s.ob 2 = .var 2 26 [.d (.sc (.int .i64 0)),.d (.sc (.int .i64 0)),.nil] ∧
  ∃ v,s.ob 3 = .var 3 26 [.d (.sc (.int .i64 a.rows)),.d (.sc (.int .i64 b.cols)),.own 4 v]∧s.ob 4 = .row v 39 3 (l.map encIt) true
set_option maxHeartbeats 4000000 in
theorem implMul_m (a b : Mt) : Meets Try.prog 26 [(true,encMt a),(true,encMt b)] [(true,encMt (mulM a b),true),(false,[.sc (.bool (mulB a b))],true)]:=by
  obtain ⟨r,c,la⟩:=a
  obtain ⟨r2,c2,lb⟩:=b
  refine meets_of Try.func26 rfl (by kernel_rfl) (by simp) Try.ntmps26 (congrArg Array.toList Try.results26) ?_
  simp only [go_sem,↓reduceIte,Nat.reduceAdd,Nat.reduceSub,Nat.reduceMul,Nat.reduceLT,Nat.reduceLeDiff,Nat.reduceEqDiff,Int.reduceLT,Int.reduceLE,Int.reduceEq,Nat.reduceBEq,reduceCtorEq,reduceCtorEq,encMt,encIts]
  refine astep_call rfl (isMt_m ⟨r,c,la⟩) rfl rfl (by simp only [go_sem,↓reduceIte,Nat.reduceAdd,Nat.reduceSub,Nat.reduceMul,Nat.reduceLT,Nat.reduceLeDiff,Nat.reduceEqDiff,Int.reduceLT,Int.reduceLE,Int.reduceEq,Nat.reduceBEq,reduceCtorEq,reduceCtorEq,encMt,encIts]) ?_
  cases hb1 : mtB ⟨r,c,la⟩
  · have hb : mulB ⟨r,c,la⟩ ⟨r2,c2,lb⟩ = false:=by unfold mulB;rw [hb1];rfl
    simp only [go_sem,↓reduceIte,Nat.reduceAdd,Nat.reduceSub,Nat.reduceMul,Nat.reduceLT,Nat.reduceLeDiff,Nat.reduceEqDiff,Int.reduceLT,Int.reduceLE,Int.reduceEq,Nat.reduceBEq,reduceCtorEq,reduceCtorEq,hb,mulM_false hb,encMt,encIts]
    refine Or.inl ?_;repeat' (first | exact gives_nil | exact trivial | with_reducible apply gives_sc | with_reducible apply gives_nilS (by decide) | with_reducible apply gives_own | with_reducible apply Exists.intro | with_reducible apply And.intro | (show (_ : Option Ob) = _;simp only [go_sem,↓reduceIte,Nat.reduceAdd,Nat.reduceSub,Nat.reduceMul,Nat.reduceLT,Nat.reduceLeDiff,Nat.reduceEqDiff,Int.reduceLT,Int.reduceLE,Int.reduceEq,Nat.reduceBEq,reduceCtorEq,reduceCtorEq,true_and]))
  simp only [go_sem,↓reduceIte,Nat.reduceAdd,Nat.reduceSub,Nat.reduceMul,Nat.reduceLT,Nat.reduceLeDiff,Nat.reduceEqDiff,Int.reduceLT,Int.reduceLE,Int.reduceEq,Nat.reduceBEq,reduceCtorEq,reduceCtorEq,encMt,encIts]
  refine astep_call rfl (isMt_m ⟨r2,c2,lb⟩) rfl rfl (by simp only [go_sem,↓reduceIte,Nat.reduceAdd,Nat.reduceSub,Nat.reduceMul,Nat.reduceLT,Nat.reduceLeDiff,Nat.reduceEqDiff,Int.reduceLT,Int.reduceLE,Int.reduceEq,Nat.reduceBEq,reduceCtorEq,reduceCtorEq,encMt,encIts]) ?_
  cases hb2 : mtB ⟨r2,c2,lb⟩
  · have hb : mulB ⟨r,c,la⟩ ⟨r2,c2,lb⟩ = false:=by unfold mulB;rw [hb2,Bool.and_false];rfl
    simp only [go_sem,↓reduceIte,Nat.reduceAdd,Nat.reduceSub,Nat.reduceMul,Nat.reduceLT,Nat.reduceLeDiff,Nat.reduceEqDiff,Int.reduceLT,Int.reduceLE,Int.reduceEq,Nat.reduceBEq,reduceCtorEq,reduceCtorEq,hb,mulM_false hb,encMt,encIts]
    refine Or.inl ?_;repeat' (first | exact gives_nil | exact trivial | with_reducible apply gives_sc | with_reducible apply gives_nilS (by decide) | with_reducible apply gives_own | with_reducible apply Exists.intro | with_reducible apply And.intro | (show (_ : Option Ob) = _;simp only [go_sem,↓reduceIte,Nat.reduceAdd,Nat.reduceSub,Nat.reduceMul,Nat.reduceLT,Nat.reduceLeDiff,Nat.reduceEqDiff,Int.reduceLT,Int.reduceLE,Int.reduceEq,Nat.reduceBEq,reduceCtorEq,reduceCtorEq,true_and]))
  by_cases hcr : c = r2
  rotate_left
  · have hb : mulB ⟨r,c,la⟩ ⟨r2,c2,lb⟩ = false:=by unfold mulB;rw [decide_eq_false hcr,Bool.and_false];rfl
    simp only [go_sem,↓reduceIte,Nat.reduceAdd,Nat.reduceSub,Nat.reduceMul,Nat.reduceLT,Nat.reduceLeDiff,Nat.reduceEqDiff,Int.reduceLT,Int.reduceLE,Int.reduceEq,Nat.reduceBEq,reduceCtorEq,reduceCtorEq,hb,mulM_false hb,encMt,encIts,decide_eq_false hcr]
    refine Or.inl ?_;repeat' (first | exact gives_nil | exact trivial | with_reducible apply gives_sc | with_reducible apply gives_nilS (by decide) | with_reducible apply gives_own | with_reducible apply Exists.intro | with_reducible apply And.intro | (show (_ : Option Ob) = _;simp only [go_sem,↓reduceIte,Nat.reduceAdd,Nat.reduceSub,Nat.reduceMul,Nat.reduceLT,Nat.reduceLeDiff,Nat.reduceEqDiff,Int.reduceLT,Int.reduceLE,Int.reduceEq,Nat.reduceBEq,reduceCtorEq,reduceCtorEq,true_and]))
  subst hcr
  obtain ⟨h1,h2,h3,h4,hq5⟩:=mtB_dims hb1
  obtain ⟨-,-,k3,k4,kq5⟩:=mtB_dims hb2
  simp only at h1 h2 h3 h4 hq5 k3 k4 kq5
  obtain ⟨R,rfl⟩:=Int.eq_ofNat_of_zero_le h1
  obtain ⟨C,rfl⟩:=Int.eq_ofNat_of_zero_le h3
  obtain ⟨K,rfl⟩:=Int.eq_ofNat_of_zero_le k3
  have hla : la.length = R * C:=by exact_mod_cast hq5
  have hlb : lb.length = C * K:=by exact_mod_cast kq5
  have hR : R≤12:=by omega
  have hC : C≤12:=by omega
  have hK : K≤12:=by omega
  have hRK : R * K≤12 * 12:=Nat.mul_le_mul hR hK
  have hRC : R * C≤12 * 12:=Nat.mul_le_mul hR hC
  have hCK : C * K≤12 * 12:=Nat.mul_le_mul hC hK
  have hbt : mulB ⟨R,C,la⟩ ⟨C,K,lb⟩ = allN (gridL K (fun i k=>mulS C K la lb i k C) (R * K)):=by
    unfold mulB;rw [hb1,hb2,decide_eq_true rfl];simp [mulL]
  have hmt : mulL ⟨R,C,la⟩ ⟨C,K,lb⟩ (R * K) = gridL K (fun i k=>mulS C K la lb i k C) (R * K):=rfl
  generalize hf : (fun i k=>mulS C K la lb i k C) = f at *
  have hmo : mtB ⟨R,K,gridL K f (R * K)⟩ = allN (gridL K f (R * K)):=mtB_true (m:=⟨R,K,gridL K f (R * K)⟩) ⟨by simp,by simp;omega,by simp,by simp;omega,by simp [gridL_len]⟩
  simp only [go_sem,↓reduceIte,Nat.reduceAdd,Nat.reduceSub,Nat.reduceMul,Nat.reduceLT,Nat.reduceLeDiff,Nat.reduceEqDiff,Int.reduceLT,Int.reduceLE,Int.reduceEq,Nat.reduceBEq,reduceCtorEq,reduceCtorEq,encMt,encIts,decide_eq_true]
  refine awp_nilcell (el:=39) (k:=3) (i:=3) (j:=2) (st:=3) (by decide) rfl rfl ?_
  refine awp_loop (fun s m=>∃ i : Nat,i≤R∧m = R - i∧s.n = 5∧s.sl 7 = .p false [.d (.sc (.int .i64 i))]∧MI ⟨R,C,la⟩ ⟨C,K,lb⟩ (gridL K f (i * K)) s) R ?_ ?_
  · exact ⟨0,Nat.zero_le _,rfl,rfl,rfl,rfl,rfl,rfl,rfl,rfl,rfl,rfl,4,rfl,by rw [Nat.zero_mul];rfl⟩
  · rintro s m ⟨i,hi,rfl,hn,g7,g2,g3,g4,g6,o0,o1,o2,v,o3,o4⟩
    by_cases hlt : i < R
    · have hd : decide ((i : Int) < (R : Int)) = true:=decide_eq_true (by omega)
      have hw : IntKind.i64.wrap ((i : Int) + 1) = (i + 1 : Nat):=wrapN (i + 1) (by omega)
      simp only [go_sem,↓reduceIte,Nat.reduceAdd,Nat.reduceSub,Nat.reduceMul,Nat.reduceLT,Nat.reduceLeDiff,Nat.reduceEqDiff,Int.reduceLT,Int.reduceLE,Int.reduceEq,Nat.reduceBEq,reduceCtorEq,reduceCtorEq,g2,g7,hn,o0,encMt,encIts,hd]
      refine awp_loop (fun s m=>∃ k : Nat,k≤K∧m = K - k∧s.n = 5∧s.sl 8 = .p false [.d (.sc (.int .i64 k))]∧s.sl 7 = .p false [.d (.sc (.int .i64 i))]∧MI ⟨R,C,la⟩ ⟨C,K,lb⟩ (gridL K f (i * K + k)) s) K ?_ ?_
      · exact ⟨0,Nat.zero_le _,rfl,rfl,rfl,g7,g2,g3,g4,g6,o0,o1,o2,v,o3,o4⟩
      · clear g7 hn g2 g3 g4 g6 o0 o1 o2 o3 o4
        rintro s m ⟨k,hk,rfl,hn,g8,g7,g2,g3,g4,g6,o0,o1,o2,v,o3,o4⟩
        by_cases hkt : k < K
        · have hd : decide ((k : Int) < (K : Int)) = true:=by simpa using hkt
          have hw : IntKind.i64.wrap ((k : Int) + 1) = (k + 1 : Nat):=wrapN (k + 1) (by omega)
          have hsu:=gridL_succ (i:=i) f hkt
          have hLL:=gridL_len K f (i * K + k)
          have hbd:=grid_lt hlt hkt
          have hfx : f i k = mulS C K la lb i k C:=by rw [← hf]
          generalize f i k = x at *
          generalize gridL K f (i * K + k) = L at *
          simp only [go_sem,↓reduceIte,Nat.reduceAdd,Nat.reduceSub,Nat.reduceMul,Nat.reduceLT,Nat.reduceLeDiff,Nat.reduceEqDiff,Int.reduceLT,Int.reduceLE,Int.reduceEq,Nat.reduceBEq,reduceCtorEq,reduceCtorEq,g3,g8,hn,hd,o1,encMt,encIts]
          refine astep_call rfl (mIntItem 0) rfl rfl (by simp only [go_sem,↓reduceIte,Nat.reduceAdd,Nat.reduceSub,Nat.reduceMul,Nat.reduceLT,Nat.reduceLeDiff,Nat.reduceEqDiff,Int.reduceLT,Int.reduceLE,Int.reduceEq,Nat.reduceBEq,reduceCtorEq,reduceCtorEq,true_and]) ?_
          rw [intN_eq (by omega)]
          simp only [go_sem,↓reduceIte,Nat.reduceAdd,Nat.reduceSub,Nat.reduceMul,Nat.reduceLT,Nat.reduceLeDiff,Nat.reduceEqDiff,Int.reduceLT,Int.reduceLE,Int.reduceEq,Nat.reduceBEq,reduceCtorEq,reduceCtorEq,encIt,hn]
          refine awp_loop (fun s m=>∃ j : Nat,j≤C∧m = C - j∧s.n = 6∧s.sl 10 = .p false [.d (.sc (.int .i64 j))]∧(∃ u,s.sl 9 = .p false [.ptr 5 u 0]∧s.ob 5 = .var u 39 ((encIt (mulS C K la lb i k j)).map .d))∧s.sl 8 = .p false [.d (.sc (.int .i64 k))]∧s.sl 7 = .p false [.d (.sc (.int .i64 i))]∧MI ⟨R,C,la⟩ ⟨C,K,lb⟩ L s) C ?_ ?_
          · exact ⟨0,Nat.zero_le _,rfl,rfl,rfl,⟨_,rfl,rfl⟩,g8,g7,g2,g3,g4,g6,o0,o1,o2,v,o3,o4⟩
          · clear g8 g7 hn g2 g3 g4 g6 o0 o1 o2 o3 o4
            rintro s m ⟨j,hj,rfl,hn,g10,⟨u,g9,o5⟩,g8,g7,g2,g3,g4,g6,o0,o1,o2,v,o3,o4⟩
            by_cases hjt : j < C
            · have hd : decide ((j : Int) < (C : Int)) = true:=by simpa using hjt
              have hwj : IntKind.i64.wrap ((j : Int) + 1) = (j + 1 : Nat):=wrapN (j + 1) (by omega)
              have hxa:=cel_get hla hlt hjt
              have hxb:=cel_get hlb hjt hkt
              have hba:=grid_lt hlt hjt
              have hbb:=grid_lt hjt hkt
              have hms : mulS C K la lb i k (j + 1) = addN (mulS C K la lb i k j) (mulN (cel C la i j) (cel K lb j k)):=rfl
              generalize hy1 : mulS C K la lb i k (j + 1) = y' at *
              generalize mulS C K la lb i k j = y at *
              generalize cel C la i j = xa at *
              generalize cel K lb j k = xb at *
              simp only [go_sem,↓reduceIte,Nat.reduceAdd,Nat.reduceSub,Nat.reduceMul,Nat.reduceLT,Nat.reduceLeDiff,Nat.reduceEqDiff,Int.reduceLT,Int.reduceLE,Int.reduceEq,Nat.reduceBEq,reduceCtorEq,reduceCtorEq,g2,g10,hn,hd,o0,encMt,encIts]
              refine awp_drawn (n:=11) false (by kernel_rfl) (by kernel_rfl) ?_
              simp only [go_sem,↓reduceIte,Nat.reduceAdd,Nat.reduceSub,Nat.reduceMul,Nat.reduceLT,Nat.reduceLeDiff,Nat.reduceEqDiff,Int.reduceLT,Int.reduceLE,Int.reduceEq,Nat.reduceBEq,reduceCtorEq,reduceCtorEq,g2,g3,g7,g8,g9,g10,hn,o0,o1,o5,encMt,encIts,encIt]
              refine hcall rfl (cellAt_m R C i j la xa hxa (by omega)) rfl (by simp only [go_sem,↓reduceIte,Nat.reduceAdd,Nat.reduceSub,Nat.reduceMul,Nat.reduceLT,Nat.reduceLeDiff,Nat.reduceEqDiff,Int.reduceLT,Int.reduceLE,Int.reduceEq,Nat.reduceBEq,reduceCtorEq,reduceCtorEq,encMt,encIts]) (by simp) ?_
              simp only [go_sem,↓reduceIte,Nat.reduceAdd,Nat.reduceSub,Nat.reduceMul,Nat.reduceLT,Nat.reduceLeDiff,Nat.reduceEqDiff,Int.reduceLT,Int.reduceLE,Int.reduceEq,Nat.reduceBEq,reduceCtorEq,reduceCtorEq,g2,g3,g7,g8,g9,g10,hn,o0,o1,o5,encMt,encIts,encIt]
              refine hcall rfl (cellAt_m C K j k lb xb hxb (by omega)) rfl (by simp only [go_sem,↓reduceIte,Nat.reduceAdd,Nat.reduceSub,Nat.reduceMul,Nat.reduceLT,Nat.reduceLeDiff,Nat.reduceEqDiff,Int.reduceLT,Int.reduceLE,Int.reduceEq,Nat.reduceBEq,reduceCtorEq,reduceCtorEq,encMt,encIts]) (by simp) ?_
              simp only [go_sem,↓reduceIte,Nat.reduceAdd,Nat.reduceSub,Nat.reduceMul,Nat.reduceLT,Nat.reduceLeDiff,Nat.reduceEqDiff,Int.reduceLT,Int.reduceLE,Int.reduceEq,Nat.reduceBEq,reduceCtorEq,reduceCtorEq,encIt]
              refine hcall rfl (mImplMul xa xb) rfl (by simp only [go_sem,↓reduceIte,Nat.reduceAdd,Nat.reduceSub,Nat.reduceMul,Nat.reduceLT,Nat.reduceLeDiff,Nat.reduceEqDiff,Int.reduceLT,Int.reduceLE,Int.reduceEq,Nat.reduceBEq,reduceCtorEq,reduceCtorEq,encIt]) (by simp) ?_
              simp only [go_sem,↓reduceIte,Nat.reduceAdd,Nat.reduceSub,Nat.reduceMul,Nat.reduceLT,Nat.reduceLeDiff,Nat.reduceEqDiff,Int.reduceLT,Int.reduceLE,Int.reduceEq,Nat.reduceBEq,reduceCtorEq,reduceCtorEq,encIt]
              refine hcall rfl (mImplAdd y (mulN xa xb)) rfl (by simp only [go_sem,↓reduceIte,Nat.reduceAdd,Nat.reduceSub,Nat.reduceMul,Nat.reduceLT,Nat.reduceLeDiff,Nat.reduceEqDiff,Int.reduceLT,Int.reduceLE,Int.reduceEq,Nat.reduceBEq,reduceCtorEq,reduceCtorEq,encIt]) (by simp) ?_
              rw [← hms]
              simp only [go_sem,↓reduceIte,Nat.reduceAdd,Nat.reduceSub,Nat.reduceMul,Nat.reduceLT,Nat.reduceLeDiff,Nat.reduceEqDiff,Int.reduceLT,Int.reduceLE,Int.reduceEq,Nat.reduceBEq,reduceCtorEq,reduceCtorEq,encIt,hn,o5,g10,g9,hwj]
              exact ⟨6,C - (j + 1),by omega,by omega,j + 1,by omega,rfl,rfl,rfl,⟨u,rfl,by rw [hy1]⟩,g8,g7,g2,g3,g4,g6,o0,o1,o2,v,o3,o4⟩
            · obtain rfl : j = C:=by omega
              have hd : decide ((j : Int) < (j : Int)) = false:=by simp
              rw [← hfx] at o5
              simp only [go_sem,↓reduceIte,Nat.reduceAdd,Nat.reduceSub,Nat.reduceMul,Nat.reduceLT,Nat.reduceLeDiff,Nat.reduceEqDiff,Int.reduceLT,Int.reduceLE,Int.reduceEq,Nat.reduceBEq,reduceCtorEq,reduceCtorEq,g2,g10,g9,g6,hn,hd,o0,o3,o5,encMt,encIts,encIt]
              refine astep_app (i:=4) (st:=v) (es:=L.map encIt) (news:=[encIt x]) rfl rfl tel_24 tzero_39 rfl tby_39 rfl rfl (src_flat (t:=39) (by simp only [go_sem,↓reduceIte,Nat.reduceAdd,Nat.reduceSub,Nat.reduceMul,Nat.reduceLT,Nat.reduceLeDiff,Nat.reduceEqDiff,Int.reduceLT,Int.reduceLE,Int.reduceEq,Nat.reduceBEq,reduceCtorEq,reduceCtorEq,encIt]) (encIts_flat [x])) (by simp only [go_sem,↓reduceIte,Nat.reduceAdd,Nat.reduceSub,Nat.reduceMul,Nat.reduceLT,Nat.reduceLeDiff,Nat.reduceEqDiff,Int.reduceLT,Int.reduceLE,Int.reduceEq,Nat.reduceBEq,reduceCtorEq,reduceCtorEq,o4]) ?_ ?_ ?_
              · simp [hLL];omega
              · simp [hLL];omega
              simp only [go_sem,↓reduceIte,Nat.reduceAdd,Nat.reduceSub,Nat.reduceMul,Nat.reduceLT,Nat.reduceLeDiff,Nat.reduceEqDiff,Int.reduceLT,Int.reduceLE,Int.reduceEq,Nat.reduceBEq,reduceCtorEq,reduceCtorEq,g6,g8,hw,o3]
              exact ⟨5,K - (k + 1),by omega,by omega,k + 1,by omega,rfl,rfl,rfl,g7,g2,g3,g4,g6,o0,o1,o2,_,rfl,by rw [← Nat.add_assoc,hsu,List.map_append];rfl⟩
        · obtain rfl : k = K:=by omega
          have hd : decide ((k : Int) < (k : Int)) = false:=by simp
          simp only [go_sem,↓reduceIte,Nat.reduceAdd,Nat.reduceSub,Nat.reduceMul,Nat.reduceLT,Nat.reduceLeDiff,Nat.reduceEqDiff,Int.reduceLT,Int.reduceLE,Int.reduceEq,Nat.reduceBEq,reduceCtorEq,reduceCtorEq,g3,g8,g7,hn,hd,o1,encMt,encIts,hw]
          exact ⟨5,R - (i + 1),by omega,by omega,i + 1,by omega,rfl,rfl,rfl,g2,g3,g4,g6,o0,o1,o2,v,o3,by rw [Nat.add_mul,Nat.one_mul];exact o4⟩
    · obtain rfl : i = R:=by omega
      have hd : decide ((i : Int) < (i : Int)) = false:=by simp
      simp only [go_sem,↓reduceIte,Nat.reduceAdd,Nat.reduceSub,Nat.reduceMul,Nat.reduceLT,Nat.reduceLeDiff,Nat.reduceEqDiff,Int.reduceLT,Int.reduceLE,Int.reduceEq,Nat.reduceBEq,reduceCtorEq,reduceCtorEq,g2,g7,g4,g6,hn,hd,o0,o3,encMt,encIts]
      generalize gridL K f (i * K) = L at *
      refine astep_call rfl (isMt_m ⟨i,K,L⟩) rfl rfl (by simp only [go_sem,↓reduceIte,Nat.reduceAdd,Nat.reduceSub,Nat.reduceMul,Nat.reduceLT,Nat.reduceLeDiff,Nat.reduceEqDiff,Int.reduceLT,Int.reduceLE,Int.reduceEq,Nat.reduceBEq,reduceCtorEq,reduceCtorEq,encMt,encIts,o3,o4]) ?_
      cases hbb : allN L
      · have hb : mulB ⟨i,C,la⟩ ⟨C,K,lb⟩ = false:=by rw [hbt,hbb]
        simp only [go_sem,↓reduceIte,Nat.reduceAdd,Nat.reduceSub,Nat.reduceMul,Nat.reduceLT,Nat.reduceLeDiff,Nat.reduceEqDiff,Int.reduceLT,Int.reduceLE,Int.reduceEq,Nat.reduceBEq,reduceCtorEq,reduceCtorEq,hmo,hbb,hb,mulM_false hb,g4,g6,hn,o2,encMt,encIts]
        refine Or.inl ?_;repeat' (first | exact gives_nil | exact trivial | with_reducible apply gives_sc | with_reducible apply gives_nilS (by decide) | with_reducible apply gives_own | with_reducible apply Exists.intro | with_reducible apply And.intro | (show (_ : Option Ob) = _;simp only [go_sem,↓reduceIte,Nat.reduceAdd,Nat.reduceSub,Nat.reduceMul,Nat.reduceLT,Nat.reduceLeDiff,Nat.reduceEqDiff,Int.reduceLT,Int.reduceLE,Int.reduceEq,Nat.reduceBEq,reduceCtorEq,reduceCtorEq,true_and]))
      · have hb : mulB ⟨i,C,la⟩ ⟨C,K,lb⟩ = true:=by rw [hbt,hbb]
        simp only [go_sem,↓reduceIte,Nat.reduceAdd,Nat.reduceSub,Nat.reduceMul,Nat.reduceLT,Nat.reduceLeDiff,Nat.reduceEqDiff,Int.reduceLT,Int.reduceLE,Int.reduceEq,Nat.reduceBEq,reduceCtorEq,reduceCtorEq,hmo,hbb,hb,mulM_true hb,hmt,g4,g6,hn,o2,o3,o4,encMt,encIts]
        refine Or.inl ?_;repeat' (first | exact gives_nil | exact trivial | with_reducible apply gives_sc | with_reducible apply gives_nilS (by decide) | with_reducible apply gives_own | with_reducible apply Exists.intro | with_reducible apply And.intro | (show (_ : Option Ob) = _;simp only [go_sem,↓reduceIte,Nat.reduceAdd,Nat.reduceSub,Nat.reduceMul,Nat.reduceLT,Nat.reduceLeDiff,Nat.reduceEqDiff,Int.reduceLT,Int.reduceLE,Int.reduceEq,Nat.reduceBEq,reduceCtorEq,reduceCtorEq,o4]))
end Go.Proofs.Ytpilbhbbdldpeaa

namespace Go.Proofs.Ytpilbhbbdldpeaa
open Go.RowKit
set_option maxRecDepth 100000
def MS (a b : Mt) (es : List (List DV)) (s : AS) : Prop :=
  s.n = 5∧s.sl 2 = .p false [.ptr 0 0 0]∧s.sl 3 = .p false [.ptr 1 1 0]∧s.sl 4 = .p false [.ptr 2 2 0]∧s.sl 6 = .p false [.ptr 4 4 0] ∧
  s.ob 0 = .var 0 26 ((encMt a).map .d)∧s.ob 1 = .var 1 26 ((encMt b).map .d)∧s.ob 2 = .var 2 26 [.d (.sc (.int .i64 0)),.d (.sc (.int .i64 0)),.nil] ∧
  s.ob 4 = .var 4 26 [.d (.sc (.int .i64 a.rows)),.d (.sc (.int .i64 b.cols)),.own 3 3]∧s.ob 3 = .row 3 39 3 es true
theorem set_same {α : Type} {l : List α} {i : Nat} {x : α} (h : l[i]? = some x) : l.set i x = l:=by
  obtain ⟨hi,rfl⟩:=List.getElem?_eq_some_iff.1 h
  exact List.set_getElem_self hi
set_option maxHeartbeats 4000000 in
theorem specMul_m (a b : Mt) : Meets Try.prog 11 [(true,encMt a),(true,encMt b)] [(true,encMt (mulM a b),true),(false,[.sc (.bool (mulB a b))],true)]:=by
  obtain ⟨r,c,la⟩:=a
  obtain ⟨r2,c2,lb⟩:=b
  refine meets_of Try.func11 rfl (by kernel_rfl) (by simp) Try.ntmps11 (congrArg Array.toList Try.results11) ?_
  simp only [go_sem,↓reduceIte,Nat.reduceAdd,Nat.reduceSub,Nat.reduceMul,Nat.reduceLT,Nat.reduceLeDiff,Nat.reduceEqDiff,Int.reduceLT,Int.reduceLE,Int.reduceEq,Nat.reduceBEq,reduceCtorEq,reduceCtorEq,encMt,encIts]
  refine astep_call rfl (specIsMt_m ⟨r,c,la⟩) rfl rfl (by simp only [go_sem,↓reduceIte,Nat.reduceAdd,Nat.reduceSub,Nat.reduceMul,Nat.reduceLT,Nat.reduceLeDiff,Nat.reduceEqDiff,Int.reduceLT,Int.reduceLE,Int.reduceEq,Nat.reduceBEq,reduceCtorEq,reduceCtorEq,encMt,encIts]) ?_
  cases hb1 : mtB ⟨r,c,la⟩
  · have hb : mulB ⟨r,c,la⟩ ⟨r2,c2,lb⟩ = false:=by unfold mulB;rw [hb1];rfl
    simp only [go_sem,↓reduceIte,Nat.reduceAdd,Nat.reduceSub,Nat.reduceMul,Nat.reduceLT,Nat.reduceLeDiff,Nat.reduceEqDiff,Int.reduceLT,Int.reduceLE,Int.reduceEq,Nat.reduceBEq,reduceCtorEq,reduceCtorEq,hb,mulM_false hb,encMt,encIts]
    refine Or.inl ?_;repeat' (first | exact gives_nil | exact trivial | with_reducible apply gives_sc | with_reducible apply gives_nilS (by decide) | with_reducible apply gives_own | with_reducible apply Exists.intro | with_reducible apply And.intro | (show (_ : Option Ob) = _;simp only [go_sem,↓reduceIte,Nat.reduceAdd,Nat.reduceSub,Nat.reduceMul,Nat.reduceLT,Nat.reduceLeDiff,Nat.reduceEqDiff,Int.reduceLT,Int.reduceLE,Int.reduceEq,Nat.reduceBEq,reduceCtorEq,reduceCtorEq,true_and]))
  simp only [go_sem,↓reduceIte,Nat.reduceAdd,Nat.reduceSub,Nat.reduceMul,Nat.reduceLT,Nat.reduceLeDiff,Nat.reduceEqDiff,Int.reduceLT,Int.reduceLE,Int.reduceEq,Nat.reduceBEq,reduceCtorEq,reduceCtorEq,encMt,encIts]
  refine astep_call rfl (specIsMt_m ⟨r2,c2,lb⟩) rfl rfl (by simp only [go_sem,↓reduceIte,Nat.reduceAdd,Nat.reduceSub,Nat.reduceMul,Nat.reduceLT,Nat.reduceLeDiff,Nat.reduceEqDiff,Int.reduceLT,Int.reduceLE,Int.reduceEq,Nat.reduceBEq,reduceCtorEq,reduceCtorEq,encMt,encIts]) ?_
  cases hb2 : mtB ⟨r2,c2,lb⟩
  · have hb : mulB ⟨r,c,la⟩ ⟨r2,c2,lb⟩ = false:=by unfold mulB;rw [hb2,Bool.and_false];rfl
    simp only [go_sem,↓reduceIte,Nat.reduceAdd,Nat.reduceSub,Nat.reduceMul,Nat.reduceLT,Nat.reduceLeDiff,Nat.reduceEqDiff,Int.reduceLT,Int.reduceLE,Int.reduceEq,Nat.reduceBEq,reduceCtorEq,reduceCtorEq,hb,mulM_false hb,encMt,encIts]
    refine Or.inl ?_;repeat' (first | exact gives_nil | exact trivial | with_reducible apply gives_sc | with_reducible apply gives_nilS (by decide) | with_reducible apply gives_own | with_reducible apply Exists.intro | with_reducible apply And.intro | (show (_ : Option Ob) = _;simp only [go_sem,↓reduceIte,Nat.reduceAdd,Nat.reduceSub,Nat.reduceMul,Nat.reduceLT,Nat.reduceLeDiff,Nat.reduceEqDiff,Int.reduceLT,Int.reduceLE,Int.reduceEq,Nat.reduceBEq,reduceCtorEq,reduceCtorEq,true_and]))
  by_cases hcr : c = r2
  rotate_left
  · have hb : mulB ⟨r,c,la⟩ ⟨r2,c2,lb⟩ = false:=by unfold mulB;rw [decide_eq_false hcr,Bool.and_false];rfl
    simp only [go_sem,↓reduceIte,Nat.reduceAdd,Nat.reduceSub,Nat.reduceMul,Nat.reduceLT,Nat.reduceLeDiff,Nat.reduceEqDiff,Int.reduceLT,Int.reduceLE,Int.reduceEq,Nat.reduceBEq,reduceCtorEq,reduceCtorEq,hb,mulM_false hb,encMt,encIts,decide_eq_false hcr]
    refine Or.inl ?_;repeat' (first | exact gives_nil | exact trivial | with_reducible apply gives_sc | with_reducible apply gives_nilS (by decide) | with_reducible apply gives_own | with_reducible apply Exists.intro | with_reducible apply And.intro | (show (_ : Option Ob) = _;simp only [go_sem,↓reduceIte,Nat.reduceAdd,Nat.reduceSub,Nat.reduceMul,Nat.reduceLT,Nat.reduceLeDiff,Nat.reduceEqDiff,Int.reduceLT,Int.reduceLE,Int.reduceEq,Nat.reduceBEq,reduceCtorEq,reduceCtorEq,true_and]))
  subst hcr
  obtain ⟨h1,h2,h3,h4,hq5⟩:=mtB_dims hb1
  obtain ⟨-,-,k3,k4,kq5⟩:=mtB_dims hb2
  simp only at h1 h2 h3 h4 hq5 k3 k4 kq5
  obtain ⟨R,rfl⟩:=Int.eq_ofNat_of_zero_le h1
  obtain ⟨C,rfl⟩:=Int.eq_ofNat_of_zero_le h3
  obtain ⟨K,rfl⟩:=Int.eq_ofNat_of_zero_le k3
  have hla : la.length = R * C:=by exact_mod_cast hq5
  have hlb : lb.length = C * K:=by exact_mod_cast kq5
  have hR : R≤12:=by omega
  have hC : C≤12:=by omega
  have hK : K≤12:=by omega
  have hRK : R * K≤12 * 12:=Nat.mul_le_mul hR hK
  have hRC : R * C≤12 * 12:=Nat.mul_le_mul hR hC
  have hCK : C * K≤12 * 12:=Nat.mul_le_mul hC hK
  have hbt : mulB ⟨R,C,la⟩ ⟨C,K,lb⟩ = allN (gridL K (fun i k=>mulS C K la lb i k C) (R * K)):=by
    unfold mulB;rw [hb1,hb2,decide_eq_true rfl];simp [mulL]
  have hmt : mulL ⟨R,C,la⟩ ⟨C,K,lb⟩ (R * K) = gridL K (fun i k=>mulS C K la lb i k C) (R * K):=rfl
  generalize hf : (fun i k=>mulS C K la lb i k C) = f at *
  generalize hgr : gridL K f (R * K) = gr at *
  have hgl : gr.length = R * K:=by rw [← hgr,gridL_len]
  have hGg : ∀ (i k : Nat),i < R→k < K→(gr.map encIt)[i * K + k]? = some (encIt (mulS C K la lb i k C)):=fun i k hi hk=>by
    rw [List.getElem?_map,← hgr,gridL_get f hk (grid_lt hi hk),← hf];rfl
  clear hgr hf
  simp only [go_sem,↓reduceIte,Nat.reduceAdd,Nat.reduceSub,Nat.reduceMul,Nat.reduceLT,Nat.reduceLeDiff,Nat.reduceEqDiff,Int.reduceLT,Int.reduceLE,Int.reduceEq,Nat.reduceBEq,reduceCtorEq,reduceCtorEq,encMt,encIts]
  refine astep_call rfl (l14Zero_m R K (by omega) (by omega)) rfl rfl (by simp only [go_sem,↓reduceIte,Nat.reduceAdd,Nat.reduceSub,Nat.reduceMul,Nat.reduceLT,Nat.reduceLeDiff,Nat.reduceEqDiff,Int.reduceLT,Int.reduceLE,Int.reduceEq,Nat.reduceBEq,reduceCtorEq,reduceCtorEq,true_and]) ?_
  simp only [go_sem,↓reduceIte,Nat.reduceAdd,Nat.reduceSub,Nat.reduceMul,Nat.reduceLT,Nat.reduceLeDiff,Nat.reduceEqDiff,Int.reduceLT,Int.reduceLE,Int.reduceEq,Nat.reduceBEq,reduceCtorEq,reduceCtorEq,encMt,encIts]
  have hGl : (gr.map encIt).length = R * K:=by rw [List.length_map,hgl]
  rw [show (List.replicate (R * K) (l2N 0)).map encIt = fillL (gr.map encIt) 0 (encIt (l2N 0)) from by rw [fillL_zero,hGl,List.map_replicate]]
  generalize hGd : gr.map encIt = G at *
  generalize hz : encIt (l2N 0) = z
  have hz0 : ∀ i k,encIt (mulS C K la lb i k 0) = z:=fun i k=>hz
  clear hz
  refine awp_loop (fun s m=>∃ i : Nat,i≤R∧m = R - i∧s.sl 7 = .p false [.d (.sc (.int .i64 i))]∧MS ⟨R,C,la⟩ ⟨C,K,lb⟩ (fillL G (i * K) z) s) R ?_ ?_
  · exact ⟨0,Nat.zero_le _,rfl,rfl,rfl,rfl,rfl,rfl,rfl,rfl,rfl,rfl,rfl,by rw [Nat.zero_mul];rfl⟩
  · rintro s m ⟨i,hi,rfl,g7,hn,g2,g3,g4,g6,o0,o1,o2,o4,o3⟩
    by_cases hlt : i < R
    · have hd : decide ((i : Int) < (R : Int)) = true:=decide_eq_true (by omega)
      have hw : IntKind.i64.wrap ((i : Int) + 1) = (i + 1 : Nat):=wrapN (i + 1) (by omega)
      simp only [go_sem,↓reduceIte,Nat.reduceAdd,Nat.reduceSub,Nat.reduceMul,Nat.reduceLT,Nat.reduceLeDiff,Nat.reduceEqDiff,Int.reduceLT,Int.reduceLE,Int.reduceEq,Nat.reduceBEq,reduceCtorEq,reduceCtorEq,g2,g7,hn,o0,encMt,encIts,hd]
      refine awp_loop (fun s m=>∃ k : Nat,k≤K∧m = K - k∧s.sl 8 = .p false [.d (.sc (.int .i64 k))]∧s.sl 7 = .p false [.d (.sc (.int .i64 i))]∧MS ⟨R,C,la⟩ ⟨C,K,lb⟩ (fillL G (i * K + k) z) s) K ?_ ?_
      · exact ⟨0,Nat.zero_le _,rfl,rfl,g7,rfl,g2,g3,g4,g6,o0,o1,o2,o4,o3⟩
      · clear g7 hn g2 g3 g4 g6 o0 o1 o2 o3 o4
        rintro s m ⟨k,hk,rfl,g8,g7,hn,g2,g3,g4,g6,o0,o1,o2,o4,o3⟩
        by_cases hkt : k < K
        · have hd : decide ((k : Int) < (K : Int)) = true:=by simpa using hkt
          have hw : IntKind.i64.wrap ((k : Int) + 1) = (k + 1 : Nat):=wrapN (k + 1) (by omega)
          have hbd:=grid_lt hlt hkt
          have hwp : IntKind.i64.wrap ((i : Int) * (K : Int)) = (i * K : Nat):=by rw [show (i : Int) * (K : Int) = (i * K : Nat) by push_cast;rfl];exact wrapN _ (by omega)
          have hwq : IntKind.i64.wrap (((i * K : Nat) : Int) + (k : Int)) = (i * K + k : Nat):=by rw [show ((i * K : Nat) : Int) + (k : Int) = (i * K + k : Nat) by push_cast;rfl];exact wrapN _ (by omega)
          have hst:=fillL_set (z:=z) (hGg i k hlt hkt)
          have hlen : (fillL G (i * K + k) z).length = R * K:=by rw [fillL_len (by omega),hGl]
          have hget : (fillL G (i * K + k) z)[i * K + k]? = some z:=fillL_get (by omega)
          generalize fillL G (i * K + k) z = E at *
          simp only [go_sem,↓reduceIte,Nat.reduceAdd,Nat.reduceSub,Nat.reduceMul,Nat.reduceLT,Nat.reduceLeDiff,Nat.reduceEqDiff,Int.reduceLT,Int.reduceLE,Int.reduceEq,Nat.reduceBEq,reduceCtorEq,reduceCtorEq,g3,g8,hn,hd,o1,encMt,encIts]
          refine awp_loop (fun s m=>∃ j : Nat,j≤C∧m = C - j∧s.sl 9 = .p false [.d (.sc (.int .i64 j))]∧s.sl 8 = .p false [.d (.sc (.int .i64 k))]∧s.sl 7 = .p false [.d (.sc (.int .i64 i))]∧MS ⟨R,C,la⟩ ⟨C,K,lb⟩ (E.set (i * K + k) (encIt (mulS C K la lb i k j))) s) C ?_ ?_
          · exact ⟨0,Nat.zero_le _,rfl,rfl,g8,g7,rfl,g2,g3,g4,g6,o0,o1,o2,o4,by rw [hz0,set_same hget];exact o3⟩
          · clear g8 g7 hn g2 g3 g4 g6 o0 o1 o2 o3 o4
            rintro s m ⟨j,hj,rfl,g9,g8,g7,hn,g2,g3,g4,g6,o0,o1,o2,o4,o3⟩
            by_cases hjt : j < C
            · have hd : decide ((j : Int) < (C : Int)) = true:=by simpa using hjt
              have hwj : IntKind.i64.wrap ((j : Int) + 1) = (j + 1 : Nat):=wrapN (j + 1) (by omega)
              have hxa:=cel_get hla hlt hjt
              have hxb:=cel_get hlb hjt hkt
              have hba:=grid_lt hlt hjt
              have hbb:=grid_lt hjt hkt
              have hwp2 : IntKind.i64.wrap ((i : Int) * (C : Int)) = (i * C : Nat):=by rw [show (i : Int) * (C : Int) = (i * C : Nat) by push_cast;rfl];exact wrapN _ (by omega)
              have hwq2 : IntKind.i64.wrap (((i * C : Nat) : Int) + (j : Int)) = (i * C + j : Nat):=by rw [show ((i * C : Nat) : Int) + (j : Int) = (i * C + j : Nat) by push_cast;rfl];exact wrapN _ (by omega)
              have hwp3 : IntKind.i64.wrap ((j : Int) * (K : Int)) = (j * K : Nat):=by rw [show (j : Int) * (K : Int) = (j * K : Nat) by push_cast;rfl];exact wrapN _ (by omega)
              have hwq3 : IntKind.i64.wrap (((j * K : Nat) : Int) + (k : Int)) = (j * K + k : Nat):=by rw [show ((j * K : Nat) : Int) + (k : Int) = (j * K + k : Nat) by push_cast;rfl];exact wrapN _ (by omega)
              have hms : mulS C K la lb i k (j + 1) = addN (mulS C K la lb i k j) (mulN (cel C la i j) (cel K lb j k)):=rfl
              generalize hy1 : mulS C K la lb i k (j + 1) = y' at *
              generalize mulS C K la lb i k j = y at *
              generalize cel C la i j = xa at *
              generalize cel K lb j k = xb at *
              generalize hp : i * K + k = p at *
              have hgE : (E.set p (encIt y))[p]? = some (encIt y):=by rw [List.getElem?_set_self (by omega)]
              have hlE : (E.set p (encIt y)).length = R * K:=by rw [List.length_set,hlen]
              have hsE : (E.set p (encIt y)).set p (encIt y') = E.set p (encIt y'):=List.set_set ..
              generalize E.set p (encIt y) = E1 at *
              simp only [go_sem,↓reduceIte,Nat.reduceAdd,Nat.reduceSub,Nat.reduceMul,Nat.reduceLT,Nat.reduceLeDiff,Nat.reduceEqDiff,Int.reduceLT,Int.reduceLE,Int.reduceEq,Nat.reduceBEq,reduceCtorEq,reduceCtorEq,g2,g9,hn,hd,o0,encMt,encIts]
              refine awp_drawn (n:=40) false (by kernel_rfl) (by kernel_rfl) ?_
              simp only [go_sem,↓reduceIte,Nat.reduceAdd,Nat.reduceSub,Nat.reduceMul,Nat.reduceLT,Nat.reduceLeDiff,Nat.reduceEqDiff,Int.reduceLT,Int.reduceLE,Int.reduceEq,Nat.reduceBEq,reduceCtorEq,reduceCtorEq,g2,g3,g6,g7,g8,g9,hn,o0,o1,o3,o4,encMt,encIts,hwp,hwq,hwp2,hwq2,hwp3,hwq3,hlE,hbd,hgE,List.getElem?_map,hxa,hxb,Option.map_some,encIt]
              refine hcall rfl (mSpecMul xa xb) rfl (by simp only [go_sem,↓reduceIte,Nat.reduceAdd,Nat.reduceSub,Nat.reduceMul,Nat.reduceLT,Nat.reduceLeDiff,Nat.reduceEqDiff,Int.reduceLT,Int.reduceLE,Int.reduceEq,Nat.reduceBEq,reduceCtorEq,reduceCtorEq,encIt]) (by simp) ?_
              simp only [go_sem,↓reduceIte,Nat.reduceAdd,Nat.reduceSub,Nat.reduceMul,Nat.reduceLT,Nat.reduceLeDiff,Nat.reduceEqDiff,Int.reduceLT,Int.reduceLE,Int.reduceEq,Nat.reduceBEq,reduceCtorEq,reduceCtorEq,encIt]
              refine hcall rfl (mSpecAdd y (mulN xa xb)) rfl (by simp only [go_sem,↓reduceIte,Nat.reduceAdd,Nat.reduceSub,Nat.reduceMul,Nat.reduceLT,Nat.reduceLeDiff,Nat.reduceEqDiff,Int.reduceLT,Int.reduceLE,Int.reduceEq,Nat.reduceBEq,reduceCtorEq,reduceCtorEq,encIt]) (by simp) ?_
              rw [← hms]
              simp only [go_sem,↓reduceIte,Nat.reduceAdd,Nat.reduceSub,Nat.reduceMul,Nat.reduceLT,Nat.reduceLeDiff,Nat.reduceEqDiff,Int.reduceLT,Int.reduceLE,Int.reduceEq,Nat.reduceBEq,reduceCtorEq,reduceCtorEq,encIt,o3,o4,hlE,hbd,hn]
              refine astep_row (i:=3) (st:=3) (k:=3) (j:=p) (off:=0) (es:=E1) (e:=encIt y) (ds:=encIt y') (t':=39) (xs:=(encIt y').map .d) rfl rfl rfl (by simp only [go_sem,↓reduceIte,Nat.reduceAdd,Nat.reduceSub,Nat.reduceMul,Nat.reduceLT,Nat.reduceLeDiff,Nat.reduceEqDiff,Int.reduceLT,Int.reduceLE,Int.reduceEq,Nat.reduceBEq,reduceCtorEq,reduceCtorEq,o3]) hgE (by simp only [go_sem,↓reduceIte,Nat.reduceAdd,Nat.reduceSub,Nat.reduceMul,Nat.reduceLT,Nat.reduceLeDiff,Nat.reduceEqDiff,Int.reduceLT,Int.reduceLE,Int.reduceEq,Nat.reduceBEq,reduceCtorEq,reduceCtorEq,encIt]) tsz_39 (Nat.le_refl _) (Gives.ofFlat rfl (encIt_flat _)) (by simp only [go_sem,↓reduceIte,Nat.reduceAdd,Nat.reduceSub,Nat.reduceMul,Nat.reduceLT,Nat.reduceLeDiff,Nat.reduceEqDiff,Int.reduceLT,Int.reduceLE,Int.reduceEq,Nat.reduceBEq,reduceCtorEq,reduceCtorEq,o3]) ?_
              rw [show plug 0 (encIt y') (encIt y) = encIt y' from rfl,hsE]
              simp only [go_sem,↓reduceIte,Nat.reduceAdd,Nat.reduceSub,Nat.reduceMul,Nat.reduceLT,Nat.reduceLeDiff,Nat.reduceEqDiff,Int.reduceLT,Int.reduceLE,Int.reduceEq,Nat.reduceBEq,reduceCtorEq,reduceCtorEq,g9,hwj]
              exact ⟨5,C - (j + 1),by omega,by omega,j + 1,by omega,rfl,rfl,g8,g7,rfl,g2,g3,g4,g6,o0,o1,o2,o4,by rw [hy1];rfl⟩
            · obtain rfl : j = C:=by omega
              have hd : decide ((j : Int) < (j : Int)) = false:=by simp
              rw [hst] at o3
              simp only [go_sem,↓reduceIte,Nat.reduceAdd,Nat.reduceSub,Nat.reduceMul,Nat.reduceLT,Nat.reduceLeDiff,Nat.reduceEqDiff,Int.reduceLT,Int.reduceLE,Int.reduceEq,Nat.reduceBEq,reduceCtorEq,reduceCtorEq,g2,g9,g8,hn,hd,hw,o0,encMt,encIts,encIt]
              exact ⟨5,K - (k + 1),by omega,by omega,k + 1,by omega,rfl,rfl,g7,rfl,g2,g3,g4,g6,o0,o1,o2,o4,o3⟩
        · obtain rfl : k = K:=by omega
          have hd : decide ((k : Int) < (k : Int)) = false:=by simp
          simp only [go_sem,↓reduceIte,Nat.reduceAdd,Nat.reduceSub,Nat.reduceMul,Nat.reduceLT,Nat.reduceLeDiff,Nat.reduceEqDiff,Int.reduceLT,Int.reduceLE,Int.reduceEq,Nat.reduceBEq,reduceCtorEq,reduceCtorEq,g3,g8,g7,hn,hd,o1,encMt,encIts,hw]
          exact ⟨5,R - (i + 1),by omega,by omega,i + 1,by omega,rfl,rfl,rfl,g2,g3,g4,g6,o0,o1,o2,o4,by rw [Nat.add_mul,Nat.one_mul];exact o3⟩
    · obtain rfl : i = R:=by omega
      have hd : decide ((i : Int) < (i : Int)) = false:=by simp
      have hG0 : fillL G (i * K) z = G:=by rw [← hGl];exact fillL_end G z
      rw [hG0,← hGd] at o3
      simp only [go_sem,↓reduceIte,Nat.reduceAdd,Nat.reduceSub,Nat.reduceMul,Nat.reduceLT,Nat.reduceLeDiff,Nat.reduceEqDiff,Int.reduceLT,Int.reduceLE,Int.reduceEq,Nat.reduceBEq,reduceCtorEq,reduceCtorEq,g2,g7,g4,g6,hn,hd,o0,o4,encMt,encIts]
      refine astep_call rfl (l14Known_m i K gr (by omega)) rfl rfl (by simp only [go_sem,↓reduceIte,Nat.reduceAdd,Nat.reduceSub,Nat.reduceMul,Nat.reduceLT,Nat.reduceLeDiff,Nat.reduceEqDiff,Int.reduceLT,Int.reduceLE,Int.reduceEq,Nat.reduceBEq,reduceCtorEq,reduceCtorEq,encMt,encIts,o3,o4]) ?_
      cases hbb : allN gr
      · have hb : mulB ⟨i,C,la⟩ ⟨C,K,lb⟩ = false:=by rw [hbt,hbb]
        simp only [go_sem,↓reduceIte,Nat.reduceAdd,Nat.reduceSub,Nat.reduceMul,Nat.reduceLT,Nat.reduceLeDiff,Nat.reduceEqDiff,Int.reduceLT,Int.reduceLE,Int.reduceEq,Nat.reduceBEq,reduceCtorEq,reduceCtorEq,hbb,hb,mulM_false hb,g4,g6,hn,o2,encMt,encIts]
        refine Or.inl ?_;repeat' (first | exact gives_nil | exact trivial | with_reducible apply gives_sc | with_reducible apply gives_nilS (by decide) | with_reducible apply gives_own | with_reducible apply Exists.intro | with_reducible apply And.intro | (show (_ : Option Ob) = _;simp only [go_sem,↓reduceIte,Nat.reduceAdd,Nat.reduceSub,Nat.reduceMul,Nat.reduceLT,Nat.reduceLeDiff,Nat.reduceEqDiff,Int.reduceLT,Int.reduceLE,Int.reduceEq,Nat.reduceBEq,reduceCtorEq,reduceCtorEq,true_and]))
      · have hb : mulB ⟨i,C,la⟩ ⟨C,K,lb⟩ = true:=by rw [hbt,hbb]
        simp only [go_sem,↓reduceIte,Nat.reduceAdd,Nat.reduceSub,Nat.reduceMul,Nat.reduceLT,Nat.reduceLeDiff,Nat.reduceEqDiff,Int.reduceLT,Int.reduceLE,Int.reduceEq,Nat.reduceBEq,reduceCtorEq,reduceCtorEq,hbb,hb,mulM_true hb,hmt,g4,g6,hn,o2,o3,o4,encMt,encIts]
        refine Or.inl ?_;repeat' (first | exact gives_nil | exact trivial | with_reducible apply gives_sc | with_reducible apply gives_nilS (by decide) | with_reducible apply gives_own | with_reducible apply Exists.intro | with_reducible apply And.intro | (show (_ : Option Ob) = _;simp only [go_sem,↓reduceIte,Nat.reduceAdd,Nat.reduceSub,Nat.reduceMul,Nat.reduceLT,Nat.reduceLeDiff,Nat.reduceEqDiff,Int.reduceLT,Int.reduceLE,Int.reduceEq,Nat.reduceBEq,reduceCtorEq,reduceCtorEq,o3]))
theorem mulM_len (a b : Mt) : (mulM a b).cells.length≤144:=by
  cases h : mulB a b
  · rw [mulM_false h];simp
  · rw [mulM_true h]
    unfold mulB at h
    simp only [Bool.and_eq_true] at h
    obtain ⟨h1,h2,h3,h4,-⟩:=mtB_dims h.1.1.1
    obtain ⟨k1,k2,k3,k4,-⟩:=mtB_dims h.1.1.2
    simp only [mulL,gridL_len]
    have : a.rows.toNat * b.cols.toNat≤12 * 12:=Nat.mul_le_mul (by omega) (by omega)
    omega
end Go.Proofs.Ytpilbhbbdldpeaa

namespace Go.Proofs.Ytpilbhbbdldpeaa
open List (length_take length_drop length_append map_cons map_nil length_map length_cons length_nil length_set length_replicate)
open Go.RowKit
set_option maxRecDepth 100000
theorem copyItems_m (l : List It) (hl : l.length≤100000000000) : Meets Try.prog 54 [(false,[encIts l])] [(false,[encIts l],true)]:=by
  refine meets_upf Try.func54 u_impl_copyItems_g rfl ?_;simp only [u_impl_copyItems_u]
  simp (disch:=first | omega | (simp only [length_take,length_drop,length_append,map_cons,map_nil,length_map,length_cons,length_nil,length_set,length_replicate];omega) | (simp only [length_cons,length_nil,Nat.zero_add,Nat.reduceAdd])) only [go_sem,↓reduceIte,Nat.reduceAdd,Int.reduceNeg,Int.reduceAdd,Int.reduceSub,Int.reduceMul,Int.reduceLT,Int.reduceLE,Int.reduceEq,Int.reduceToNat,Nat.reduceBEq,encIts,fl_it]
  rfl
theorem columnMatrix_m (l : List It) (hl : l.length≤100000000000) : Meets Try.prog 27 [(false,[encIts l])] [(true,encMt ⟨l.length,1,l⟩,true)]:=by
  have h:=copyItems_m l hl
  refine meets_upf Try.func27 u_impl_columnMatrix_g rfl ?_;simp only [u_impl_columnMatrix_u]
  simp only [encIts] at h ⊢
  simp (disch:=first | omega | (simp only [length_take,length_drop,length_append,map_cons,map_nil,length_map,length_cons,length_nil,length_set,length_replicate];omega) | (simp only [length_cons,length_nil,Nat.zero_add,Nat.reduceAdd])) only [go_sem,↓reduceIte,Nat.reduceAdd,Int.reduceNeg,Int.reduceAdd,Int.reduceSub,Int.reduceMul,Int.reduceLT,Int.reduceLE,Int.reduceEq,Int.reduceToNat,Nat.reduceBEq,fl_it]
  refine cl_ok h rfl ?_
  simp (disch:=first | omega | (simp only [length_take,length_drop,length_append,map_cons,map_nil,length_map,length_cons,length_nil,length_set,length_replicate];omega) | (simp only [length_cons,length_nil,Nat.zero_add,Nat.reduceAdd])) only [go_sem,↓reduceIte,Nat.reduceAdd,Int.reduceNeg,Int.reduceAdd,Int.reduceSub,Int.reduceMul,Int.reduceLT,Int.reduceLE,Int.reduceEq,Int.reduceToNat,Nat.reduceBEq,fl_it]
  rfl
theorem l23Column_m (l : List It) (hl : l.length≤100000000000) : Meets Try.prog 33 [(false,[encIts l])] [(true,encMt ⟨l.length,1,l⟩,true)]:=by
  refine meets_upf Try.func33 u_spec_l23Column_g rfl ?_;simp only [u_spec_l23Column_u]
  simp (disch:=first | omega | (simp only [length_take,length_drop,length_append,map_cons,map_nil,length_map,length_cons,length_nil,length_set,length_replicate];omega) | (simp only [length_cons,length_nil,Nat.zero_add,Nat.reduceAdd])) only [go_sem,↓reduceIte,Nat.reduceAdd,Int.reduceNeg,Int.reduceAdd,Int.reduceSub,Int.reduceMul,Int.reduceLT,Int.reduceLE,Int.reduceEq,Int.reduceToNat,Nat.reduceBEq,encIts,fl_it]
  rfl
theorem eq_it (x y : It) : eqKD [.i,.i,.s] (encIt x) (encIt y) = some (decide (x = y)):=by
  obtain ⟨a,b,c⟩:=x
  obtain ⟨a',b',c'⟩:=y
  simp only [encIt,eqKD,eqK,if_true,It.mk.injEq,Bool.and_true]
  congr 1
  rw [← Bool.decide_and,← Bool.decide_and]
theorem eq0_it (x : It) : eEqS false [.i,.i,.s] (some [.sc (.int .i64 x.num),.sc (.int .i64 x.den),.sc (.string x.text)]) (some [.sc (.int .i64 0),.sc (.int .i64 0),.sc (.string ⟨#[]⟩)]) = some [.sc (.bool (decide (x = it0)))]:=e_eqS (eq_it x it0)
def fixIt (x : It) : It:=if x = it0 then intN 0 else x
def prB (x : Mt) (b : List It) : Bool:=mtB x && decide ((b.length : Int) = x.cols) && mulB x ⟨b.length,1,b.map fixIt⟩
def prL (x : Mt) (b : List It) : List It:=if prB x b = true then (mulM x ⟨b.length,1,b.map fixIt⟩).cells else []
def fixUp (b : List It) (i : Nat) : List It:=(b.take i).map fixIt ++ b.drop i
theorem fixUp_len (b : List It) (i : Nat) (h : i≤b.length) : (fixUp b i).length = b.length:=by simp [fixUp];omega
theorem fixUp_get (b : List It) (i : Nat) (h : i < b.length) : (fixUp b i).getD i default = b.getD i default:=by
  simp only [fixUp,List.getD_eq_getElem?_getD]
  rw [List.getElem?_append_right (by simp;omega)]
  simp [Nat.min_eq_left (Nat.le_of_lt h)]
theorem fixUp_succ (b : List It) (i : Nat) (h : i < b.length) : fixUp b (i + 1) = (fixUp b i).set i (fixIt (b.getD i default)):=by
  apply List.ext_getElem?
  intro j
  simp only [fixUp,List.getD_eq_getElem?_getD,List.getElem?_eq_getElem h,Option.getD_some,List.getElem?_set]
  rcases Nat.lt_trichotomy j i with h1 | h1 | h1
  · rw [if_neg (by omega),List.getElem?_append_left (by simp;omega),List.getElem?_append_left (by simp;omega)]
    simp [List.getElem?_take,h1,Nat.lt_succ_of_lt h1]
  · subst h1
    rw [if_pos rfl,if_pos (by simp;omega),List.getElem?_append_left (by simp;omega)]
    simp [List.getElem?_take,List.getElem?_eq_getElem h]
  · rw [if_neg (by omega),List.getElem?_append_right (by simp;omega),List.getElem?_append_right (by simp;omega)]
    simp [Nat.min_eq_left (Nat.le_of_lt h),Nat.min_eq_left (show i + 1≤b.length from h)]
    congr 1;omega
set_option maxHeartbeats 2000000 in
theorem implPred_m (x : Mt) (b : List It) (hb : b.length≤100000000000) : Meets Try.prog 9 [(true,encMt x),(false,[encIts b])] [(false,[encIts (prL x b)],true),(false,[.sc (.bool (prB x b))],true)]:=by
  obtain ⟨r,c,l⟩:=x
  have hm:=isMt_m ⟨r,c,l⟩
  have hcol:=columnMatrix_m b hb
  have hmul:=implMul_m ⟨r,c,l⟩ ⟨b.length,1,b.map fixIt⟩
  have hmi:=mIsMissing
  unfold prL prB
  refine meets_upf Try.func9 u_impl_PredictWith_g rfl ?_;simp only [u_impl_PredictWith_u]
  simp only [encMt,encIts] at hm hcol hmul ⊢
  simp (disch:=first | omega | (simp only [length_take,length_drop,length_append,map_cons,map_nil,length_map,length_cons,length_nil,length_set,length_replicate];omega) | (simp only [length_cons,length_nil,Nat.zero_add,Nat.reduceAdd])) only [go_sem,↓reduceIte,Nat.reduceAdd,Int.reduceNeg,Int.reduceAdd,Int.reduceSub,Int.reduceMul,Int.reduceLT,Int.reduceLE,Int.reduceEq,Int.reduceToNat,Nat.reduceBEq,true_and]
  refine cl_ok hm rfl ?_
  cases hB : mtB ⟨r,c,l⟩
  · simp (disch:=first | omega | (simp only [length_take,length_drop,length_append,map_cons,map_nil,length_map,length_cons,length_nil,length_set,length_replicate];omega) | (simp only [length_cons,length_nil,Nat.zero_add,Nat.reduceAdd])) only [go_sem,↓reduceIte,Nat.reduceAdd,Int.reduceNeg,Int.reduceAdd,Int.reduceSub,Int.reduceMul,Int.reduceLT,Int.reduceLE,Int.reduceEq,Int.reduceToNat,Nat.reduceBEq,Bool.false_and,Bool.false_eq_true]
    rfl
  simp (disch:=first | omega | (simp only [length_take,length_drop,length_append,map_cons,map_nil,length_map,length_cons,length_nil,length_set,length_replicate];omega) | (simp only [length_cons,length_nil,Nat.zero_add,Nat.reduceAdd])) only [go_sem,↓reduceIte,Nat.reduceAdd,Int.reduceNeg,Int.reduceAdd,Int.reduceSub,Int.reduceMul,Int.reduceLT,Int.reduceLE,Int.reduceEq,Int.reduceToNat,Nat.reduceBEq,Bool.true_and]
  refine br_ifn (fun h=>?_) (fun h=>?_)
  rotate_left
  · simp (disch:=first | omega | (simp only [length_take,length_drop,length_append,map_cons,map_nil,length_map,length_cons,length_nil,length_set,length_replicate];omega) | (simp only [length_cons,length_nil,Nat.zero_add,Nat.reduceAdd])) only [go_sem,↓reduceIte,Nat.reduceAdd,Int.reduceNeg,Int.reduceAdd,Int.reduceSub,Int.reduceMul,Int.reduceLT,Int.reduceLE,Int.reduceEq,Int.reduceToNat,Nat.reduceBEq,h,Bool.false_and,Bool.false_eq_true]
    rfl
  subst h
  simp only [decide_true,Bool.true_and]
  simp (disch:=first | omega | (simp only [length_take,length_drop,length_append,map_cons,map_nil,length_map,length_cons,length_nil,length_set,length_replicate];omega) | (simp only [length_cons,length_nil,Nat.zero_add,Nat.reduceAdd])) only [go_sem,↓reduceIte,Nat.reduceAdd,Int.reduceNeg,Int.reduceAdd,Int.reduceSub,Int.reduceMul,Int.reduceLT,Int.reduceLE,Int.reduceEq,Int.reduceToNat,Nat.reduceBEq,true_and]
  refine cl_ok hcol rfl ?_
  simp (disch:=first | omega | (simp only [length_take,length_drop,length_append,map_cons,map_nil,length_map,length_cons,length_nil,length_set,length_replicate];omega) | (simp only [length_cons,length_nil,Nat.zero_add,Nat.reduceAdd])) only [go_sem,↓reduceIte,Nat.reduceAdd,Int.reduceNeg,Int.reduceAdd,Int.reduceSub,Int.reduceMul,Int.reduceLT,Int.reduceLE,Int.reduceEq,Int.reduceToNat,Nat.reduceBEq,true_and]
  refine lp_n b.length (fun i=>[.sc (.int .i64 (i : Nat)),.sl 39 3 ((fixUp b i).map encIt)]) (by simp (disch:=first | omega | (simp only [length_take,length_drop,length_append,map_cons,map_nil,length_map,length_cons,length_nil,length_set,length_replicate];omega) | (simp only [length_cons,length_nil,Nat.zero_add,Nat.reduceAdd])) only [go_sem,↓reduceIte,Nat.reduceAdd,Int.reduceNeg,Int.reduceAdd,Int.reduceSub,Int.reduceMul,Int.reduceLT,Int.reduceLE,Int.reduceEq,Int.reduceToNat,Nat.reduceBEq,fixUp,List.take_zero,List.drop_zero]) fun i hi=>?_
  have hfl:=fixUp_len b i hi
  simp only [u_impl_PredictWith_l1]
  simp (disch:=first | omega | (simp only [length_take,length_drop,length_append,map_cons,map_nil,length_map,length_cons,length_nil,length_set,length_replicate];omega) | (simp only [length_cons,length_nil,Nat.zero_add,Nat.reduceAdd])) only [go_sem,↓reduceIte,Nat.reduceAdd,Int.reduceNeg,Int.reduceAdd,Int.reduceSub,Int.reduceMul,Int.reduceLT,Int.reduceLE,Int.reduceEq,Int.reduceToNat,Nat.reduceBEq,true_and]
  refine br_if (fun h1=>?_) (fun h1=>?_)
  · have hlt : i < b.length:=by omega
    have hg:=fixUp_get b i hlt
    have hs:=fixUp_succ b i hlt
    simp (disch:=first | omega | (simp only [length_take,length_drop,length_append,map_cons,map_nil,length_map,length_cons,length_nil,length_set,length_replicate];omega) | (simp only [length_cons,length_nil,Nat.zero_add,Nat.reduceAdd])) only [go_sem,↓reduceIte,Nat.reduceAdd,Int.reduceNeg,Int.reduceAdd,Int.reduceSub,Int.reduceMul,Int.reduceLT,Int.reduceLE,Int.reduceEq,Int.reduceToNat,Nat.reduceBEq,true_and]
    refine jn_eq [.sc (.bool (decide (b.getD i default = it0))),.sl 39 3 ((fixUp b (i + 1)).map encIt),.sc (.int .i64 (b.getD i default).num),.sc (.int .i64 (b.getD i default).den),.sc (.string (b.getD i default).text)] ?_ ?_
    · simp (disch:=first | omega | (simp only [length_take,length_drop,length_append,map_cons,map_nil,length_map,length_cons,length_nil,length_set,length_replicate];omega) | (simp only [length_cons,length_nil,Nat.zero_add,Nat.reduceAdd])) only [go_sem,↓reduceIte,Nat.reduceAdd,Int.reduceNeg,Int.reduceAdd,Int.reduceSub,Int.reduceMul,Int.reduceLT,Int.reduceLE,Int.reduceEq,Int.reduceToNat,Nat.reduceBEq,ix_it,hg,encIt]
      have hm2:=mIsMissing (b.getD i default)
      simp only [encIt] at hm2
      refine cl_ok hm2 rfl ?_
      by_cases hz : b.getD i default = it0
      · have hi0:=mIntItem 0
        simp only [encIt] at hi0
        simp (disch:=first | omega | (simp only [length_take,length_drop,length_append,map_cons,map_nil,length_map,length_cons,length_nil,length_set,length_replicate];omega) | (simp only [length_cons,length_nil,Nat.zero_add,Nat.reduceAdd])) only [go_sem,↓reduceIte,Nat.reduceAdd,Int.reduceNeg,Int.reduceAdd,Int.reduceSub,Int.reduceMul,Int.reduceLT,Int.reduceLE,Int.reduceEq,Int.reduceToNat,Nat.reduceBEq,hz]
        refine cl_ok hi0 rfl ?_
        simp (disch:=first | omega | (simp only [length_take,length_drop,length_append,map_cons,map_nil,length_map,length_cons,length_nil,length_set,length_replicate];omega) | (simp only [length_cons,length_nil,Nat.zero_add,Nat.reduceAdd])) only [go_sem,↓reduceIte,Nat.reduceAdd,Int.reduceNeg,Int.reduceAdd,Int.reduceSub,Int.reduceMul,Int.reduceLT,Int.reduceLE,Int.reduceEq,Int.reduceToNat,Nat.reduceBEq,st_it]
        rw [hs,hz,List.map_set]
        rfl
      · simp (disch:=first | omega | (simp only [length_take,length_drop,length_append,map_cons,map_nil,length_map,length_cons,length_nil,length_set,length_replicate];omega) | (simp only [length_cons,length_nil,Nat.zero_add,Nat.reduceAdd])) only [go_sem,↓reduceIte,Nat.reduceAdd,Int.reduceNeg,Int.reduceAdd,Int.reduceSub,Int.reduceMul,Int.reduceLT,Int.reduceLE,Int.reduceEq,Int.reduceToNat,Nat.reduceBEq,hz]
        have : fixUp b (i + 1) = fixUp b i:=by
          rw [hs]
          unfold fixIt
          rw [if_neg hz,← hg,List.getD_eq_getElem?_getD,List.getElem?_eq_getElem (by omega),Option.getD_some,List.set_getElem_self]
        rw [this]
    · simp only [u_impl_PredictWith_j0]
      simp (disch:=first | omega | (simp only [length_take,length_drop,length_append,map_cons,map_nil,length_map,length_cons,length_nil,length_set,length_replicate];omega) | (simp only [length_cons,length_nil,Nat.zero_add,Nat.reduceAdd])) only [go_sem,↓reduceIte,Nat.reduceAdd,Int.reduceNeg,Int.reduceAdd,Int.reduceSub,Int.reduceMul,Int.reduceLT,Int.reduceLE,Int.reduceEq,Int.reduceToNat,Nat.reduceBEq,nat1]
      exact hlt
  · have : i = b.length:=by omega
    subst this
    have hfix : fixUp b b.length = b.map fixIt:=by simp [fixUp]
    simp (disch:=first | omega | (simp only [length_take,length_drop,length_append,map_cons,map_nil,length_map,length_cons,length_nil,length_set,length_replicate];omega) | (simp only [length_cons,length_nil,Nat.zero_add,Nat.reduceAdd])) only [go_sem,↓reduceIte,Nat.reduceAdd,Int.reduceNeg,Int.reduceAdd,Int.reduceSub,Int.reduceMul,Int.reduceLT,Int.reduceLE,Int.reduceEq,Int.reduceToNat,Nat.reduceBEq,hfix]
    refine cl_ok hmul rfl ?_
    cases hB2 : mulB ⟨r,b.length,l⟩ ⟨b.length,1,b.map fixIt⟩
    · simp (disch:=first | omega | (simp only [length_take,length_drop,length_append,map_cons,map_nil,length_map,length_cons,length_nil,length_set,length_replicate];omega) | (simp only [length_cons,length_nil,Nat.zero_add,Nat.reduceAdd])) only [go_sem,↓reduceIte,Nat.reduceAdd,Int.reduceNeg,Int.reduceAdd,Int.reduceSub,Int.reduceMul,Int.reduceLT,Int.reduceLE,Int.reduceEq,Int.reduceToNat,Nat.reduceBEq,Bool.false_eq_true]
      rfl
    · simp (disch:=first | omega | (simp only [length_take,length_drop,length_append,map_cons,map_nil,length_map,length_cons,length_nil,length_set,length_replicate];omega) | (simp only [length_cons,length_nil,Nat.zero_add,Nat.reduceAdd])) only [go_sem,↓reduceIte,Nat.reduceAdd,Int.reduceNeg,Int.reduceAdd,Int.reduceSub,Int.reduceMul,Int.reduceLT,Int.reduceLE,Int.reduceEq,Int.reduceToNat,Nat.reduceBEq,true_and]
      rfl
def fixL (b : List It) (i : Nat) : List It:=(b.take i).map fixIt
theorem fixL_succ (b : List It) (i : Nat) (h : i < b.length) : fixL b (i + 1) = fixL b i ++ [fixIt (b.getD i default)]:=by
  unfold fixL
  rw [List.take_succ_eq_append_getElem h,List.map_append,List.getD_eq_getElem?_getD,List.getElem?_eq_getElem h];rfl
set_option maxHeartbeats 2000000 in
theorem specPred_m (x : Mt) (b : List It) (hb : b.length≤100000000000) : Meets Try.prog 16 [(true,encMt x),(false,[encIts b])] [(false,[encIts (prL x b)],true),(false,[.sc (.bool (prB x b))],true)]:=by
  obtain ⟨r,c,l⟩:=x
  have hm:=specIsMt_m ⟨r,c,l⟩
  have hcol:=l23Column_m (b.map fixIt) (by simpa using hb)
  have hmul:=specMul_m ⟨r,c,l⟩ ⟨b.length,1,b.map fixIt⟩
  have hml : (mulM ⟨r,c,l⟩ ⟨b.length,1,b.map fixIt⟩).cells.length≤144:=mulM_len _ _
  unfold prL prB
  refine meets_upf Try.func16 u_spec_PredictWith_g rfl ?_;simp only [u_spec_PredictWith_u]
  simp only [encMt,encIts,List.length_map] at hm hcol hmul ⊢
  simp (disch:=first | omega | (simp only [length_take,length_drop,length_append,map_cons,map_nil,length_map,length_cons,length_nil,length_set,length_replicate];omega) | (simp only [length_cons,length_nil,Nat.zero_add,Nat.reduceAdd])) only [go_sem,↓reduceIte,Nat.reduceAdd,Int.reduceNeg,Int.reduceAdd,Int.reduceSub,Int.reduceMul,Int.reduceLT,Int.reduceLE,Int.reduceEq,Int.reduceToNat,Nat.reduceBEq,true_and]
  refine cl_ok hm rfl ?_
  cases hB : mtB ⟨r,c,l⟩
  · simp (disch:=first | omega | (simp only [length_take,length_drop,length_append,map_cons,map_nil,length_map,length_cons,length_nil,length_set,length_replicate];omega) | (simp only [length_cons,length_nil,Nat.zero_add,Nat.reduceAdd])) only [go_sem,↓reduceIte,Nat.reduceAdd,Int.reduceNeg,Int.reduceAdd,Int.reduceSub,Int.reduceMul,Int.reduceLT,Int.reduceLE,Int.reduceEq,Int.reduceToNat,Nat.reduceBEq,Bool.false_and,Bool.false_eq_true]
    rfl
  simp (disch:=first | omega | (simp only [length_take,length_drop,length_append,map_cons,map_nil,length_map,length_cons,length_nil,length_set,length_replicate];omega) | (simp only [length_cons,length_nil,Nat.zero_add,Nat.reduceAdd])) only [go_sem,↓reduceIte,Nat.reduceAdd,Int.reduceNeg,Int.reduceAdd,Int.reduceSub,Int.reduceMul,Int.reduceLT,Int.reduceLE,Int.reduceEq,Int.reduceToNat,Nat.reduceBEq,Bool.true_and]
  refine br_ifn (fun h=>?_) (fun h=>?_)
  rotate_left
  · simp (disch:=first | omega | (simp only [length_take,length_drop,length_append,map_cons,map_nil,length_map,length_cons,length_nil,length_set,length_replicate];omega) | (simp only [length_cons,length_nil,Nat.zero_add,Nat.reduceAdd])) only [go_sem,↓reduceIte,Nat.reduceAdd,Int.reduceNeg,Int.reduceAdd,Int.reduceSub,Int.reduceMul,Int.reduceLT,Int.reduceLE,Int.reduceEq,Int.reduceToNat,Nat.reduceBEq,h,Bool.false_and,Bool.false_eq_true]
    rfl
  subst h
  simp only [decide_true,Bool.true_and]
  simp (disch:=first | omega | (simp only [length_take,length_drop,length_append,map_cons,map_nil,length_map,length_cons,length_nil,length_set,length_replicate];omega) | (simp only [length_cons,length_nil,Nat.zero_add,Nat.reduceAdd])) only [go_sem,↓reduceIte,Nat.reduceAdd,Int.reduceNeg,Int.reduceAdd,Int.reduceSub,Int.reduceMul,Int.reduceLT,Int.reduceLE,Int.reduceEq,Int.reduceToNat,Nat.reduceBEq,true_and]
  refine lp_n b.length (fun i=>[.sc (.int .i64 (i : Nat)),.sl 39 3 ((fixL b i).map encIt)]) rfl fun i hi=>?_
  have hfl : (fixL b i).length≤b.length:=by simp [fixL];omega
  simp only [u_spec_PredictWith_l1]
  simp (disch:=first | omega | (simp only [length_take,length_drop,length_append,map_cons,map_nil,length_map,length_cons,length_nil,length_set,length_replicate];omega) | (simp only [length_cons,length_nil,Nat.zero_add,Nat.reduceAdd])) only [go_sem,↓reduceIte,Nat.reduceAdd,Int.reduceNeg,Int.reduceAdd,Int.reduceSub,Int.reduceMul,Int.reduceLT,Int.reduceLE,Int.reduceEq,Int.reduceToNat,Nat.reduceBEq,true_and]
  refine br_if (fun h1=>?_) (fun h1=>?_)
  · have hlt : i < b.length:=by omega
    have hs:=fixL_succ b i hlt
    simp (disch:=first | omega | (simp only [length_take,length_drop,length_append,map_cons,map_nil,length_map,length_cons,length_nil,length_set,length_replicate];omega) | (simp only [length_cons,length_nil,Nat.zero_add,Nat.reduceAdd])) only [go_sem,↓reduceIte,Nat.reduceAdd,Int.reduceNeg,Int.reduceAdd,Int.reduceSub,Int.reduceMul,Int.reduceLT,Int.reduceLE,Int.reduceEq,Int.reduceToNat,Nat.reduceBEq,true_and]
    refine jn_eq [.sc (.bool (decide (b.getD i default = it0))),.sl 39 3 ((fixL b (i + 1)).map encIt)] ?_ ?_
    · simp (disch:=first | omega | (simp only [length_take,length_drop,length_append,map_cons,map_nil,length_map,length_cons,length_nil,length_set,length_replicate];omega) | (simp only [length_cons,length_nil,Nat.zero_add,Nat.reduceAdd])) only [go_sem,↓reduceIte,Nat.reduceAdd,Int.reduceNeg,Int.reduceAdd,Int.reduceSub,Int.reduceMul,Int.reduceLT,Int.reduceLE,Int.reduceEq,Int.reduceToNat,Nat.reduceBEq,ix_it,encIt,eq0_it]
      by_cases hz : b.getD i default = it0
      · have hi0:=mL2Num 0
        simp only [encIt] at hi0
        simp (disch:=first | omega | (simp only [length_take,length_drop,length_append,map_cons,map_nil,length_map,length_cons,length_nil,length_set,length_replicate];omega) | (simp only [length_cons,length_nil,Nat.zero_add,Nat.reduceAdd])) only [go_sem,↓reduceIte,Nat.reduceAdd,Int.reduceNeg,Int.reduceAdd,Int.reduceSub,Int.reduceMul,Int.reduceLT,Int.reduceLE,Int.reduceEq,Int.reduceToNat,Nat.reduceBEq,hz]
        refine cl_ok hi0 rfl ?_
        have hff : eFlat (some (.sl 39 3 [[.sc (.int .i64 (l2N 0).num),.sc (.int .i64 (l2N 0).den),.sc (.string (l2N 0).text)]])) = some []:=rfl
        simp (disch:=first | omega | (simp only [length_take,length_drop,length_append,map_cons,map_nil,length_map,length_cons,length_nil,length_set,length_replicate];omega) | (simp only [length_cons,length_nil,Nat.zero_add,Nat.reduceAdd])) only [go_sem,↓reduceIte,Nat.reduceAdd,Int.reduceNeg,Int.reduceAdd,Int.reduceSub,Int.reduceMul,Int.reduceLT,Int.reduceLE,Int.reduceEq,Int.reduceToNat,Nat.reduceBEq,hff]
        rw [hs,hz,List.map_append]
        unfold fixIt
        rw [if_pos rfl,intN_eq (by decide)]
        rfl
      · have hff : eFlat (some (.sl 39 3 [[.sc (.int .i64 (b.getD i default).num),.sc (.int .i64 (b.getD i default).den),.sc (.string (b.getD i default).text)]])) = some []:=rfl
        simp (disch:=first | omega | (simp only [length_take,length_drop,length_append,map_cons,map_nil,length_map,length_cons,length_nil,length_set,length_replicate];omega) | (simp only [length_cons,length_nil,Nat.zero_add,Nat.reduceAdd])) only [go_sem,↓reduceIte,Nat.reduceAdd,Int.reduceNeg,Int.reduceAdd,Int.reduceSub,Int.reduceMul,Int.reduceLT,Int.reduceLE,Int.reduceEq,Int.reduceToNat,Nat.reduceBEq,hz,ix_it,encIt,hff]
        rw [hs,List.map_append]
        unfold fixIt
        rw [if_neg hz]
        rfl
    · simp only [u_spec_PredictWith_j0]
      simp (disch:=first | omega | (simp only [length_take,length_drop,length_append,map_cons,map_nil,length_map,length_cons,length_nil,length_set,length_replicate];omega) | (simp only [length_cons,length_nil,Nat.zero_add,Nat.reduceAdd])) only [go_sem,↓reduceIte,Nat.reduceAdd,Int.reduceNeg,Int.reduceAdd,Int.reduceSub,Int.reduceMul,Int.reduceLT,Int.reduceLE,Int.reduceEq,Int.reduceToNat,Nat.reduceBEq,nat1]
      exact hlt
  · have : i = b.length:=by omega
    subst this
    have hfix : fixL b b.length = b.map fixIt:=by simp [fixL]
    simp (disch:=first | omega | (simp only [length_take,length_drop,length_append,map_cons,map_nil,length_map,length_cons,length_nil,length_set,length_replicate];omega) | (simp only [length_cons,length_nil,Nat.zero_add,Nat.reduceAdd])) only [go_sem,↓reduceIte,Nat.reduceAdd,Int.reduceNeg,Int.reduceAdd,Int.reduceSub,Int.reduceMul,Int.reduceLT,Int.reduceLE,Int.reduceEq,Int.reduceToNat,Nat.reduceBEq,hfix]
    refine cl_ok hcol rfl ?_
    simp (disch:=first | omega | (simp only [length_take,length_drop,length_append,map_cons,map_nil,length_map,length_cons,length_nil,length_set,length_replicate];omega) | (simp only [length_cons,length_nil,Nat.zero_add,Nat.reduceAdd])) only [go_sem,↓reduceIte,Nat.reduceAdd,Int.reduceNeg,Int.reduceAdd,Int.reduceSub,Int.reduceMul,Int.reduceLT,Int.reduceLE,Int.reduceEq,Int.reduceToNat,Nat.reduceBEq,true_and]
    refine cl_ok hmul rfl ?_
    cases hB2 : mulB ⟨r,b.length,l⟩ ⟨b.length,1,b.map fixIt⟩
    · simp (disch:=first | omega | (simp only [length_take,length_drop,length_append,map_cons,map_nil,length_map,length_cons,length_nil,length_set,length_replicate];omega) | (simp only [length_cons,length_nil,Nat.zero_add,Nat.reduceAdd])) only [go_sem,↓reduceIte,Nat.reduceAdd,Int.reduceNeg,Int.reduceAdd,Int.reduceSub,Int.reduceMul,Int.reduceLT,Int.reduceLE,Int.reduceEq,Int.reduceToNat,Nat.reduceBEq,Bool.false_eq_true]
      rfl
    · simp (disch:=first | omega | (simp only [length_take,length_drop,length_append,map_cons,map_nil,length_map,length_cons,length_nil,length_set,length_replicate];omega) | (simp only [length_cons,length_nil,Nat.zero_add,Nat.reduceAdd])) only [go_sem,↓reduceIte,Nat.reduceAdd,Int.reduceNeg,Int.reduceAdd,Int.reduceSub,Int.reduceMul,Int.reduceLT,Int.reduceLE,Int.reduceEq,Int.reduceToNat,Nat.reduceBEq,fl_it]
      rfl
end Go.Proofs.Ytpilbhbbdldpeaa

namespace Go.Proofs.Ytpilbhbbdldpeaa
open List (length_take length_drop length_append map_cons map_nil length_map length_cons length_nil length_set length_replicate)
open Go.RowKit
set_option maxRecDepth 100000
theorem opD_U8s : OpD (fun l=>[encU8s l]) (fun l=>l.length≤9223372036854775807∧∀ n ∈ l,0≤n∧n < 256) Try.prog 22:=opD_slice (e:=encU8) 5 Try.underlying22 (by kernel_rfl) (by decide) (fun _=>rfl) (opD_u8 Try.underlying5)
theorem big_m (l : List Int) (hl : l.length≤9223372036854775807) : Meets Try.prog 4 [(false,[encU8s l])] [(false,[.sc (.bool (decide (1048576 < l.length)))],true)]:=by
  refine meets_upf Try.func4 u_laws_big_g rfl ?_;simp only [u_laws_big_u]
  simp only [encU8s]
  simp (disch:=first | omega | (simp only [length_take,length_drop,length_append,map_cons,map_nil,length_map,length_cons,length_nil,length_set,length_replicate];omega) | (simp only [length_cons,length_nil,Nat.zero_add,Nat.reduceAdd])) only [go_sem,↓reduceIte,Nat.reduceAdd,Int.reduceNeg,Int.reduceAdd,Int.reduceSub,Int.reduceMul,Int.reduceLT,Int.reduceLE,Int.reduceEq,Int.reduceToNat,Nat.reduceBEq,nat1,true_and]
  exact ret_b (by rw [decide_eq_decide];omega)
theorem ne_it (x y : It) : eEqS true [.i,.i,.s] (some [.sc (.int .i64 x.num),.sc (.int .i64 x.den),.sc (.string x.text)]) (some [.sc (.int .i64 y.num),.sc (.int .i64 y.den),.sc (.string y.text)]) = some [.sc (.bool (!decide (x = y)))]:=e_neS (eq_it x y)
theorem sameIts_m (t : Nat) (a b : List It) (hl : a.length≤1000000) : Meets Try.prog 8 [(false,[.sl t 3 (a.map encIt)]),(false,[.sl t 3 (b.map encIt)])] [(false,[.sc (.bool (decide (a = b)))],true)]:=by
  refine meets_upf Try.func8 u_laws_sameItems_g rfl ?_;simp only [u_laws_sameItems_u]
  simp (disch:=first | omega | (simp only [length_take,length_drop,length_append,map_cons,map_nil,length_map,length_cons,length_nil,length_set,length_replicate];omega) | (simp only [length_cons,length_nil,Nat.zero_add,Nat.reduceAdd])) only [go_sem,↓reduceIte,Nat.reduceAdd,Int.reduceNeg,Int.reduceAdd,Int.reduceSub,Int.reduceMul,Int.reduceLT,Int.reduceLE,Int.reduceEq,Int.reduceToNat,Nat.reduceBEq,nat1,true_and]
  refine br_ifn (fun hbr=>?_) (fun hbr=>?_)
  rotate_left
  · simp (disch:=first | omega | (simp only [length_take,length_drop,length_append,map_cons,map_nil,length_map,length_cons,length_nil,length_set,length_replicate];omega) | (simp only [length_cons,length_nil,Nat.zero_add,Nat.reduceAdd])) only [go_sem,↓reduceIte,Nat.reduceAdd,Int.reduceNeg,Int.reduceAdd,Int.reduceSub,Int.reduceMul,Int.reduceLT,Int.reduceLE,Int.reduceEq,Int.reduceToNat,Nat.reduceBEq,nat1,true_and]
    exact ret_b (decide_eq_false (fun h=>hbr (by rw [h])))
  simp (disch:=first | omega | (simp only [length_take,length_drop,length_append,map_cons,map_nil,length_map,length_cons,length_nil,length_set,length_replicate];omega) | (simp only [length_cons,length_nil,Nat.zero_add,Nat.reduceAdd])) only [go_sem,↓reduceIte,Nat.reduceAdd,Int.reduceNeg,Int.reduceAdd,Int.reduceSub,Int.reduceMul,Int.reduceLT,Int.reduceLE,Int.reduceEq,Int.reduceToNat,Nat.reduceBEq,nat1,true_and]
  refine lp (fun i : Nat=>[.sc (.int .i64 i)]) (fun i=>i≤a.length∧a.take i = b.take i) (fun i=>a.length - i) 0 rfl ⟨Nat.zero_le _,rfl⟩ ?_
  rintro i ⟨h1,h2⟩
  simp only [u_laws_sameItems_l0]
  simp (disch:=first | omega | (simp only [length_take,length_drop,length_append,map_cons,map_nil,length_map,length_cons,length_nil,length_set,length_replicate];omega) | (simp only [length_cons,length_nil,Nat.zero_add,Nat.reduceAdd])) only [go_sem,↓reduceIte,Nat.reduceAdd,Int.reduceNeg,Int.reduceAdd,Int.reduceSub,Int.reduceMul,Int.reduceLT,Int.reduceLE,Int.reduceEq,Int.reduceToNat,Nat.reduceBEq,nat1,true_and]
  refine br_if (fun hlt=>?_) (fun hlt=>?_)
  · simp (disch:=first | omega | (simp only [length_take,length_drop,length_append,map_cons,map_nil,length_map,length_cons,length_nil,length_set,length_replicate];omega) | (simp only [length_cons,length_nil,Nat.zero_add,Nat.reduceAdd])) only [go_sem,↓reduceIte,Nat.reduceAdd,Int.reduceNeg,Int.reduceAdd,Int.reduceSub,Int.reduceMul,Int.reduceLT,Int.reduceLE,Int.reduceEq,Int.reduceToNat,Nat.reduceBEq,nat1,ix_it,encIt,ne_it]
    have k1:=List.take_succ_eq_append_getElem (l:=a) (i:=i) (by omega)
    have k2:=List.take_succ_eq_append_getElem (l:=b) (i:=i) (by omega)
    have e1 : a.getD i default = a[i]:=by rw [List.getD_eq_getElem?_getD,List.getElem?_eq_getElem];rfl
    have e2 : b.getD i default = b[i]:=by rw [List.getD_eq_getElem?_getD,List.getElem?_eq_getElem];rfl
    refine br_ifn (fun hb2=>?_) (fun hb2=>?_)
    · simp (disch:=first | omega | (simp only [length_take,length_drop,length_append,map_cons,map_nil,length_map,length_cons,length_nil,length_set,length_replicate];omega) | (simp only [length_cons,length_nil,Nat.zero_add,Nat.reduceAdd])) only [go_sem,↓reduceIte,Nat.reduceAdd,Int.reduceNeg,Int.reduceAdd,Int.reduceSub,Int.reduceMul,Int.reduceLT,Int.reduceLE,Int.reduceEq,Int.reduceToNat,Nat.reduceBEq,nat1,nat1]
      exact ⟨i + 1,rfl,⟨by omega,by rw [k1,k2,h2,← e1,← e2,hb2]⟩,by omega⟩
    · simp (disch:=first | omega | (simp only [length_take,length_drop,length_append,map_cons,map_nil,length_map,length_cons,length_nil,length_set,length_replicate];omega) | (simp only [length_cons,length_nil,Nat.zero_add,Nat.reduceAdd])) only [go_sem,↓reduceIte,Nat.reduceAdd,Int.reduceNeg,Int.reduceAdd,Int.reduceSub,Int.reduceMul,Int.reduceLT,Int.reduceLE,Int.reduceEq,Int.reduceToNat,Nat.reduceBEq,nat1,true_and]
      exact ret_b (decide_eq_false (fun h=>hb2 (by rw [h])))
  · simp (disch:=first | omega | (simp only [length_take,length_drop,length_append,map_cons,map_nil,length_map,length_cons,length_nil,length_set,length_replicate];omega) | (simp only [length_cons,length_nil,Nat.zero_add,Nat.reduceAdd])) only [go_sem,↓reduceIte,Nat.reduceAdd,Int.reduceNeg,Int.reduceAdd,Int.reduceSub,Int.reduceMul,Int.reduceLT,Int.reduceLE,Int.reduceEq,Int.reduceToNat,Nat.reduceBEq,nat1,true_and]
    obtain rfl : i = a.length:=by omega
    rw [List.take_length,List.take_of_length_le (by omega)] at h2
    exact ret_b (decide_eq_true h2)
end Go.Proofs.Ytpilbhbbdldpeaa

namespace Go.Proofs.Ytpilbhbbdldpeaa
open Go.RowKit
set_option maxRecDepth 100000
def u_spec_l14Any_h : List Hint:=[]
def u_spec_l14Any_d : List (Nat × Nat × Bool × List Nat):=[]
def u_spec_l14Any_u : UP:=.po (.k (.int .i64 0)) <| .po (.k (.int .i64 0)) <| .po (.k (.int .i64 5)) <| .cl 2000051 [(false,[3]),(false,[0])] [(false,[none],true),(false,[some (66,0)],true)] <| .po (.k (.int .i64 5)) <| .sel [0,1,2] <| .cl 2000051 [(false,[1]),(false,[0])] [(false,[none],true),(false,[some (66,0)],true)] <| .po (.sc 4) <| .po (.sc 4) <| .po (.sc 4) <| .po (.sc 1) <| .po (.mk 3 1 [[4],[4],[4],[1]]) <| .cl 2000063 [(false,[1]),(false,[0])] [(false,[none],true),(false,[some (66,0)],true)] <| .sel [0,1,7] <| .cl 2000050 [(false,[0]),(false,[2]),(false,[1])] [(true,[none,none,some (39,3)],true),(false,[some (66,0)],true)] <| .po (.k (.int .i64 0)) <| .po (.k (.int .i64 0)) <| .po (.k (.int .i64 20)) <| .sel [0,3,4,5,6] <| .cl 2000051 [(false,[1]),(false,[0])] [(false,[none],true),(false,[some (66,0)],true)] <| .po (.k (.int .i64 0)) <| .po (.bin .eql false 2 0) <| .ite 0 (.po (.k (.int .i64 13)) <| .po (.k (.int .i64 (-1))) <| .po (.k (.int .i64 2)) <| .po (.sc 2) <| .po (.sc 1) <| .po (.sc 0) <| .po (.mk 3 1 [[2],[1],[0]]) <| .sel [0,6,10,11] <| .cl 2000063 [(false,[1]),(false,[0])] [(false,[none],true),(false,[some (66,0)],true)] <| .po (.sc 1) <| .po (.sc 5) <| .ret [(false,[0]),(true,[1,5,4])]) <| .po (.k (.int .i64 1)) <| .po (.bin .eql false 4 0) <| .ite 0 (.po (.k (.int .i64 0)) <| .po (.k (.int .i64 0)) <| .po (.k (.string ⟨#[]⟩)) <| .po (.sc 2) <| .po (.sc 1) <| .po (.sc 0) <| .po (.mk 39 3 [[2,1,0]]) <| .po (.flat 0) <| .po (.app 39 3 32 12 0) <| .po (.sc 15) <| .po (.sc 14) <| .ret [(false,[9]),(true,[15,14,0])]) <| .po (.sc 10) <| .po (.sc 9) <| .ret [(false,[4]),(true,[10,9,8])]
theorem u_spec_l14Any_g : toUPcf Try.prog 49 Try.f49 owA u_spec_l14Any_h u_spec_l14Any_d 66 = some ([],u_spec_l14Any_u):=by kernel_rfl
def u_spec_l14Draw_h : List Hint:=[⟨3000012,3,⟨[(10,.p false [.d 17]),(18,.p false [.d 15]),(8,.p false [.d 11]),(7,.p false [.ptr 2 2 0]),(6,.p false [.ptr 1 1 0]),(0,.p false [.own 0 0]),(1,.p false [.d 1]),(2,.p false [.d 2])],[(0,.cur 0 true 66 18),(1,.var 1 26 [.d 3,.d 4,.nil]),(2,.var 2 26 [.d 1,.d 2,.own 3 3]),(3,.row 3 39 3 19)],4,4,20,[(15,false)]⟩,[]⟩,⟨2000001,7,⟨[(31,.p false [.d 16]),(26,.p false [.d 17]),(9,.p false [.ptr 4 3 0]),(18,.p false [.d 15]),(8,.p false [.d 11]),(7,.p false [.ptr 2 2 0]),(6,.p false [.ptr 1 1 0]),(0,.p false [.own 0 0]),(1,.p false [.d 1]),(2,.p false [.d 2])],[(0,.cur 0 true 66 18),(1,.var 1 26 [.d 3,.d 4,.nil]),(2,.var 2 26 [.d 1,.d 2,.own 3 4]),(3,.row 4 39 3 19),(4,.var 3 39 [.d 20,.d 21,.d 22])],5,5,23,[(15,true)]⟩,[]⟩,⟨1000007,4,⟨[(26,.p false [.d 28]),(9,.p false [.ptr 4 4 0]),(18,.p false [.d 15]),(8,.p false [.d 11]),(7,.p false [.ptr 2 2 0]),(6,.p false [.ptr 1 1 0]),(0,.p false [.own 0 0]),(1,.p false [.d 1]),(2,.p false [.d 2])],[(0,.cur 0 true 66 30),(1,.var 1 26 [.d 3,.d 4,.nil]),(2,.var 2 26 [.d 1,.d 2,.own 3 3]),(3,.row 3 39 3 13),(4,.var 4 39 [.d 31,.d 32,.d 33])],5,5,34,[(15,true)]⟩,[]⟩,⟨3000003,3,⟨[(8,.p false [.d 11]),(7,.p false [.ptr 2 2 0]),(6,.p false [.ptr 1 1 0]),(0,.p false [.own 0 0]),(1,.p false [.d 1]),(2,.p false [.d 2])],[(0,.cur 0 true 66 12),(1,.var 1 26 [.d 3,.d 4,.nil]),(2,.var 2 26 [.d 1,.d 2,.own 3 3]),(3,.row 3 39 3 13)],4,4,14,[]⟩,[⟨false,2,2,39,3⟩]⟩]
def u_spec_l14Draw_d : List (Nat × Nat × Bool × List Nat):=[(14,14,false,[])]
def u_spec_l14Draw_j0 : UP:=.po (.k (.int .i64 0)) <| .po (.bin .eql false 2 0) <| .ite 0 (.po (.k (.int .i64 0)) <| .sel [0,1,6,8,14] <| .cl 44 [(false,[0])] [(true,[none,none,none],true)] <| .po (.sc 2) <| .po (.sc 1) <| .po (.sc 0) <| .po (.mk 39 3 [[2,1,0]]) <| .po (.flat 0) <| .po (.app 39 3 32 8 0) <| .jump 1 [6,8,7,0,4,3,2]) <| .po (.sc 4) <| .po (.sc 3) <| .po (.sc 2) <| .po (.mk 39 3 [[4,3,2]]) <| .po (.flat 0) <| .po (.app 39 3 32 14 0) <| .jump 1 [2,9,7,0,6,5,4]
def u_spec_l14Draw_j1 : UP:=.po (.k (.int .i64 1)) <| .po (.bin .add false 10 0) <| .jump 0 [0,6,5]
def u_spec_l14Draw_l2 : UP:=.po (.k (.int .i64 1)) <| .po (.bin .gtr false 8 0) <| .ite 0 (.po (.k (.int .i64 3)) <| .sel [0,3,4,5,9,10] <| .cl 2000048 [(false,[2]),(false,[0])] [(false,[none],true),(false,[some (66,0)],true)] <| .ite 1 (.po (.bin .lss false 5 6) <| .ite 0 (.po (.k (.int .i64 1)) <| .po (.bin .sub false 9 0) <| .po (.sc 0) <| .po (.bin .mul false 0 9) <| .po (.sc 0) <| .po (.bin .add false 0 9) <| .po (.sc 0) <| .po (.isI 10) <| .po (.chk 3 8 10) <| .po (.idx 3 8 10) <| .po (.sc 2) <| .po (.sc 1) <| .po (.sc 0) <| .po (.isI 3) <| .po (.chk 3 11 3) <| .po (.sc 2) <| .po (.sc 1) <| .po (.sc 0) <| .po (.set 3 11 3 0 [2,1,0]) <| .po (.k (.int .i64 1)) <| .po (.bin .add false 15 0) <| .jump 1 [0,11,2]) <| .po (.sc 8) <| .po (.sc 7) <| .ret [(false,[1]),(true,[8,7,4])]) <| .po (.k (.bool false)) <| .po (.sc 8) <| .po (.sc 7) <| .ret [(false,[1]),(true,[8,7,4])]) <| .po (.k (.bool false)) <| .po (.k (.bool false)) <| .po (.sc 11) <| .po (.sc 10) <| .ret [(false,[5]),(true,[11,10,4])]
def u_spec_l14Draw_l3 : UP:=.po (.bin .mul false 6 5) <| .po (.bin .lss false 3 0) <| .ite 0 (.sel [2,3,4] <| .join 7 u_spec_l14Draw_j1 <| .po (.k (.int .i64 7)) <| .cl 2000051 [(false,[2]),(false,[0])] [(false,[none],true),(false,[some (66,0)],true)] <| .po (.k (.int .i64 2)) <| .po (.bin .sub false 2 0) <| .sel [0,2,5] <| .cl 44 [(false,[0])] [(true,[none,none,none],true)] <| .po (.k (.int .i64 0)) <| .po (.k (.int .i64 0)) <| .po (.k (.string ⟨#[]⟩)) <| .po (.k (.int .i64 9)) <| .sel [0,4,5,6,8,9] <| .cl 2000048 [(false,[4]),(false,[0])] [(false,[none],true),(false,[some (66,0)],true)] <| .join 4 u_spec_l14Draw_j0 <| .ite 1 (.sel [0] <| .cl 2000052 [(false,[0])] [(true,[none,none,none],true),(false,[some (66,0)],true)] <| .jump 2 [0,3,2,1]) <| .jump 2 [0,5,4,3]) <| .po (.k (.int .i64 0)) <| .sel [0,3,4,8,9] <| .loop [0,2,1] u_spec_l14Draw_l2
def u_spec_l14Draw_u : UP:=.po (.k (.int .i64 0)) <| .po (.k (.int .i64 0)) <| .po (.k (.int .i64 0)) <| .po (.k (.int .i64 0)) <| .po (.k (.int .i64 0)) <| .po (.k (.int .i64 0)) <| .po (.k (.int .i64 0)) <| .po (.e 39 3) <| .sel [0,1,8,9,10] <| .loop [1,4,0] u_spec_l14Draw_l3
theorem u_spec_l14Draw_g : toUPcf Try.prog 50 Try.f50 owA u_spec_l14Draw_h u_spec_l14Draw_d 66 = some ([(false,1),(false,1)],u_spec_l14Draw_u):=by kernel_rfl
def u_spec_l2Draw_h : List Hint:=[]
def u_spec_l2Draw_d : List (Nat × Nat × Bool × List Nat):=[]
def u_spec_l2Draw_u : UP:=.po (.k (.int .i64 0)) <| .po (.k (.int .i64 0)) <| .po (.k (.string ⟨#[]⟩)) <| .po (.k (.int .i64 12)) <| .cl 2000051 [(false,[4]),(false,[0])] [(false,[none],true),(false,[some (66,0)],true)] <| .po (.k (.int .i64 0)) <| .po (.bin .eql false 2 0) <| .ite 0 (.po (.k (.int .i64 0)) <| .po (.k (.int .i64 0)) <| .po (.k (.string ⟨#[]⟩)) <| .po (.sc 2) <| .po (.sc 1) <| .po (.sc 0) <| .ret [(false,[5]),(true,[2,1,0])]) <| .po (.k (.int .i64 1)) <| .po (.bin .eql false 4 0) <| .ite 0 (.po (.k (.int .i64 13)) <| .sel [0,5] <| .cl 2000051 [(false,[1]),(false,[0])] [(false,[none],true),(false,[some (66,0)],true)] <| .po (.k (.int .i64 6)) <| .po (.bin .sub false 2 0) <| .po (.k (.int .i64 6)) <| .sel [0,1,3] <| .cl 2000051 [(false,[2]),(false,[0])] [(false,[none],true),(false,[some (66,0)],true)] <| .po (.k (.int .i64 1)) <| .po (.bin .add false 0 2) <| .sel [0,2,5] <| .cl 61 [(false,[2]),(false,[0])] [(true,[none,none,none],true)] <| .po (.sc 2) <| .po (.sc 1) <| .po (.sc 0) <| .ret [(false,[4]),(true,[2,1,0])]) <| .po (.k (.int .i64 2)) <| .po (.bin .eql false 6 0) <| .ite 0 (.po (.k (.int .i64 13)) <| .sel [0,7] <| .cl 2000051 [(false,[1]),(false,[0])] [(false,[none],true),(false,[some (66,0)],true)] <| .po (.k (.int .i64 6)) <| .po (.bin .sub false 2 0) <| .po (.k (.int .i64 6)) <| .sel [0,1,3] <| .cl 2000051 [(false,[2]),(false,[0])] [(false,[none],true),(false,[some (66,0)],true)] <| .po (.k (.int .i64 1)) <| .po (.bin .add false 0 2) <| .sel [0,2,5] <| .cl 61 [(false,[2]),(false,[0])] [(true,[none,none,none],true)] <| .po (.sc 2) <| .po (.sc 1) <| .po (.sc 0) <| .ret [(false,[4]),(true,[2,1,0])]) <| .po (.k (.int .i64 3)) <| .po (.bin .eql false 8 0) <| .ite 0 (.po (.k (.int .i64 999999999)) <| .po (.k (.int .i64 (-999999999))) <| .po (.k (.int .i64 999999998)) <| .po (.k (.int .i64 65537)) <| .po (.k (.int .i64 100000)) <| .po (.sc 4) <| .po (.sc 3) <| .po (.sc 2) <| .po (.sc 1) <| .po (.sc 0) <| .po (.mk 3 1 [[4],[3],[2],[1],[0]]) <| .sel [0,14] <| .cl 2000063 [(false,[1]),(false,[0])] [(false,[none],true),(false,[some (66,0)],true)] <| .po (.k (.int .i64 1)) <| .po (.k (.int .i64 1)) <| .po (.k (.int .i64 999999999)) <| .po (.k (.int .i64 999999937)) <| .po (.k (.int .i64 2)) <| .po (.sc 4) <| .po (.sc 3) <| .po (.sc 2) <| .po (.sc 1) <| .po (.sc 0) <| .po (.mk 3 1 [[4],[3],[2],[1],[0]]) <| .sel [0,6,7] <| .cl 2000063 [(false,[1]),(false,[0])] [(false,[none],true),(false,[some (66,0)],true)] <| .cl 61 [(false,[4]),(false,[1])] [(true,[none,none,none],true)] <| .po (.sc 2) <| .po (.sc 1) <| .po (.sc 0) <| .ret [(false,[3]),(true,[2,1,0])]) <| .po (.k (.int .i64 12)) <| .sel [0,9] <| .cl 2000051 [(false,[1]),(false,[0])] [(false,[none],true),(false,[some (66,0)],true)] <| .po (.k (.int .i64 3)) <| .po (.bin .sub false 2 0) <| .sel [0,2] <| .cl 44 [(false,[0])] [(true,[none,none,none],true)] <| .po (.sc 2) <| .po (.sc 1) <| .po (.sc 0) <| .ret [(false,[4]),(true,[2,1,0])]
theorem u_spec_l2Draw_g : toUPcf Try.prog 52 Try.f52 owA u_spec_l2Draw_h u_spec_l2Draw_d 66 = some ([],u_spec_l2Draw_u):=by kernel_rfl
end Go.Proofs.Ytpilbhbbdldpeaa

namespace Go.Proofs.Ytpilbhbbdldpeaa
open Go.RowKit
def wfU : UP→List Nat→Bool
  | .po _ k,A=>wfU k A
  | .cl _ _ _ k,A=>wfU k A
  | .mk _ _ _ _ k,A=>wfU k A
  | .ite _ a b,A=>wfU a A && wfU b A
  | .jump l xs,A=>decide (A[l]? = some xs.length)
  | .join n rest k,A=>wfU rest A && wfU k (A ++ [n])
  | .loop xs body,A=>wfU body (A ++ [xs.length])
  | .ret _,A=>true
  | .sel _ k,A=>wfU k A
section
variable {P : Program}
abbrev OutU:=Sum (List (Bool × List DV)) (Nat × List DV)
def lbU (o : OutU) (n : Nat) : Lbl:=(List.range n).map fun l vs=>o = .inr (l,vs)
theorem lbU_succ {o : OutU} {n : Nat} : lbU o (n + 1) = lbU o n ++ [fun vs=>o = .inr (n,vs)]:=by unfold lbU;rw [List.range_succ,List.map_append];rfl
theorem lbU_get {o : OutU} {n l : Nat} (h : l < n) : (lbU o n)[l]? = some fun vs=>o = .inr (l,vs):=by unfold lbU;rw [List.getElem?_map,List.getElem?_range h];rfl
theorem lbU_len {o : OutU} {n : Nat} : (lbU o n).length = n:=by simp [lbU]
theorem lbU_last {o : OutU} {n : Nat} {J : List DV→Prop} : (lbU o n ++ [J])[n]? = some J:=by have:=List.getElem?_concat_length (l:=lbU o n) (a:=J);rwa [lbU_len] at this
theorem v_monoR : ∀ (up : UP) {R R' : List (Bool × List DV)→Prop} {L L' : Lbl} {ρ : List DV},(∀ r,R r→R' r)→LLe L L'→L.length = L'.length→V P R up L ρ→V P R' up L' ρ:=by
  intro up
  induction up with
  | po o k ih=>intro R R' L L' ρ hR h hl hv;rw [v_po] at hv ⊢;cases he : evalP ρ o with
    | none=>rw [he] at hv;exact hv
    | some out=>rw [he] at hv;exact ih hR h hl hv
  | cl f ar sh k ih=>intro R R' L L' ρ hR h hl hv;obtain ⟨ys,res,h1,h2,h3,h4⟩:=hv;exact ⟨ys,res,h1,h2,h3,ih hR h hl h4⟩
  | mk f b xs j k ih=>intro R R' L L' ρ hR h hl hv;obtain ⟨ds,ds',n,n',h1,h2,h3,h4,h5⟩:=hv;exact ⟨ds,ds',n,n',h1,h2,h3,h4,ih hR h hl h5⟩
  | ite x a b iha ihb =>
    intro R R' L L' ρ hR h hl hv
    simp only [V] at hv ⊢
    split at hv
    · rename_i c hc
      cases c with
      | true=>exact iha hR h hl hv
      | false=>exact ihb hR h hl hv
    · exact hv.elim
  | jump l xs=>intro R R' L L' ρ hR h hl hv;obtain ⟨J,vs,h1,h2,h3⟩:=hv;obtain ⟨J',h4,h5⟩:=h l J h1;exact ⟨J',vs,h4,h2,h5 vs h3⟩
  | join n rest k ihr ihk=>intro R R' L L' ρ hR h hl hv;obtain ⟨J,h1,h2⟩:=hv;exact ⟨J,fun vs a b=>ihr hR h hl (h1 vs a b),ihk hR (h.snoc hl fun _ h=>h) (by simp [hl]) h2⟩
  | loop xs body ih=>intro R R' L L' ρ hR h hl hv;obtain ⟨I,m,vs,h1,h2,h3⟩:=hv;exact ⟨I,m,vs,h1,h2,fun vs m a b=>ih hR (h.snoc hl fun _ h=>h) (by simp [hl]) (h3 vs m a b)⟩
  | ret xs=>intro R R' L L' ρ hR h hl hv;obtain ⟨vs,h1,h2⟩:=hv;exact ⟨vs,h1,hR _ h2⟩
  | sel xs k ih=>intro R R' L L' ρ hR h hl hv;rw [v_sel] at hv ⊢;cases he : gL ρ xs with
    | none=>rw [he] at hv;exact hv
    | some out=>rw [he] at hv;exact ih hR h hl hv
theorem lbU_le {o : OutU} {n : Nat} {L : Lbl} (hl : L.length = n) (h : ∀ l vs,o = .inr (l,vs)→l < n→∃ J,L[l]? = some J∧J vs) : LLe (lbU o n) L:=by
  intro l J hJ
  have hlt : l < n:=by have:=(List.getElem?_eq_some_iff.1 hJ).1;rw [lbU_len] at this;exact this
  rw [lbU_get hlt] at hJ
  injection hJ with hJ
  subst hJ
  cases hL : L[l]? with
  | none=>rw [List.getElem?_eq_none_iff] at hL;omega
  | some J'=>exact ⟨J',rfl,fun vs ho=>by obtain ⟨J2,h1,h2⟩:=h l vs ho hlt;rw [hL] at h1;injection h1 with h1;exact h1 ▸ h2⟩
def okO (R : List (Bool × List DV)→Prop) (L : Lbl) (A : List Nat) : OutU→Prop
  | .inl r=>R r
  | .inr (l,vs)=>A[l]? = some vs.length∧∃ J,L[l]? = some J∧J vs
theorem gL_len : ∀ {ρ : List DV} {xs : List Nat} {vs : List DV},gL ρ xs = some vs→vs.length = xs.length
  | ρ,[],vs,h=>by simp only [gL] at h;injection h with h;subst h;rfl
  | ρ,x :: xs,vs,h=>by
    simp only [gL] at h
    split at h
    · rename_i a b h1 h2
      injection h with h;subst h
      simp only [List.length_cons,gL_len h2]
    · cases h
theorem v_det : ∀ (up : UP) {R : List (Bool × List DV)→Prop} {L : Lbl} {A : List Nat} {ρ : List DV},wfU up A = true→A.length = L.length→V P R up L ρ→∃ o,okO R L A o∧V P (fun r=>o = .inl r) up (lbU o L.length) ρ:=by
  intro up
  induction up with
  | po o k ih =>
    intro R L A ρ hw hA hv
    rw [v_po] at hv
    cases he : evalP ρ o with
    | none=>rw [he] at hv;exact hv.elim
    | some out =>
      rw [he] at hv
      obtain ⟨q,h1,h2⟩:=ih hw hA hv
      exact ⟨q,h1,by rw [v_po,he];exact h2⟩
  | cl f ar sh k ih =>
    intro R L A ρ hw hA hv
    obtain ⟨ys,res,h1,h2,h3,h4⟩:=hv
    obtain ⟨q,g1,g2⟩:=ih hw hA h4
    exact ⟨q,g1,ys,res,h1,h2,h3,g2⟩
  | mk f b xs j k ih =>
    intro R L A ρ hw hA hv
    obtain ⟨ds,ds',n,n',h1,h2,h3,h4,h5⟩:=hv
    obtain ⟨q,g1,g2⟩:=ih hw hA h5
    exact ⟨q,g1,ds,ds',n,n',h1,h2,h3,h4,g2⟩
  | ite x a b iha ihb =>
    intro R L A ρ hw hA hv
    simp only [wfU,Bool.and_eq_true] at hw
    simp only [V] at hv ⊢
    split at hv
    · rename_i c hc
      cases c with
      | true=>exact iha hw.1 hA hv
      | false=>exact ihb hw.2 hA hv
    · exact hv.elim
  | jump l xs =>
    intro R L A ρ hw hA hv
    obtain ⟨J,vs,h1,h2,h3⟩:=hv
    simp only [wfU,decide_eq_true_eq] at hw
    exact ⟨.inr (l,vs),⟨by rw [hw,gL_len h2],J,h1,h3⟩,_,vs,lbU_get (List.getElem?_eq_some_iff.1 h1).1,h2,rfl⟩
  | join n rest k ihr ihk =>
    intro R L A ρ hw hA hv
    simp only [wfU,Bool.and_eq_true] at hw
    obtain ⟨J,h1,h2⟩:=hv
    obtain ⟨o1,g1,g2⟩:=ihk hw.2 (by simp [hA]) h2
    simp only [List.length_append,List.length_singleton] at g2
    have other : (∀ vs,o1 ≠ .inr (L.length,vs))→okO R L A o1→∃ o,okO R L A o∧V P (fun r=>o = .inl r) (.join n rest k) (lbU o L.length) ρ:=fun hne hok =>
      ⟨o1,hok,fun vs=>o1 = .inr (L.length,vs),fun vs _ he=>absurd he (hne vs),by rw [← lbU_succ];exact g2⟩
    cases o1 with
    | inl r=>exact other (fun vs h=>by cases h) g1
    | inr p =>
      obtain ⟨l,vs⟩:=p
      obtain ⟨q1,J',q2,q3⟩:=g1
      have hl : l < L.length + 1:=by have:=(List.getElem?_eq_some_iff.1 q2).1;simpa using this
      rcases Nat.lt_or_ge l L.length with hlt | hge
      · rw [List.getElem?_append_left (by omega)] at q1
        rw [List.getElem?_append_left hlt] at q2
        exact other (fun vs' h=>by injection h with h;injection h with h _;omega) ⟨q1,J',q2,q3⟩
      · obtain rfl : l = L.length:=by omega
        rw [← hA,List.getElem?_concat_length] at q1
        injection q1 with q1
        rw [List.getElem?_concat_length] at q2
        injection q2 with q2
        subst q2
        obtain ⟨o2,p1,p2⟩:=ihr hw.1 hA (h1 vs q1.symm q3)
        refine ⟨o2,p1,(· = vs),fun vs' _ he=>he ▸ p2,v_monoR k (fun r h=>by cases h) (lbU_le (by simp [lbU_len]) fun l' vs' h hlt=>?_) (by simp [lbU_len]) g2⟩
        injection h with h;injection h with h h'
        subst h h'
        exact ⟨_,lbU_last,rfl⟩
  | loop xs body ih =>
    intro R L A ρ hw hA hv
    simp only [wfU] at hw
    obtain ⟨I,m,vs,h1,h2,h3⟩:=hv
    have key : ∀ m vs,vs.length = xs.length→I vs m→∃ o,okO R L A o∧∃ I' : List DV→Nat→Prop,I' vs m∧∀ vs' m',vs'.length = xs.length→I' vs' m'→V P (fun r=>o = .inl r) body (lbU o L.length ++ [fun v=>∃ m'',m'' < m'∧I' v m'']) (psh vs' ρ):=by
      intro m
      induction m using Nat.strongRecOn with
      | ind m ihm =>
        intro vs hlen hI
        obtain ⟨o1,g1,g2⟩:=ih hw (by simp [hA]) (h3 vs m hlen hI)
        simp only [List.length_append,List.length_singleton] at g2
        have other : (∀ vs,o1 ≠ .inr (L.length,vs))→okO R L A o1→∃ o,okO R L A o∧∃ I' : List DV→Nat→Prop,I' vs m∧∀ vs' m',vs'.length = xs.length→I' vs' m'→V P (fun r=>o = .inl r) body (lbU o L.length ++ [fun v=>∃ m'',m'' < m'∧I' v m'']) (psh vs' ρ):=fun hne hok=>by
          refine ⟨o1,hok,fun v k=>v = vs∧k = m,⟨rfl,rfl⟩,?_⟩
          rintro _ _ _ ⟨rfl,rfl⟩
          refine v_monoR body (fun r h=>h) ?_ (by simp [lbU_len]) g2
          rw [lbU_succ]
          exact LLe.snoc (fun l J h=>⟨J,h,fun _ h=>h⟩) rfl (fun v he=>absurd he (hne v))
        cases o1 with
        | inl r=>exact other (fun vs h=>by cases h) g1
        | inr p =>
          obtain ⟨l,vs1⟩:=p
          obtain ⟨q1,J',q2,q3⟩:=g1
          have hl : l < L.length + 1:=by have:=(List.getElem?_eq_some_iff.1 q2).1;simpa using this
          rcases Nat.lt_or_ge l L.length with hlt | hge
          · rw [List.getElem?_append_left (by omega)] at q1
            rw [List.getElem?_append_left hlt] at q2
            exact other (fun vs' h=>by injection h with h;injection h with h _;omega) ⟨q1,J',q2,q3⟩
          · obtain rfl : l = L.length:=by omega
            rw [← hA,List.getElem?_concat_length] at q1
            injection q1 with q1
            rw [List.getElem?_concat_length] at q2
            injection q2 with q2
            subst q2
            obtain ⟨m1,k1,k2⟩:=q3
            obtain ⟨o,r1,I1,r2,r3⟩:=ihm m1 k1 vs1 q1.symm k2
            refine ⟨o,r1,fun v k=>(v = vs∧k = m) ∨ (k < m∧I1 v k),.inl ⟨rfl,rfl⟩,?_⟩
            rintro v k hv (⟨rfl,rfl⟩ | ⟨hk,hI1⟩)
            · refine v_monoR body (fun r h=>by cases h) (lbU_le (by simp [lbU_len]) fun l' vs' h hlt=>?_) (by simp [lbU_len]) g2
              injection h with h;injection h with h h'
              subst h h'
              exact ⟨_,lbU_last,m1,k1,.inr ⟨k1,r2⟩⟩
            · refine v_monoR body (fun r h=>h) (LLe.snoc (fun l J h=>⟨J,h,fun _ h=>h⟩) rfl ?_) (by simp) (r3 v k hv hI1)
              rintro w ⟨m'',x1,x2⟩
              exact ⟨m'',x1,.inr ⟨by omega,x2⟩⟩
    obtain ⟨o,r1,I',r2,r3⟩:=key m vs (gL_len h1) h2
    exact ⟨o,r1,I',m,vs,h1,r2,r3⟩
  | ret xs =>
    intro R L A ρ hw hA hv
    obtain ⟨vs,h1,h2⟩:=hv
    exact ⟨.inl vs,h2,vs,h1,rfl⟩
  | sel xs k ih =>
    intro R L A ρ hw hA hv
    rw [v_sel] at hv
    cases he : gL ρ xs with
    | none=>rw [he] at hv;exact hv.elim
    | some out =>
      rw [he] at hv
      obtain ⟨q,h1,h2⟩:=ih hw hA hv
      exact ⟨q,h1,by rw [v_sel,he];exact h2⟩
theorem v_one {α : Type} {up : UP} {ρ : List DV} {R : α→List (Bool × List DV)→Prop} {Q : α→Prop} (hw : wfU up [] = true) (h : V P (fun vs=>∃ a,Q a∧R a vs) up [] ρ) : ∃ a,Q a∧V P (R a) up [] ρ:=by
  obtain ⟨o,h1,h2⟩:=v_det up hw rfl h
  cases o with
  | inl r =>
    obtain ⟨a,q1,q2⟩:=h1
    exact ⟨a,q1,v_monoR up (fun r' he=>by injection he with he;exact he ▸ q2) (fun l J h=>by simp [lbU] at h) rfl h2⟩
  | inr p=>obtain ⟨_,J,hJ,_⟩:=h1;simp at hJ
theorem meets_ex {α : Type} {ow : OwK} {hs : List Hint} {dn : List (Nat × Nat × Bool × List Nat)} {f : FuncId} {fn : Func} {args : List (Bool × List DV)} {res : α→List Rs} {Q : α→Prop} {sh : List (Bool × Nat)} {up : UP}
    (hf : P.funcs[f]? = some fn) (hg : toUPf P f fn ow hs dn = some (sh,up)) (hsh : shA args = sh) (hwf : wfU up [] = true) (hw : V P (fun vs=>∃ a,Q a∧isRes (res a) vs) up [] (psh (flatA args) [])) : ∃ a,Q a∧Meets P f args (res a):=by
  obtain ⟨a,h1,h2⟩:=v_one hwf hw
  exact ⟨a,h1,meets_upf hf hg hsh h2⟩
theorem meetsC_ex {α : Type} {ow : OwK} {hs : List Hint} {dn : List (Nat × Nat × Bool × List Nat)} {f : FuncId} {fn : Func} {t : Nat} {x : DV} {cs : List DV} {cs' : α→List DV} {rest : List (Bool × List DV)} {res : α→List Rs} {Q : α→Prop} {sh : List (Bool × Nat)} {up : UP}
    (hf : P.funcs[f]? = some fn) (hg : toUPcf P f fn ow hs dn t = some (sh,up)) (hsh : shA rest = sh) (hdp : ∀ a,∀ r ∈ res a,r.2.2 = true) (hwf : wfU up [] = true) (hw : V P (fun vs=>∃ a,Q a∧isC t (res a) (cs' a) vs) up [] (psh (flatA ((false,[cvD t x cs]) :: rest)) [])) : ∃ a,Q a∧MeetsC P f t x cs rest (res a) (cs' a):=by
  obtain ⟨a,h1,h2⟩:=v_one hwf hw
  exact ⟨a,h1,meets_upcf hf hg hsh (hdp a) h2⟩
end
end Go.Proofs.Ytpilbhbbdldpeaa

namespace Go.Proofs.Ytpilbhbbdldpeaa
open List (length_take length_drop length_append map_cons map_nil length_map length_cons length_nil length_set length_replicate)
open Go.RowKit
set_option maxRecDepth 100000
theorem mSpecMake (n d : Int) : Meets Try.prog 61 [(false,[.sc (.int .i64 n)]),(false,[.sc (.int .i64 d)])] [(true,encIt (mkN n d),true)] :=
  meets_sc [(false,[.int .i64 n]),(false,[.int .i64 d])] (true,itc (mkN n d)) (by kernel_rfl) (by simp) (itc_sc _) (by simp) (fun w=>specMake_any n d w)
set_option maxHeartbeats 2000000 in
theorem l2Draw_e (l : List Int) (c : Cu) (hc : 0≤c.i) (hl : l.length≤1048576) : ∃ a : It × Cu,0≤a.2.i∧MeetsC Try.prog 52 66 (encU8s l) c.cs [] [(true,encIt a.1,true)] a.2.cs:=by
  refine meetsC_ex Try.func52 u_spec_l2Draw_g rfl (by intro a;simp) (by kernel_rfl) ?_;simp only [u_spec_l2Draw_u]
  simp (disch:=first | omega | (simp only [length_take,length_drop,length_append,map_cons,map_nil,length_map,length_cons,length_nil,length_set,length_replicate];omega) | (simp only [length_cons,length_nil,Nat.zero_add,Nat.reduceAdd])) only [go_sem,↓reduceIte,Nat.reduceAdd,Int.reduceNeg,Int.reduceAdd,Int.reduceSub,Int.reduceMul,Int.reduceLT,Int.reduceLE,Int.reduceEq,Int.reduceToNat,Nat.reduceBEq,nat1,true_and]
  obtain ⟨k,c1,hk,h1,hcb⟩:=bel_e l c 12 (by first | assumption | omega) (by omega) (by omega) (by omega);refine cl_okC hcb rfl ?_;clear hcb;simp (disch:=first | omega | (simp only [length_take,length_drop,length_append,map_cons,map_nil,length_map,length_cons,length_nil,length_set,length_replicate];omega) | (simp only [length_cons,length_nil,Nat.zero_add,Nat.reduceAdd])) only [go_sem,↓reduceIte,Nat.reduceAdd,Int.reduceNeg,Int.reduceAdd,Int.reduceSub,Int.reduceMul,Int.reduceLT,Int.reduceLE,Int.reduceEq,Int.reduceToNat,Nat.reduceBEq,nat1,true_and]
  refine br_if (fun hbr=>?_) (fun hbr=>?_)
  · simp (disch:=first | omega | (simp only [length_take,length_drop,length_append,map_cons,map_nil,length_map,length_cons,length_nil,length_set,length_replicate];omega) | (simp only [length_cons,length_nil,Nat.zero_add,Nat.reduceAdd])) only [go_sem,↓reduceIte,Nat.reduceAdd,Int.reduceNeg,Int.reduceAdd,Int.reduceSub,Int.reduceMul,Int.reduceLT,Int.reduceLE,Int.reduceEq,Int.reduceToNat,Nat.reduceBEq,nat1,true_and]
    exact ⟨(it0,c1),h1,_,_,rfl,rfl⟩
  simp (disch:=first | omega | (simp only [length_take,length_drop,length_append,map_cons,map_nil,length_map,length_cons,length_nil,length_set,length_replicate];omega) | (simp only [length_cons,length_nil,Nat.zero_add,Nat.reduceAdd])) only [go_sem,↓reduceIte,Nat.reduceAdd,Int.reduceNeg,Int.reduceAdd,Int.reduceSub,Int.reduceMul,Int.reduceLT,Int.reduceLE,Int.reduceEq,Int.reduceToNat,Nat.reduceBEq,nat1,true_and]
  refine br_if (fun hbr=>?_) (fun hbr=>?_)
  · simp (disch:=first | omega | (simp only [length_take,length_drop,length_append,map_cons,map_nil,length_map,length_cons,length_nil,length_set,length_replicate];omega) | (simp only [length_cons,length_nil,Nat.zero_add,Nat.reduceAdd])) only [go_sem,↓reduceIte,Nat.reduceAdd,Int.reduceNeg,Int.reduceAdd,Int.reduceSub,Int.reduceMul,Int.reduceLT,Int.reduceLE,Int.reduceEq,Int.reduceToNat,Nat.reduceBEq,nat1,true_and]
    obtain ⟨n,c2,hn,h2,hcb⟩:=bel_e l c1 13 (by first | assumption | omega) (by omega) (by omega) (by omega);refine cl_okC hcb rfl ?_;clear hcb;simp (disch:=first | omega | (simp only [length_take,length_drop,length_append,map_cons,map_nil,length_map,length_cons,length_nil,length_set,length_replicate];omega) | (simp only [length_cons,length_nil,Nat.zero_add,Nat.reduceAdd])) only [go_sem,↓reduceIte,Nat.reduceAdd,Int.reduceNeg,Int.reduceAdd,Int.reduceSub,Int.reduceMul,Int.reduceLT,Int.reduceLE,Int.reduceEq,Int.reduceToNat,Nat.reduceBEq,nat1,true_and]
    obtain ⟨d,c3,hd,h3,hcb⟩:=bel_e l c2 6 (by first | assumption | omega) (by omega) (by omega) (by omega);refine cl_okC hcb rfl ?_;clear hcb;simp (disch:=first | omega | (simp only [length_take,length_drop,length_append,map_cons,map_nil,length_map,length_cons,length_nil,length_set,length_replicate];omega) | (simp only [length_cons,length_nil,Nat.zero_add,Nat.reduceAdd])) only [go_sem,↓reduceIte,Nat.reduceAdd,Int.reduceNeg,Int.reduceAdd,Int.reduceSub,Int.reduceMul,Int.reduceLT,Int.reduceLE,Int.reduceEq,Int.reduceToNat,Nat.reduceBEq,nat1,true_and]
    refine cl_ok (mSpecMake _ _) rfl ?_
    simp (disch:=first | omega | (simp only [length_take,length_drop,length_append,map_cons,map_nil,length_map,length_cons,length_nil,length_set,length_replicate];omega) | (simp only [length_cons,length_nil,Nat.zero_add,Nat.reduceAdd])) only [go_sem,↓reduceIte,Nat.reduceAdd,Int.reduceNeg,Int.reduceAdd,Int.reduceSub,Int.reduceMul,Int.reduceLT,Int.reduceLE,Int.reduceEq,Int.reduceToNat,Nat.reduceBEq,nat1,encIt]
    exact ⟨(_,c3),h3,_,_,rfl,rfl⟩
  simp (disch:=first | omega | (simp only [length_take,length_drop,length_append,map_cons,map_nil,length_map,length_cons,length_nil,length_set,length_replicate];omega) | (simp only [length_cons,length_nil,Nat.zero_add,Nat.reduceAdd])) only [go_sem,↓reduceIte,Nat.reduceAdd,Int.reduceNeg,Int.reduceAdd,Int.reduceSub,Int.reduceMul,Int.reduceLT,Int.reduceLE,Int.reduceEq,Int.reduceToNat,Nat.reduceBEq,nat1,true_and]
  refine br_if (fun hbr=>?_) (fun hbr=>?_)
  · simp (disch:=first | omega | (simp only [length_take,length_drop,length_append,map_cons,map_nil,length_map,length_cons,length_nil,length_set,length_replicate];omega) | (simp only [length_cons,length_nil,Nat.zero_add,Nat.reduceAdd])) only [go_sem,↓reduceIte,Nat.reduceAdd,Int.reduceNeg,Int.reduceAdd,Int.reduceSub,Int.reduceMul,Int.reduceLT,Int.reduceLE,Int.reduceEq,Int.reduceToNat,Nat.reduceBEq,nat1,true_and]
    obtain ⟨n,c2,hn,h2,hcb⟩:=bel_e l c1 13 (by first | assumption | omega) (by omega) (by omega) (by omega);refine cl_okC hcb rfl ?_;clear hcb;simp (disch:=first | omega | (simp only [length_take,length_drop,length_append,map_cons,map_nil,length_map,length_cons,length_nil,length_set,length_replicate];omega) | (simp only [length_cons,length_nil,Nat.zero_add,Nat.reduceAdd])) only [go_sem,↓reduceIte,Nat.reduceAdd,Int.reduceNeg,Int.reduceAdd,Int.reduceSub,Int.reduceMul,Int.reduceLT,Int.reduceLE,Int.reduceEq,Int.reduceToNat,Nat.reduceBEq,nat1,true_and]
    obtain ⟨d,c3,hd,h3,hcb⟩:=bel_e l c2 6 (by first | assumption | omega) (by omega) (by omega) (by omega);refine cl_okC hcb rfl ?_;clear hcb;simp (disch:=first | omega | (simp only [length_take,length_drop,length_append,map_cons,map_nil,length_map,length_cons,length_nil,length_set,length_replicate];omega) | (simp only [length_cons,length_nil,Nat.zero_add,Nat.reduceAdd])) only [go_sem,↓reduceIte,Nat.reduceAdd,Int.reduceNeg,Int.reduceAdd,Int.reduceSub,Int.reduceMul,Int.reduceLT,Int.reduceLE,Int.reduceEq,Int.reduceToNat,Nat.reduceBEq,nat1,true_and]
    refine cl_ok (mSpecMake _ _) rfl ?_
    simp (disch:=first | omega | (simp only [length_take,length_drop,length_append,map_cons,map_nil,length_map,length_cons,length_nil,length_set,length_replicate];omega) | (simp only [length_cons,length_nil,Nat.zero_add,Nat.reduceAdd])) only [go_sem,↓reduceIte,Nat.reduceAdd,Int.reduceNeg,Int.reduceAdd,Int.reduceSub,Int.reduceMul,Int.reduceLT,Int.reduceLE,Int.reduceEq,Int.reduceToNat,Nat.reduceBEq,nat1,encIt]
    exact ⟨(_,c3),h3,_,_,rfl,rfl⟩
  simp (disch:=first | omega | (simp only [length_take,length_drop,length_append,map_cons,map_nil,length_map,length_cons,length_nil,length_set,length_replicate];omega) | (simp only [length_cons,length_nil,Nat.zero_add,Nat.reduceAdd])) only [go_sem,↓reduceIte,Nat.reduceAdd,Int.reduceNeg,Int.reduceAdd,Int.reduceSub,Int.reduceMul,Int.reduceLT,Int.reduceLE,Int.reduceEq,Int.reduceToNat,Nat.reduceBEq,nat1,true_and]
  refine br_if (fun hbr=>?_) (fun hbr=>?_)
  · simp (disch:=first | omega | (simp only [length_take,length_drop,length_append,map_cons,map_nil,length_map,length_cons,length_nil,length_set,length_replicate];omega) | (simp only [length_cons,length_nil,Nat.zero_add,Nat.reduceAdd])) only [go_sem,↓reduceIte,Nat.reduceAdd,Int.reduceNeg,Int.reduceAdd,Int.reduceSub,Int.reduceMul,Int.reduceLT,Int.reduceLE,Int.reduceEq,Int.reduceToNat,Nat.reduceBEq,nat1,true_and]
    obtain ⟨n,c2,hn,h2,hcb⟩:=pki_e 3 l c1 [999999999,-999999999,999999998,65537,100000] (by first | assumption | omega) (by omega) (by simp) (by simp);refine cl_okC hcb rfl ?_;clear hcb;simp (disch:=first | omega | (simp only [length_take,length_drop,length_append,map_cons,map_nil,length_map,length_cons,length_nil,length_set,length_replicate];omega) | (simp only [length_cons,length_nil,Nat.zero_add,Nat.reduceAdd])) only [go_sem,↓reduceIte,Nat.reduceAdd,Int.reduceNeg,Int.reduceAdd,Int.reduceSub,Int.reduceMul,Int.reduceLT,Int.reduceLE,Int.reduceEq,Int.reduceToNat,Nat.reduceBEq,nat1,true_and]
    obtain ⟨d,c3,hd,h3,hcb⟩:=pki_e 3 l c2 [1,1,999999999,999999937,2] (by first | assumption | omega) (by omega) (by simp) (by simp);refine cl_okC hcb rfl ?_;clear hcb;simp (disch:=first | omega | (simp only [length_take,length_drop,length_append,map_cons,map_nil,length_map,length_cons,length_nil,length_set,length_replicate];omega) | (simp only [length_cons,length_nil,Nat.zero_add,Nat.reduceAdd])) only [go_sem,↓reduceIte,Nat.reduceAdd,Int.reduceNeg,Int.reduceAdd,Int.reduceSub,Int.reduceMul,Int.reduceLT,Int.reduceLE,Int.reduceEq,Int.reduceToNat,Nat.reduceBEq,nat1,true_and]
    refine cl_ok (mSpecMake _ _) rfl ?_
    simp (disch:=first | omega | (simp only [length_take,length_drop,length_append,map_cons,map_nil,length_map,length_cons,length_nil,length_set,length_replicate];omega) | (simp only [length_cons,length_nil,Nat.zero_add,Nat.reduceAdd])) only [go_sem,↓reduceIte,Nat.reduceAdd,Int.reduceNeg,Int.reduceAdd,Int.reduceSub,Int.reduceMul,Int.reduceLT,Int.reduceLE,Int.reduceEq,Int.reduceToNat,Nat.reduceBEq,nat1,encIt]
    exact ⟨(_,c3),h3,_,_,rfl,rfl⟩
  simp (disch:=first | omega | (simp only [length_take,length_drop,length_append,map_cons,map_nil,length_map,length_cons,length_nil,length_set,length_replicate];omega) | (simp only [length_cons,length_nil,Nat.zero_add,Nat.reduceAdd])) only [go_sem,↓reduceIte,Nat.reduceAdd,Int.reduceNeg,Int.reduceAdd,Int.reduceSub,Int.reduceMul,Int.reduceLT,Int.reduceLE,Int.reduceEq,Int.reduceToNat,Nat.reduceBEq,nat1,true_and]
  obtain ⟨n,c2,hn,h2,hcb⟩:=bel_e l c1 12 (by first | assumption | omega) (by omega) (by omega) (by omega);refine cl_okC hcb rfl ?_;clear hcb;simp (disch:=first | omega | (simp only [length_take,length_drop,length_append,map_cons,map_nil,length_map,length_cons,length_nil,length_set,length_replicate];omega) | (simp only [length_cons,length_nil,Nat.zero_add,Nat.reduceAdd])) only [go_sem,↓reduceIte,Nat.reduceAdd,Int.reduceNeg,Int.reduceAdd,Int.reduceSub,Int.reduceMul,Int.reduceLT,Int.reduceLE,Int.reduceEq,Int.reduceToNat,Nat.reduceBEq,nat1,true_and]
  refine cl_ok (mL2Num _) rfl ?_
  simp (disch:=first | omega | (simp only [length_take,length_drop,length_append,map_cons,map_nil,length_map,length_cons,length_nil,length_set,length_replicate];omega) | (simp only [length_cons,length_nil,Nat.zero_add,Nat.reduceAdd])) only [go_sem,↓reduceIte,Nat.reduceAdd,Int.reduceNeg,Int.reduceAdd,Int.reduceSub,Int.reduceMul,Int.reduceLT,Int.reduceLE,Int.reduceEq,Int.reduceToNat,Nat.reduceBEq,nat1,encIt]
  exact ⟨(_,c2),h2,_,_,rfl,rfl⟩
theorem fl1_3 {t k : Nat} {k1 k2 : IntKind} {a b : Int} {s : ByteArray} : eFlat (some (.sl t k [[.sc (.int k1 a),.sc (.int k2 b),.sc (.string s)]])) = some []:=rfl
set_option maxHeartbeats 4000000 in
theorem l14Draw_e (l : List Int) (c : Cu) (R C : Nat) (hR : R≤13) (hC : C≤13) (hc : 0≤c.i) (hl : l.length≤1048576) : ∃ a : List It × Cu,(a.1.length = R * C∧0≤a.2.i) ∧
    MeetsC Try.prog 50 66 (encU8s l) c.cs [(false,[.sc (.int .i64 R)]),(false,[.sc (.int .i64 C)])] [(true,encMt ⟨R,C,a.1⟩,true)] a.2.cs:=by
  have hRC : R * C≤169:=Nat.mul_le_mul hR hC
  have hw : IntKind.i64.wrap ((R : Int) * C) = ((R * C : Nat) : Int):=by rw [← Int.natCast_mul,wrap_id (by omega) (by omega)]
  have z0 : (l2N 0).text = ByteArray.empty:=rfl
  refine meetsC_ex Try.func50 u_spec_l14Draw_g rfl (by intro a;simp) (by kernel_rfl) ?_;simp only [u_spec_l14Draw_u]
  simp (disch:=first | omega | (simp only [length_take,length_drop,length_append,map_cons,map_nil,length_map,length_cons,length_nil,length_set,length_replicate];omega) | (simp only [length_cons,length_nil,Nat.zero_add,Nat.reduceAdd])) only [go_sem,↓reduceIte,Nat.reduceAdd,Int.reduceNeg,Int.reduceAdd,Int.reduceSub,Int.reduceMul,Int.reduceLT,Int.reduceLE,Int.reduceEq,Int.reduceToNat,Nat.reduceBEq,nat1,true_and]
  refine lp (fun s : Nat × Cu × List It=>[.sc (.int .i64 s.1),cvD 66 (encU8s l) s.2.1.cs,.sl 39 3 (s.2.2.map encIt)]) (fun s=>s.1≤R * C∧0≤s.2.1.i∧s.2.2.length = s.1) (fun s=>R * C - s.1) (0,c,[]) rfl ⟨Nat.zero_le _,hc,rfl⟩ ?_
  rintro ⟨i,c,cs⟩ ⟨g1,g2,g3⟩
  simp only at g1 g2 g3 ⊢
  simp only [u_spec_l14Draw_l3]
  simp (disch:=first | omega | (simp only [length_take,length_drop,length_append,map_cons,map_nil,length_map,length_cons,length_nil,length_set,length_replicate];omega) | (simp only [length_cons,length_nil,Nat.zero_add,Nat.reduceAdd])) only [go_sem,↓reduceIte,Nat.reduceAdd,Int.reduceNeg,Int.reduceAdd,Int.reduceSub,Int.reduceMul,Int.reduceLT,Int.reduceLE,Int.reduceEq,Int.reduceToNat,Nat.reduceBEq,nat1,hw]
  refine br_if (fun hbr=>?_) (fun hbr=>?_)
  · simp (disch:=first | omega | (simp only [length_take,length_drop,length_append,map_cons,map_nil,length_map,length_cons,length_nil,length_set,length_replicate];omega) | (simp only [length_cons,length_nil,Nat.zero_add,Nat.reduceAdd])) only [go_sem,↓reduceIte,Nat.reduceAdd,Int.reduceNeg,Int.reduceAdd,Int.reduceSub,Int.reduceMul,Int.reduceLT,Int.reduceLE,Int.reduceEq,Int.reduceToNat,Nat.reduceBEq,nat1,true_and]
    refine jn_in ?_
    simp (disch:=first | omega | (simp only [length_take,length_drop,length_append,map_cons,map_nil,length_map,length_cons,length_nil,length_set,length_replicate];omega) | (simp only [length_cons,length_nil,Nat.zero_add,Nat.reduceAdd])) only [go_sem,↓reduceIte,Nat.reduceAdd,Int.reduceNeg,Int.reduceAdd,Int.reduceSub,Int.reduceMul,Int.reduceLT,Int.reduceLE,Int.reduceEq,Int.reduceToNat,Nat.reduceBEq,nat1,true_and]
    obtain ⟨n,c1,hn,h1,hcb⟩:=bel_e l c 7 (by first | assumption | omega) (by omega) (by omega) (by omega);refine cl_okC hcb rfl ?_;clear hcb;simp (disch:=first | omega | (simp only [length_take,length_drop,length_append,map_cons,map_nil,length_map,length_cons,length_nil,length_set,length_replicate];omega) | (simp only [length_cons,length_nil,Nat.zero_add,Nat.reduceAdd])) only [go_sem,↓reduceIte,Nat.reduceAdd,Int.reduceNeg,Int.reduceAdd,Int.reduceSub,Int.reduceMul,Int.reduceLT,Int.reduceLE,Int.reduceEq,Int.reduceToNat,Nat.reduceBEq,nat1,true_and]
    refine cl_ok (mL2Num _) rfl ?_
    simp (disch:=first | omega | (simp only [length_take,length_drop,length_append,map_cons,map_nil,length_map,length_cons,length_nil,length_set,length_replicate];omega) | (simp only [length_cons,length_nil,Nat.zero_add,Nat.reduceAdd])) only [go_sem,↓reduceIte,Nat.reduceAdd,Int.reduceNeg,Int.reduceAdd,Int.reduceSub,Int.reduceMul,Int.reduceLT,Int.reduceLE,Int.reduceEq,Int.reduceToNat,Nat.reduceBEq,nat1,encIt]
    obtain ⟨b,c2,h2,hcb⟩:=onc_e l c1 9 (by first | assumption | omega) (by omega) (by omega);refine cl_okC hcb rfl ?_;clear hcb;simp (disch:=first | omega | (simp only [length_take,length_drop,length_append,map_cons,map_nil,length_map,length_cons,length_nil,length_set,length_replicate];omega) | (simp only [length_cons,length_nil,Nat.zero_add,Nat.reduceAdd])) only [go_sem,↓reduceIte,Nat.reduceAdd,Int.reduceNeg,Int.reduceAdd,Int.reduceSub,Int.reduceMul,Int.reduceLT,Int.reduceLE,Int.reduceEq,Int.reduceToNat,Nat.reduceBEq,nat1,true_and]
    refine jn (fun vs=>∃ (x : It) (c' : Cu),vs = cvD 66 (encU8s l) c'.cs :: encIt x∧0≤c'.i) ?_ ?_
    · cases b
      · simp (disch:=first | omega | (simp only [length_take,length_drop,length_append,map_cons,map_nil,length_map,length_cons,length_nil,length_set,length_replicate];omega) | (simp only [length_cons,length_nil,Nat.zero_add,Nat.reduceAdd])) only [go_sem,↓reduceIte,Nat.reduceAdd,Int.reduceNeg,Int.reduceAdd,Int.reduceSub,Int.reduceMul,Int.reduceLT,Int.reduceLE,Int.reduceEq,Int.reduceToNat,Nat.reduceBEq,nat1,true_and]
        exact ⟨l2N _,c2,rfl,h2⟩
      · simp (disch:=first | omega | (simp only [length_take,length_drop,length_append,map_cons,map_nil,length_map,length_cons,length_nil,length_set,length_replicate];omega) | (simp only [length_cons,length_nil,Nat.zero_add,Nat.reduceAdd])) only [go_sem,↓reduceIte,Nat.reduceAdd,Int.reduceNeg,Int.reduceAdd,Int.reduceSub,Int.reduceMul,Int.reduceLT,Int.reduceLE,Int.reduceEq,Int.reduceToNat,Nat.reduceBEq,nat1,true_and]
        obtain ⟨⟨x,c3⟩,h3,hcb⟩:=l2Draw_e l c2 h2 hl
        refine cl_okC hcb rfl ?_
        simp (disch:=first | omega | (simp only [length_take,length_drop,length_append,map_cons,map_nil,length_map,length_cons,length_nil,length_set,length_replicate];omega) | (simp only [length_cons,length_nil,Nat.zero_add,Nat.reduceAdd])) only [go_sem,↓reduceIte,Nat.reduceAdd,Int.reduceNeg,Int.reduceAdd,Int.reduceSub,Int.reduceMul,Int.reduceLT,Int.reduceLE,Int.reduceEq,Int.reduceToNat,Nat.reduceBEq,nat1,encIt]
        exact ⟨x,c3,rfl,h3⟩
    · rintro vs - ⟨x,c3,rfl,h3⟩
      simp only [u_spec_l14Draw_j0,encIt]
      simp (disch:=first | omega | (simp only [length_take,length_drop,length_append,map_cons,map_nil,length_map,length_cons,length_nil,length_set,length_replicate];omega) | (simp only [length_cons,length_nil,Nat.zero_add,Nat.reduceAdd])) only [go_sem,↓reduceIte,Nat.reduceAdd,Int.reduceNeg,Int.reduceAdd,Int.reduceSub,Int.reduceMul,Int.reduceLT,Int.reduceLE,Int.reduceEq,Int.reduceToNat,Nat.reduceBEq,nat1,true_and]
      have hl0:=mL2Num 0
      simp only [encIt] at hl0
      have done : ∀ y : It,∃ a' : Nat × Cu × List It,[.sc (.int .i64 ((i + 1 : Nat) : Int)),cvD 66 (encU8s l) c3.cs,.sl 39 3 ((cs.map encIt) ++ [encIt y])] = [.sc (.int .i64 (a'.1 : Int)),cvD 66 (encU8s l) a'.2.1.cs,.sl 39 3 (a'.2.2.map encIt)]∧(a'.1≤R * C∧0≤a'.2.1.i∧a'.2.2.length = a'.1)∧R * C - a'.1 < R * C - i:=fun y=>⟨(i + 1,c3,cs ++ [y]),by simp,⟨by simp only;omega,h3,by simp;exact g3⟩,by simp only;omega⟩
      refine br_if (fun hbr2=>?_) (fun hbr2=>?_)
      · repeat' (first | (with_reducible first | refine jn_in ?_ | refine cl_ok (by assumption) rfl ?_ | refine cl_okP (by assumption) rfl ?_ | refine br_if (fun hbr=>?_) fun hbr=>?_ | refine br_ifn (fun hbr=>?_) fun hbr=>?_ | refine br_nb (fun hbr=>?_) fun hbr=>?_ | refine br_b (fun hbr=>?_) fun hbr=>?_) | simp (disch:=first | omega | (simp only [length_take,length_drop,length_append,map_cons,map_nil,length_map,length_cons,length_nil,length_set,length_replicate];omega) | (simp only [length_cons,length_nil,Nat.zero_add,Nat.reduceAdd])) only [go_sem,↓reduceIte,Nat.reduceAdd,Int.reduceNeg,Int.reduceAdd,Int.reduceSub,Int.reduceMul,Int.reduceLT,Int.reduceLE,Int.reduceEq,Int.reduceToNat,Nat.reduceBEq,u_spec_l14Draw_j1,nat1,fl1_3])
        exact done (l2N 0)
      · repeat' (first | (with_reducible first | refine jn_in ?_ | refine cl_ok (by assumption) rfl ?_ | refine cl_okP (by assumption) rfl ?_ | refine br_if (fun hbr=>?_) fun hbr=>?_ | refine br_ifn (fun hbr=>?_) fun hbr=>?_ | refine br_nb (fun hbr=>?_) fun hbr=>?_ | refine br_b (fun hbr=>?_) fun hbr=>?_) | simp (disch:=first | omega | (simp only [length_take,length_drop,length_append,map_cons,map_nil,length_map,length_cons,length_nil,length_set,length_replicate];omega) | (simp only [length_cons,length_nil,Nat.zero_add,Nat.reduceAdd])) only [go_sem,↓reduceIte,Nat.reduceAdd,Int.reduceNeg,Int.reduceAdd,Int.reduceSub,Int.reduceMul,Int.reduceLT,Int.reduceLE,Int.reduceEq,Int.reduceToNat,Nat.reduceBEq,u_spec_l14Draw_j1,nat1,fl1_3])
        exact done x
  · obtain rfl : i = R * C:=by omega
    have g4 : cs.length = R * C:=g3
    simp (disch:=first | omega | (simp only [length_take,length_drop,length_append,map_cons,map_nil,length_map,length_cons,length_nil,length_set,length_replicate];omega) | (simp only [length_cons,length_nil,Nat.zero_add,Nat.reduceAdd])) only [go_sem,↓reduceIte,Nat.reduceAdd,Int.reduceNeg,Int.reduceAdd,Int.reduceSub,Int.reduceMul,Int.reduceLT,Int.reduceLE,Int.reduceEq,Int.reduceToNat,Nat.reduceBEq,nat1,true_and]
    refine lp (fun s : Nat × Cu × List It=>[.sc (.int .i64 s.1),cvD 66 (encU8s l) s.2.1.cs,.sl 39 3 (s.2.2.map encIt)]) (fun s=>s.1≤C∧0≤s.2.1.i∧s.2.2.length = R * C) (fun s=>C - s.1) (0,c,cs) rfl ⟨Nat.zero_le _,g2,g3⟩ ?_
    rintro ⟨k,c,cs⟩ ⟨k1,k2,k3⟩
    simp only at k1 k2 k3 ⊢
    simp only [u_spec_l14Draw_l2]
    simp (disch:=first | omega | (simp only [length_take,length_drop,length_append,map_cons,map_nil,length_map,length_cons,length_nil,length_set,length_replicate];omega) | (simp only [length_cons,length_nil,Nat.zero_add,Nat.reduceAdd])) only [go_sem,↓reduceIte,Nat.reduceAdd,Int.reduceNeg,Int.reduceAdd,Int.reduceSub,Int.reduceMul,Int.reduceLT,Int.reduceLE,Int.reduceEq,Int.reduceToNat,Nat.reduceBEq,nat1,true_and]
    refine br_if (fun hbr=>?_) (fun hbr=>?_)
    · simp (disch:=first | omega | (simp only [length_take,length_drop,length_append,map_cons,map_nil,length_map,length_cons,length_nil,length_set,length_replicate];omega) | (simp only [length_cons,length_nil,Nat.zero_add,Nat.reduceAdd])) only [go_sem,↓reduceIte,Nat.reduceAdd,Int.reduceNeg,Int.reduceAdd,Int.reduceSub,Int.reduceMul,Int.reduceLT,Int.reduceLE,Int.reduceEq,Int.reduceToNat,Nat.reduceBEq,nat1,true_and]
      obtain ⟨b,c2,h2,hcb⟩:=onc_e l c 3 (by first | assumption | omega) (by omega) (by omega);refine cl_okC hcb rfl ?_;clear hcb;simp (disch:=first | omega | (simp only [length_take,length_drop,length_append,map_cons,map_nil,length_map,length_cons,length_nil,length_set,length_replicate];omega) | (simp only [length_cons,length_nil,Nat.zero_add,Nat.reduceAdd])) only [go_sem,↓reduceIte,Nat.reduceAdd,Int.reduceNeg,Int.reduceAdd,Int.reduceSub,Int.reduceMul,Int.reduceLT,Int.reduceLE,Int.reduceEq,Int.reduceToNat,Nat.reduceBEq,nat1,true_and]
      cases b
      · simp (disch:=first | omega | (simp only [length_take,length_drop,length_append,map_cons,map_nil,length_map,length_cons,length_nil,length_set,length_replicate];omega) | (simp only [length_cons,length_nil,Nat.zero_add,Nat.reduceAdd])) only [go_sem,↓reduceIte,Nat.reduceAdd,Int.reduceNeg,Int.reduceAdd,Int.reduceSub,Int.reduceMul,Int.reduceLT,Int.reduceLE,Int.reduceEq,Int.reduceToNat,Nat.reduceBEq,nat1,true_and]
        exact ⟨(cs,c2),⟨k3,h2⟩,_,_,rfl,rfl⟩
      · simp (disch:=first | omega | (simp only [length_take,length_drop,length_append,map_cons,map_nil,length_map,length_cons,length_nil,length_set,length_replicate];omega) | (simp only [length_cons,length_nil,Nat.zero_add,Nat.reduceAdd])) only [go_sem,↓reduceIte,Nat.reduceAdd,Int.reduceNeg,Int.reduceAdd,Int.reduceSub,Int.reduceMul,Int.reduceLT,Int.reduceLE,Int.reduceEq,Int.reduceToNat,Nat.reduceBEq,nat1,true_and]
        refine br_if (fun hb2=>?_) (fun hb2=>?_)
        · have e1 : IntKind.i64.wrap ((R : Int) - 1) = (R : Int) - 1:=wrap_id (by omega) (by omega)
          have e2 : IntKind.i64.wrap (((R : Int) - 1) * C) = (((R - 1) * C : Nat) : Int):=by
            have : ((R : Int) - 1) * C = (((R - 1) * C : Nat) : Int):=by rw [Int.natCast_mul];congr 1;omega
            rw [this,wrap_id (by omega) (by have : (R - 1) * C≤13 * 13:=Nat.mul_le_mul (by omega) hC;omega)]
          have hq : (R - 1) * C + C = R * C:=by
            obtain ⟨r,rfl⟩:=Nat.exists_eq_succ_of_ne_zero (show R ≠ 0 by omega)
            simp [Nat.succ_mul]
          have e3 : IntKind.i64.wrap ((((R - 1) * C : Nat) : Int) + k) = (((R - 1) * C + k : Nat) : Int):=by rw [← Int.natCast_add,wrap_id (by omega) (by omega)]
          simp (disch:=first | omega | (simp only [length_take,length_drop,length_append,map_cons,map_nil,length_map,length_cons,length_nil,length_set,length_replicate];omega) | (simp only [length_cons,length_nil,Nat.zero_add,Nat.reduceAdd])) only [go_sem,↓reduceIte,Nat.reduceAdd,Int.reduceNeg,Int.reduceAdd,Int.reduceSub,Int.reduceMul,Int.reduceLT,Int.reduceLE,Int.reduceEq,Int.reduceToNat,Nat.reduceBEq,nat1,e1,e2,e3,ix_it,st_it,encIt]
          exact ⟨(k + 1,c2,cs.set ((R - 1) * C + k) (cs.getD k default)),by simp only [List.map_set];rfl,⟨by simp only;omega,h2,by simp only [List.length_set];exact k3⟩,by simp only;omega⟩
        · simp (disch:=first | omega | (simp only [length_take,length_drop,length_append,map_cons,map_nil,length_map,length_cons,length_nil,length_set,length_replicate];omega) | (simp only [length_cons,length_nil,Nat.zero_add,Nat.reduceAdd])) only [go_sem,↓reduceIte,Nat.reduceAdd,Int.reduceNeg,Int.reduceAdd,Int.reduceSub,Int.reduceMul,Int.reduceLT,Int.reduceLE,Int.reduceEq,Int.reduceToNat,Nat.reduceBEq,nat1,true_and]
          exact ⟨(cs,c2),⟨k3,h2⟩,_,_,rfl,rfl⟩
    · simp (disch:=first | omega | (simp only [length_take,length_drop,length_append,map_cons,map_nil,length_map,length_cons,length_nil,length_set,length_replicate];omega) | (simp only [length_cons,length_nil,Nat.zero_add,Nat.reduceAdd])) only [go_sem,↓reduceIte,Nat.reduceAdd,Int.reduceNeg,Int.reduceAdd,Int.reduceSub,Int.reduceMul,Int.reduceLT,Int.reduceLE,Int.reduceEq,Int.reduceToNat,Nat.reduceBEq,nat1,true_and]
      exact ⟨(cs,c),⟨k3,k2⟩,_,_,rfl,rfl⟩
def okDr (m : Mt) : Prop:=-1≤m.rows∧m.rows≤13∧0≤m.cols∧m.cols≤4∧m.cells.length≤17
set_option maxHeartbeats 4000000 in
theorem l14Any_e (l : List Int) (c : Cu) (hc : 0≤c.i) (hl : l.length≤1048576) : ∃ a : Mt × Cu,(okDr a.1∧0≤a.2.i)∧MeetsC Try.prog 49 66 (encU8s l) c.cs [] [(true,encMt a.1,true)] a.2.cs:=by
  refine meetsC_ex Try.func49 u_spec_l14Any_g rfl (by intro a;simp) (by kernel_rfl) ?_;simp only [u_spec_l14Any_u]
  simp (disch:=first | omega | (simp only [length_take,length_drop,length_append,map_cons,map_nil,length_map,length_cons,length_nil,length_set,length_replicate];omega) | (simp only [length_cons,length_nil,Nat.zero_add,Nat.reduceAdd])) only [go_sem,↓reduceIte,Nat.reduceAdd,Int.reduceNeg,Int.reduceAdd,Int.reduceSub,Int.reduceMul,Int.reduceLT,Int.reduceLE,Int.reduceEq,Int.reduceToNat,Nat.reduceBEq,nat1,true_and]
  obtain ⟨n,c1,hn,h1,hcb⟩:=bel_e l c 5 (by first | assumption | omega) (by omega) (by omega) (by omega);refine cl_okC hcb rfl ?_;clear hcb;simp (disch:=first | omega | (simp only [length_take,length_drop,length_append,map_cons,map_nil,length_map,length_cons,length_nil,length_set,length_replicate];omega) | (simp only [length_cons,length_nil,Nat.zero_add,Nat.reduceAdd])) only [go_sem,↓reduceIte,Nat.reduceAdd,Int.reduceNeg,Int.reduceAdd,Int.reduceSub,Int.reduceMul,Int.reduceLT,Int.reduceLE,Int.reduceEq,Int.reduceToNat,Nat.reduceBEq,nat1,true_and]
  obtain ⟨k,c2,hk,h2,hcb⟩:=bel_e l c1 5 (by first | assumption | omega) (by omega) (by omega) (by omega);refine cl_okC hcb rfl ?_;clear hcb;simp (disch:=first | omega | (simp only [length_take,length_drop,length_append,map_cons,map_nil,length_map,length_cons,length_nil,length_set,length_replicate];omega) | (simp only [length_cons,length_nil,Nat.zero_add,Nat.reduceAdd])) only [go_sem,↓reduceIte,Nat.reduceAdd,Int.reduceNeg,Int.reduceAdd,Int.reduceSub,Int.reduceMul,Int.reduceLT,Int.reduceLE,Int.reduceEq,Int.reduceToNat,Nat.reduceBEq,nat1,true_and]
  obtain ⟨m,c3,hm,h3,hcb⟩:=pki_e 3 l c2 [n,n,n,k] (by first | assumption | omega) (by omega) (by simp) (by simp);refine cl_okC hcb rfl ?_;clear hcb;simp (disch:=first | omega | (simp only [length_take,length_drop,length_append,map_cons,map_nil,length_map,length_cons,length_nil,length_set,length_replicate];omega) | (simp only [length_cons,length_nil,Nat.zero_add,Nat.reduceAdd])) only [go_sem,↓reduceIte,Nat.reduceAdd,Int.reduceNeg,Int.reduceAdd,Int.reduceSub,Int.reduceMul,Int.reduceLT,Int.reduceLE,Int.reduceEq,Int.reduceToNat,Nat.reduceBEq,nat1,true_and]
  have hm' : 0≤m∧m≤4:=by simp at hm;omega
  obtain ⟨⟨cs,c4⟩,⟨h4,h5⟩,hcb⟩:=l14Draw_e l c3 n.toNat m.toNat (by omega) (by omega) h3 hl
  rw [Int.toNat_of_nonneg hn.1,Int.toNat_of_nonneg hm'.1] at hcb
  simp only at h4 h5
  have h6 : cs.length≤16:=by
    have h:=Nat.mul_le_mul (show n.toNat≤4 by omega) (show m.toNat≤4 by omega)
    omega
  refine cl_okC hcb rfl ?_
  clear hcb
  simp (disch:=first | omega | (simp only [length_take,length_drop,length_append,map_cons,map_nil,length_map,length_cons,length_nil,length_set,length_replicate];omega) | (simp only [length_cons,length_nil,Nat.zero_add,Nat.reduceAdd])) only [go_sem,↓reduceIte,Nat.reduceAdd,Int.reduceNeg,Int.reduceAdd,Int.reduceSub,Int.reduceMul,Int.reduceLT,Int.reduceLE,Int.reduceEq,Int.reduceToNat,Nat.reduceBEq,nat1,encMt,encIts]
  obtain ⟨q,c5,hq,h7,hcb⟩:=bel_e l c4 20 (by first | assumption | omega) (by omega) (by omega) (by omega);refine cl_okC hcb rfl ?_;clear hcb;simp (disch:=first | omega | (simp only [length_take,length_drop,length_append,map_cons,map_nil,length_map,length_cons,length_nil,length_set,length_replicate];omega) | (simp only [length_cons,length_nil,Nat.zero_add,Nat.reduceAdd])) only [go_sem,↓reduceIte,Nat.reduceAdd,Int.reduceNeg,Int.reduceAdd,Int.reduceSub,Int.reduceMul,Int.reduceLT,Int.reduceLE,Int.reduceEq,Int.reduceToNat,Nat.reduceBEq,nat1,true_and]
  refine br_if (fun hbr=>?_) (fun hbr=>?_)
  · simp (disch:=first | omega | (simp only [length_take,length_drop,length_append,map_cons,map_nil,length_map,length_cons,length_nil,length_set,length_replicate];omega) | (simp only [length_cons,length_nil,Nat.zero_add,Nat.reduceAdd])) only [go_sem,↓reduceIte,Nat.reduceAdd,Int.reduceNeg,Int.reduceAdd,Int.reduceSub,Int.reduceMul,Int.reduceLT,Int.reduceLE,Int.reduceEq,Int.reduceToNat,Nat.reduceBEq,nat1,true_and]
    obtain ⟨r,c6,hr,h8,hcb⟩:=pki_e 3 l c5 [13,-1,2] (by first | assumption | omega) (by omega) (by simp) (by simp);refine cl_okC hcb rfl ?_;clear hcb;simp (disch:=first | omega | (simp only [length_take,length_drop,length_append,map_cons,map_nil,length_map,length_cons,length_nil,length_set,length_replicate];omega) | (simp only [length_cons,length_nil,Nat.zero_add,Nat.reduceAdd])) only [go_sem,↓reduceIte,Nat.reduceAdd,Int.reduceNeg,Int.reduceAdd,Int.reduceSub,Int.reduceMul,Int.reduceLT,Int.reduceLE,Int.reduceEq,Int.reduceToNat,Nat.reduceBEq,nat1,true_and]
    exact ⟨(⟨r,m,cs⟩,c6),⟨⟨by simp at hr ⊢;omega,by simp at hr ⊢;omega,hm'.1,hm'.2,by simp only;omega⟩,h8⟩,_,_,rfl,rfl⟩
  simp (disch:=first | omega | (simp only [length_take,length_drop,length_append,map_cons,map_nil,length_map,length_cons,length_nil,length_set,length_replicate];omega) | (simp only [length_cons,length_nil,Nat.zero_add,Nat.reduceAdd])) only [go_sem,↓reduceIte,Nat.reduceAdd,Int.reduceNeg,Int.reduceAdd,Int.reduceSub,Int.reduceMul,Int.reduceLT,Int.reduceLE,Int.reduceEq,Int.reduceToNat,Nat.reduceBEq,nat1,true_and]
  refine br_if (fun hbr=>?_) (fun hbr=>?_)
  · simp (disch:=first | omega | (simp only [length_take,length_drop,length_append,map_cons,map_nil,length_map,length_cons,length_nil,length_set,length_replicate];omega) | (simp only [length_cons,length_nil,Nat.zero_add,Nat.reduceAdd])) only [go_sem,↓reduceIte,Nat.reduceAdd,Int.reduceNeg,Int.reduceAdd,Int.reduceSub,Int.reduceMul,Int.reduceLT,Int.reduceLE,Int.reduceEq,Int.reduceToNat,Nat.reduceBEq,nat1,fl1_3]
    exact ⟨(⟨n,m,cs ++ [it0]⟩,c5),⟨⟨by simp only;omega,by simp only;omega,hm'.1,hm'.2,by simp only [List.length_append,List.length_singleton];omega⟩,h7⟩,_,_,rfl,by simp [encMt,encIts,encIt,it0];rfl⟩
  · simp (disch:=first | omega | (simp only [length_take,length_drop,length_append,map_cons,map_nil,length_map,length_cons,length_nil,length_set,length_replicate];omega) | (simp only [length_cons,length_nil,Nat.zero_add,Nat.reduceAdd])) only [go_sem,↓reduceIte,Nat.reduceAdd,Int.reduceNeg,Int.reduceAdd,Int.reduceSub,Int.reduceMul,Int.reduceLT,Int.reduceLE,Int.reduceEq,Int.reduceToNat,Nat.reduceBEq,nat1,true_and]
    exact ⟨(⟨n,m,cs⟩,c5),⟨⟨by simp only;omega,by simp only;omega,hm'.1,hm'.2,by simp only;omega⟩,h7⟩,_,_,rfl,rfl⟩
end Go.Proofs.Ytpilbhbbdldpeaa

namespace Go.Proofs.Ytpilbhbbdldpeaa
open Go.RowKit
set_option maxRecDepth 100000
def u_spec_l14Beside_h : List Hint:=[⟨3000003,2,⟨[(6,.p false [.d 15]),(5,.p false [.ptr 3 3 0]),(4,.p false [.ptr 2 2 0]),(3,.p false [.ptr 1 1 0]),(2,.p false [.ptr 0 0 0]),(0,.p true [.d 0,.d 1,.d 2]),(1,.p true [.d 3,.d 4,.d 5])],[(0,.var 0 26 [.d 0,.d 1,.d 2]),(1,.var 1 26 [.d 3,.d 4,.d 5]),(2,.var 2 26 [.d 6,.d 7,.nil]),(3,.var 3 26 [.d 0,.d 8,.own 4 4]),(4,.row 4 39 3 16)],5,5,17,[]⟩,[⟨false,3,2,39,3⟩]⟩]
def u_spec_l14Beside_d : List (Nat × Nat × Bool × List Nat):=[(6,16,true,[]),(5,16,true,[])]
def u_spec_l14Beside_l0 : UP:=.po (.bin .lss false 1 9) <| .ite 0 (.po (.bin .mul false 2 9) <| .po (.bin .mul false 3 10) <| .po (.bin .add false 0 11) <| .po (.cutL 3 11 (some 2) (some 0)) <| .po (.flat 0) <| .po (.app 39 3 32 5 0) <| .po (.bin .mul false 7 12) <| .po (.bin .mul false 8 13) <| .po (.bin .add false 0 14) <| .po (.cutL 3 14 (some 2) (some 0)) <| .po (.flat 0) <| .po (.app 39 3 32 4 0) <| .po (.k (.int .i64 1)) <| .po (.bin .add false 13 0) <| .jump 0 [0,2]) <| .po (.sc 10) <| .po (.sc 5) <| .ret [(true,[10,5,1])]
def u_spec_l14Beside_u : UP:=.po (.k (.int .i64 0)) <| .po (.k (.int .i64 0)) <| .po (.bin .add false 6 3) <| .po (.k (.int .i64 0)) <| .po (.k (.int .i64 0)) <| .po (.k (.int .i64 0)) <| .po (.k (.int .i64 0)) <| .po (.k (.int .i64 0)) <| .po (.e 39 3) <| .sel [0,1,6,9,10,12,13,14] <| .loop [1,0] u_spec_l14Beside_l0
theorem u_spec_l14Beside_g : toUPf Try.prog 36 Try.f36 owA u_spec_l14Beside_h u_spec_l14Beside_d = some ([(true,3),(true,3)],u_spec_l14Beside_u):=by kernel_rfl
end Go.Proofs.Ytpilbhbbdldpeaa

namespace Go.Proofs.Ytpilbhbbdldpeaa
open Go.RowKit
set_option maxRecDepth 100000
def u_spec_l14Reduce_h : List Hint:=[⟨2000007,6,⟨[(159,.p false [.d 41]),(18,.p false [.d 42]),(17,.p false [.ptr 7 7 0]),(135,.p false [.d 40]),(16,.p false [.d 38]),(92,.p false [.d 36]),(14,.p false [.d 34]),(8,.p false [.own 5 6]),(85,.p false [.d 31]),(13,.p false [.ptr 6 5 0]),(69,.p false [.d 20]),(63,.p false [.d 18]),(12,.p false [.d 19]),(11,.p false [.d 17]),(41,.p false [.d 16]),(10,.p false [.d 10]),(9,.p false [.d 1]),(7,.p false [.own 4 4]),(6,.p false [.ptr 3 3 0]),(5,.p false [.d 5]),(4,.p false [.nil]),(3,.p false [.nil]),(2,.p false [.ptr 1 1 0]),(1,.p false [.ptr 0 0 0]),(0,.p true [.d 0,.d 1,.d 2])],[(0,.var 0 26 [.d 0,.d 1,.d 2]),(1,.var 1 26 [.d 3,.d 4,.nil]),(3,.var 3 26 [.d 0,.d 1,.own 2 2]),(2,.row 2 39 3 43),(4,.row 4 3 1 12),(6,.var 5 39 [.d 23,.d 24,.d 25]),(5,.row 6 39 3 32),(7,.var 7 39 [.d 44,.d 45,.d 46])],8,8,47,[(40,true),(36,false),(20,false),(16,true),(14,true),(5,false)]⟩,[]⟩,⟨3000028,2,⟨[(18,.p false [.d 50]),(17,.p false [.ptr 7 7 0]),(135,.p false [.d 40]),(16,.p false [.d 38]),(92,.p false [.d 36]),(14,.p false [.d 34]),(8,.p false [.own 5 6]),(85,.p false [.d 31]),(13,.p false [.ptr 6 5 0]),(69,.p false [.d 20]),(63,.p false [.d 18]),(12,.p false [.d 19]),(11,.p false [.d 17]),(41,.p false [.d 16]),(10,.p false [.d 10]),(9,.p false [.d 1]),(7,.p false [.own 4 4]),(6,.p false [.ptr 3 3 0]),(5,.p false [.d 5]),(4,.p false [.nil]),(3,.p false [.nil]),(2,.p false [.ptr 1 1 0]),(1,.p false [.ptr 0 0 0]),(0,.p true [.d 0,.d 1,.d 2])],[(0,.var 0 26 [.d 0,.d 1,.d 2]),(1,.var 1 26 [.d 3,.d 4,.nil]),(3,.var 3 26 [.d 0,.d 1,.own 2 2]),(2,.row 2 39 3 51),(4,.row 4 3 1 12),(6,.var 5 39 [.d 23,.d 24,.d 25]),(5,.row 6 39 3 32),(7,.var 7 39 [.d 43,.d 44,.d 45])],8,8,52,[(40,true),(36,false),(20,false),(16,true),(14,true),(5,false)]⟩,[]⟩,⟨3000024,2,⟨[(16,.p false [.d 38]),(92,.p false [.d 36]),(14,.p false [.d 34]),(8,.p false [.own 5 6]),(85,.p false [.d 31]),(13,.p false [.ptr 6 5 0]),(69,.p false [.d 20]),(63,.p false [.d 18]),(12,.p false [.d 19]),(11,.p false [.d 17]),(41,.p false [.d 16]),(10,.p false [.d 10]),(9,.p false [.d 1]),(7,.p false [.own 4 4]),(6,.p false [.ptr 3 3 0]),(5,.p false [.d 5]),(4,.p false [.nil]),(3,.p false [.nil]),(2,.p false [.ptr 1 1 0]),(1,.p false [.ptr 0 0 0]),(0,.p true [.d 0,.d 1,.d 2])],[(0,.var 0 26 [.d 0,.d 1,.d 2]),(1,.var 1 26 [.d 3,.d 4,.nil]),(3,.var 3 26 [.d 0,.d 1,.own 2 2]),(2,.row 2 39 3 39),(4,.row 4 3 1 12),(6,.var 5 39 [.d 23,.d 24,.d 25]),(5,.row 6 39 3 32)],7,7,40,[(36,false),(20,false),(16,true),(14,true),(5,false)]⟩,[]⟩,⟨3000018,2,⟨[(14,.p false [.d 34]),(8,.p false [.own 5 6]),(85,.p false [.d 31]),(13,.p false [.ptr 6 5 0]),(69,.p false [.d 20]),(63,.p false [.d 18]),(12,.p false [.d 19]),(11,.p false [.d 17]),(41,.p false [.d 16]),(10,.p false [.d 10]),(9,.p false [.d 1]),(7,.p false [.own 4 4]),(6,.p false [.ptr 3 3 0]),(5,.p false [.d 5]),(4,.p false [.nil]),(3,.p false [.nil]),(2,.p false [.ptr 1 1 0]),(1,.p false [.ptr 0 0 0]),(0,.p true [.d 0,.d 1,.d 2])],[(0,.var 0 26 [.d 0,.d 1,.d 2]),(1,.var 1 26 [.d 3,.d 4,.nil]),(3,.var 3 26 [.d 0,.d 1,.own 2 2]),(2,.row 2 39 3 35),(4,.row 4 3 1 12),(6,.var 5 39 [.d 23,.d 24,.d 25]),(5,.row 6 39 3 32)],7,7,36,[(20,false),(16,true),(14,true),(5,false)]⟩,[]⟩,⟨1000016,1,⟨[(8,.p false [.own 5 6]),(85,.p false [.d 31]),(13,.p false [.ptr 6 5 0]),(69,.p false [.d 20]),(63,.p false [.d 18]),(12,.p false [.d 19]),(11,.p false [.d 17]),(41,.p false [.d 16]),(10,.p false [.d 10]),(9,.p false [.d 1]),(7,.p false [.own 4 4]),(6,.p false [.ptr 3 3 0]),(5,.p false [.d 5]),(4,.p false [.nil]),(3,.p false [.nil]),(2,.p false [.ptr 1 1 0]),(1,.p false [.ptr 0 0 0]),(0,.p true [.d 0,.d 1,.d 2])],[(0,.var 0 26 [.d 0,.d 1,.d 2]),(1,.var 1 26 [.d 3,.d 4,.nil]),(3,.var 3 26 [.d 0,.d 1,.own 2 2]),(2,.row 2 39 3 11),(4,.row 4 3 1 12),(6,.var 5 39 [.d 23,.d 24,.d 25]),(5,.row 6 39 3 32)],7,7,33,[(20,false),(16,true),(14,true),(5,false)]⟩,[]⟩,⟨2000001,7,⟨[(69,.p false [.d 17]),(63,.p false [.d 18]),(12,.p false [.d 19]),(11,.p false [.d 20]),(41,.p false [.d 16]),(10,.p false [.d 10]),(9,.p false [.d 1]),(8,.p false [.own 5 5]),(7,.p false [.own 4 4]),(6,.p false [.ptr 3 3 0]),(5,.p false [.d 5]),(4,.p false [.nil]),(3,.p false [.nil]),(2,.p false [.ptr 1 1 0]),(1,.p false [.ptr 0 0 0]),(0,.p true [.d 0,.d 1,.d 2])],[(0,.var 0 26 [.d 0,.d 1,.d 2]),(1,.var 1 26 [.d 3,.d 4,.nil]),(3,.var 3 26 [.d 0,.d 1,.own 2 2]),(2,.row 2 39 3 21),(4,.row 4 3 1 22),(5,.row 5 39 3 23)],6,6,24,[(16,true),(14,true),(5,false)]⟩,[]⟩,⟨2000002,2,⟨[(63,.p false [.d 18]),(12,.p false [.d 19]),(11,.p false [.d 17]),(41,.p false [.d 16]),(10,.p false [.d 10]),(9,.p false [.d 1]),(8,.p false [.own 5 5]),(7,.p false [.own 4 4]),(6,.p false [.ptr 3 3 0]),(5,.p false [.d 5]),(4,.p false [.nil]),(3,.p false [.nil]),(2,.p false [.ptr 1 1 0]),(1,.p false [.ptr 0 0 0]),(0,.p true [.d 0,.d 1,.d 2])],[(0,.var 0 26 [.d 0,.d 1,.d 2]),(1,.var 1 26 [.d 3,.d 4,.nil]),(3,.var 3 26 [.d 0,.d 1,.own 2 2]),(2,.row 2 39 3 11),(4,.row 4 3 1 12),(5,.row 5 39 3 13)],6,6,20,[(16,true),(14,true),(5,false)]⟩,[]⟩,⟨3000010,1,⟨[(12,.p false [.d 18]),(11,.p false [.d 17]),(41,.p false [.d 16]),(10,.p false [.d 10]),(9,.p false [.d 1]),(8,.p false [.own 5 5]),(7,.p false [.own 4 4]),(6,.p false [.ptr 3 3 0]),(5,.p false [.d 5]),(4,.p false [.nil]),(3,.p false [.nil]),(2,.p false [.ptr 1 1 0]),(1,.p false [.ptr 0 0 0]),(0,.p true [.d 0,.d 1,.d 2])],[(0,.var 0 26 [.d 0,.d 1,.d 2]),(1,.var 1 26 [.d 3,.d 4,.nil]),(3,.var 3 26 [.d 0,.d 1,.own 2 2]),(2,.row 2 39 3 11),(4,.row 4 3 1 12),(5,.row 5 39 3 13)],6,6,19,[(16,true),(14,true),(5,false)]⟩,[]⟩,⟨3000006,4,⟨[(10,.p false [.d 10]),(9,.p false [.d 1]),(8,.p false [.own 5 5]),(7,.p false [.own 4 4]),(6,.p false [.ptr 3 3 0]),(5,.p false [.d 5]),(4,.p false [.nil]),(3,.p false [.nil]),(2,.p false [.ptr 1 1 0]),(1,.p false [.ptr 0 0 0]),(0,.p true [.d 0,.d 1,.d 2])],[(0,.var 0 26 [.d 0,.d 1,.d 2]),(1,.var 1 26 [.d 3,.d 4,.nil]),(3,.var 3 26 [.d 0,.d 1,.own 2 2]),(2,.row 2 39 3 11),(4,.row 4 3 1 12),(5,.row 5 39 3 13)],6,6,14,[(5,false)]⟩,[]⟩,⟨1,1,⟨[(6,.p false [.ptr 3 3 0]),(5,.p false [.d 5]),(4,.p false [.nil]),(3,.p false [.nil]),(2,.p false [.ptr 1 1 0]),(1,.p false [.ptr 0 0 0]),(0,.p true [.d 0,.d 1,.d 2])],[(0,.var 0 26 [.d 0,.d 1,.d 2]),(1,.var 1 26 [.d 3,.d 4,.nil]),(3,.var 3 26 [.d 0,.d 1,.own 2 2]),(2,.row 2 39 3 6)],4,4,7,[(5,false)]⟩,[]⟩]
def u_spec_l14Reduce_d : List (Nat × Nat × Bool × List Nat):=[(30,29,false,[]),(22,11,false,[]),(21,17,false,[]),(1,10,false,[])]
def u_spec_l14Reduce_l0 : UP:=.po (.bin .lss false 0 7) <| .ite 0 (.po (.bin .mul false 1 7) <| .po (.bin .add false 0 7) <| .po (.isI 0) <| .po (.chk 3 7 0) <| .po (.idx 3 7 0) <| .po (.k (.int .i64 0)) <| .po (.bin .eql false 3 0) <| .ite 0 (.po (.k (.int .i64 1)) <| .po (.bin .add false 9 0) <| .jump 3 [0]) <| .jump 2 [0,8]) <| .po (.k (.bool false)) <| .jump 2 [0,2]
def u_spec_l14Reduce_l1 : UP:=.po (.bin .neq false 7 8) <| .ite 0 (.po (.k (.int .i64 0)) <| .po (.bin .neq false 7 0) <| .ite 0 (.po (.bin .lss false 4 12) <| .ite 0 (.po (.bin .mul false 11 13) <| .po (.sc 0) <| .po (.bin .add false 0 6) <| .po (.sc 0) <| .po (.bin .mul false 13 15) <| .po (.sc 0) <| .po (.bin .add false 0 8) <| .po (.sc 0) <| .po (.isI 0) <| .po (.chk 3 8 0) <| .po (.idx 3 8 0) <| .po (.sc 2) <| .po (.sc 1) <| .po (.sc 0) <| .po (.sc 16) <| .po (.sc 15) <| .po (.sc 14) <| .po (.bin .mul false 19 20) <| .po (.sc 0) <| .po (.bin .add false 0 13) <| .po (.sc 0) <| .po (.isI 0) <| .po (.chk 3 13 0) <| .po (.idx 3 13 0) <| .po (.sc 2) <| .po (.sc 1) <| .po (.sc 0) <| .sel [0,1,2,5,6,7,10,16,17,19,20,21] <| .cl 41 [(true,[11,10,9]),(true,[2,1,0])] [(true,[none,none,none],true)] <| .sel [0,1,2,6,7,8,9,10,11] <| .cl 42 [(true,[5,4,3]),(true,[2,1,0])] [(true,[none,none,none],true)] <| .po (.isI 9) <| .po (.chk 3 10 9) <| .po (.sc 2) <| .po (.sc 1) <| .po (.sc 0) <| .po (.set 3 10 9 0 [2,1,0]) <| .po (.k (.int .i64 1)) <| .po (.bin .add false 13 0) <| .jump 5 [0,2]) <| .jump 4 [0,5,4,9,8,7]) <| .po (.k (.bool false)) <| .jump 4 [0,5,4,9,8,7]) <| .po (.k (.bool false)) <| .po (.k (.bool false)) <| .jump 4 [0,4,3,8,7,6]
def u_spec_l14Reduce_j2 : UP:=.po (.k (.int .i64 1)) <| .po (.bin .add false 8 0) <| .jump 3 [0,5]
def u_spec_l14Reduce_l3 : UP:=.po (.bin .lss false 1 12) <| .ite 0 (.sel [1,2,9,11,12] <| .join 6 u_spec_l14Reduce_j2 <| .po (.bin .mul false 1 4) <| .po (.bin .add false 0 4) <| .po (.isI 0) <| .po (.chk 3 2 0) <| .po (.idx 3 2 0) <| .po (.k (.int .i64 0)) <| .po (.k (.int .i64 0)) <| .po (.k (.string ⟨#[]⟩)) <| .po (.k (.int .i64 0)) <| .sel [0,4,5,6,9,10,11,13] <| .loop [0,4] u_spec_l14Reduce_l1) <| .po (.sc 11) <| .po (.mk 3 1 [[11]]) <| .po (.flat 0) <| .po (.app 3 1 8 11 0) <| .sel [0,3,7,8,9,10,11,14,15] <| .cl 32 [(true,[8,7,1])] [(false,[none],true)] <| .po (.un .not 0) <| .ite 0 (.po (.k (.int .i64 0)) <| .po (.k (.int .i64 0)) <| .po (.mk 3 1 []) <| .po (.mk 39 3 []) <| .po (.k (.bool false)) <| .po (.sc 4) <| .po (.sc 3) <| .po (.e 39 3) <| .po (.sc 1) <| .ret [(true,[5,4,0]),(false,[3]),(false,[2]),(false,[1])]) <| .jump 1 [5,7,6,8,3,2,4]
def u_spec_l14Reduce_l4 : UP:=.po (.bin .lss false 1 16) <| .ite 0 (.po (.bin .mul false 11 17) <| .po (.bin .add false 0 3) <| .po (.isI 0) <| .po (.chk 3 3 0) <| .po (.idx 3 3 0) <| .po (.k (.int .i64 0)) <| .po (.k (.int .i64 0)) <| .po (.k (.string ⟨#[]⟩)) <| .po (.bin .mul false 19 25) <| .po (.sc 0) <| .po (.bin .add false 0 11) <| .po (.sc 0) <| .po (.bin .mul false 23 27) <| .po (.sc 0) <| .po (.bin .add false 0 13) <| .po (.sc 0) <| .po (.isI 0) <| .po (.chk 3 13 0) <| .po (.idx 3 13 0) <| .po (.sc 2) <| .po (.sc 1) <| .po (.sc 0) <| .po (.isI 5) <| .po (.chk 3 16 5) <| .po (.sc 2) <| .po (.sc 1) <| .po (.sc 0) <| .po (.set 3 16 5 0 [2,1,0]) <| .po (.bin .mul false 29 33) <| .po (.sc 0) <| .po (.bin .add false 0 19) <| .po (.sc 0) <| .po (.sc 15) <| .po (.sc 14) <| .po (.sc 13) <| .po (.sc 27) <| .po (.sc 26) <| .po (.sc 25) <| .sel [0,2,13,14,15,20,25,26,27] <| .cl 59 [(true,[4,3,2]),(true,[8,7,6])] [(true,[none,none,none],true)] <| .po (.isI 3) <| .po (.chk 3 4 3) <| .po (.sc 2) <| .po (.sc 1) <| .po (.sc 0) <| .po (.set 3 4 3 0 [2,1,0]) <| .po (.k (.int .i64 1)) <| .po (.bin .add false 10 0) <| .jump 2 [0,2]) <| .po (.k (.int .i64 0)) <| .sel [0,2,5,11,12,13,14,15,17,18,19] <| .loop [0,1] u_spec_l14Reduce_l3
def u_spec_l14Reduce_j5 : UP:=.po (.k (.int .i64 0)) <| .loop [0,12] u_spec_l14Reduce_l4
def u_spec_l14Reduce_j6 : UP:=.po (.bin .eql false 0 8) <| .ite 0 (.jump 1 [0,2,1,3,6,5,4]) <| .po (.bin .mul false 1 8) <| .po (.bin .add false 0 8) <| .po (.isI 0) <| .po (.chk 3 8 0) <| .po (.idx 3 8 0) <| .po (.k (.int .i64 0)) <| .po (.k (.int .i64 0)) <| .po (.k (.string ⟨#[]⟩)) <| .po (.sc 5) <| .po (.sc 4) <| .po (.sc 3) <| .po (.mk 39 3 [[5,4,3]]) <| .po (.flat 0) <| .po (.app 39 3 32 13 0) <| .po (.bin .neq false 11 13) <| .sel [0,1,6,7,8,11,12,13,14,16,17,18,19,20] <| .join 1 u_spec_l14Reduce_j5 <| .ite 0 (.po (.k (.int .i64 (-1))) <| .sel [0,2] <| .cl 44 [(false,[0])] [(true,[none,none,none],true)] <| .po (.sc 2) <| .po (.sc 1) <| .po (.sc 0) <| .po (.mk 39 3 [[2,1,0]]) <| .po (.flat 0) <| .po (.app 39 3 32 5 0) <| .jump 2 [0]) <| .jump 2 [1]
def u_spec_l14Reduce_j7 : UP:=.po (.k (.int .i64 1)) <| .po (.bin .add false 11 0) <| .jump 0 [0,4,3,2]
def u_spec_l14Reduce_l8 : UP:=.po (.bin .lss false 3 8) <| .ite 0 (.po (.lenL 2) <| .po (.bin .lss false 0 11) <| .ite 0 (.sel [3,4,5,6,11,12] <| .join 7 u_spec_l14Reduce_j7 <| .po (.lenL 1) <| .join 2 u_spec_l14Reduce_j6 <| .loop [0] u_spec_l14Reduce_l0) <| .po (.k (.bool true)) <| .po (.sc 13) <| .po (.sc 12) <| .po (.sc 0) <| .ret [(true,[13,12,6]),(false,[5]),(false,[4]),(false,[0])]) <| .po (.k (.bool false)) <| .po (.k (.bool true)) <| .po (.sc 12) <| .po (.sc 11) <| .po (.sc 0) <| .ret [(true,[12,11,5]),(false,[4]),(false,[3]),(false,[0])]
def u_spec_l14Reduce_j9 : UP:=.po (.mk 3 1 []) <| .po (.mk 39 3 []) <| .po (.k (.int .i64 0)) <| .sel [0,1,2,3,8,9] <| .loop [0,3,2,1] u_spec_l14Reduce_l8
def u_spec_l14Reduce_u : UP:=.po (.k (.int .i64 0)) <| .po (.k (.int .i64 0)) <| .po (.k (.bool false)) <| .join 1 u_spec_l14Reduce_j9 <| .po (.sc 5) <| .po (.sc 4) <| .po (.emp 3) <| .ite 0 (.po (.k (.int .i64 0)) <| .po (.k (.int .i64 0)) <| .po (.k (.int .i64 0)) <| .po (.k (.int .i64 0)) <| .po (.k (.int .i64 0)) <| .po (.k (.int .i64 0)) <| .po (.mk 39 3 []) <| .jump 0 [0]) <| .po (.e 39 3) <| .po (.flat 5) <| .po (.app 39 3 32 0 5) <| .po (.k (.int .i64 0)) <| .po (.k (.int .i64 0)) <| .po (.k (.int .i64 0)) <| .po (.k (.int .i64 0)) <| .po (.k (.int .i64 0)) <| .po (.k (.int .i64 0)) <| .po (.mk 39 3 []) <| .jump 0 [7]
theorem u_spec_l14Reduce_g : toUPf Try.prog 35 Try.f35 owA u_spec_l14Reduce_h u_spec_l14Reduce_d = some ([(true,3)],u_spec_l14Reduce_u):=by kernel_rfl
end Go.Proofs.Ytpilbhbbdldpeaa

