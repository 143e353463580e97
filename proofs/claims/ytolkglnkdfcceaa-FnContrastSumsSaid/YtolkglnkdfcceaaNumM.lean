/- Numbers: the contracts of XNum .. XNum4 as 'Meets'. -/
import Derived.Test.YtolkglnkdfcceaaMeet
import Derived.Test.YtolkglnkdfcceaaGN
namespace Go.Proofs.Ytolkglnkdfcceaa
open Go.RowKit
set_option linter.unusedVariables false
set_option linter.unusedSimpArgs false

def itc (x : It) : List Value := [.int .i64 x.num, .int .i64 x.den, .string x.text]
theorem itc_sc (x : It) : ∀ v ∈ itc x, Sc v := by simp [itc, Sc]
theorem mImplIsNum (x : It) : Meets Try.prog 63 [(true, encIt x)] [(false, [.sc (.bool (numB x))], true)] := meets_sc [(true, itc x)] (false, [.bool (numB x)]) (by kernel_rfl) (by simp) (by simp [Sc]) (by simp) (fun w => implIsNum_any x w)
theorem mSpecIsNum (x : It) : Meets Try.prog 64 [(true, encIt x)] [(false, [.sc (.bool (numB x))], true)] := meets_sc [(true, itc x)] (false, [.bool (numB x)]) (by kernel_rfl) (by simp) (by simp [Sc]) (by simp) (fun w => specIsNum_any x w)
theorem mIsMissing (x : It) : Meets Try.prog 56 [(true, encIt x)] [(false, [.sc (.bool (decide (x = it0)))], true)] := meets_sc [(true, itc x)] (false, [.bool (decide (x = it0))]) (by kernel_rfl) (by simp) (by simp [Sc]) (by simp) (fun w => isMissing_any x w)
theorem mImplAdd (x y : It) : Meets Try.prog 42 [(true, encIt x), (true, encIt y)] [(true, encIt (addN x y), true)] := meets_sc [(true, itc x), (true, itc y)] (true, itc (addN x y)) (by kernel_rfl) (by simp) (itc_sc _) (by simp) (fun w => implAdd_any x y w)
theorem mSpecAdd (x y : It) : Meets Try.prog 46 [(true, encIt x), (true, encIt y)] [(true, encIt (addN x y), true)] := meets_sc [(true, itc x), (true, itc y)] (true, itc (addN x y)) (by kernel_rfl) (by simp) (itc_sc _) (by simp) (fun w => specAdd_any x y w)
theorem mImplMul (x y : It) : Meets Try.prog 43 [(true, encIt x), (true, encIt y)] [(true, encIt (mulN x y), true)] := meets_sc [(true, itc x), (true, itc y)] (true, itc (mulN x y)) (by kernel_rfl) (by simp) (itc_sc _) (by simp) (fun w => implMul_any x y w)
theorem mSpecMul (x y : It) : Meets Try.prog 47 [(true, encIt x), (true, encIt y)] [(true, encIt (mulN x y), true)] := meets_sc [(true, itc x), (true, itc y)] (true, itc (mulN x y)) (by kernel_rfl) (by simp) (itc_sc _) (by simp) (fun w => specMul_any x y w)
theorem mImplSub (x y : It) : Meets Try.prog 68 [(true, encIt x), (true, encIt y)] [(true, encIt (subN x y), true)] := meets_sc [(true, itc x), (true, itc y)] (true, itc (subN x y)) (by kernel_rfl) (by simp) (itc_sc _) (by simp) (fun w => implSub_any x y w)
theorem mSpecSub (x y : It) : Meets Try.prog 70 [(true, encIt x), (true, encIt y)] [(true, encIt (subN x y), true)] := meets_sc [(true, itc x), (true, itc y)] (true, itc (subN x y)) (by kernel_rfl) (by simp) (itc_sc _) (by simp) (fun w => specSub_any x y w)
theorem mImplDiv (x y : It) : Meets Try.prog 67 [(true, encIt x), (true, encIt y)] [(true, encIt (divN x y), true)] := meets_sc [(true, itc x), (true, itc y)] (true, itc (divN x y)) (by kernel_rfl) (by simp) (itc_sc _) (by simp) (fun w => implDiv_any x y w)
theorem mSpecDiv (x y : It) : Meets Try.prog 69 [(true, encIt x), (true, encIt y)] [(true, encIt (divN x y), true)] := meets_sc [(true, itc x), (true, itc y)] (true, itc (divN x y)) (by kernel_rfl) (by simp) (itc_sc _) (by simp) (fun w => specDiv_any x y w)
theorem mImplNeg (x : It) : Meets Try.prog 73 [(true, encIt x)] [(true, encIt (negN x), true)] := meets_sc [(true, itc x)] (true, itc (negN x)) (by kernel_rfl) (by simp) (itc_sc _) (by simp) (fun w => implNeg_any x w)
theorem mSpecNeg (x : It) : Meets Try.prog 74 [(true, encIt x)] [(true, encIt (negN x), true)] := meets_sc [(true, itc x)] (true, itc (negN x)) (by kernel_rfl) (by simp) (itc_sc _) (by simp) (fun w => specNeg_any x w)
theorem mIntItem (n : Int) : Meets Try.prog 31 [(false, [.sc (.int .i64 n)])] [(true, encIt (intN n), true)] := meets_sc [(false, [.int .i64 n])] (true, itc (intN n)) (by kernel_rfl) (by simp) (itc_sc _) (by simp) (fun w => intItem_any n w)
theorem mL2Num (n : Int) : Meets Try.prog 35 [(false, [.sc (.int .i64 n)])] [(true, encIt (l2N n), true)] := meets_sc [(false, [.int .i64 n])] (true, itc (l2N n)) (by kernel_rfl) (by simp) (itc_sc _) (by simp) (fun w => l2Num_any n w)
theorem mIn (x lo hi : Int) : Meets Try.prog 33 [(false, [.sc (.int .i64 x)]), (false, [.sc (.int .i64 lo)]), (false, [.sc (.int .i64 hi)])] [(false, [.sc (.bool (decide (lo ≤ x ∧ x ≤ hi)))], true)] :=
  meets_sc [(false, [.int .i64 x]), (false, [.int .i64 lo]), (false, [.int .i64 hi])] (false, [.bool (decide (lo ≤ x ∧ x ≤ hi))]) (by kernel_rfl) (by simp) (by simp [Sc]) (by simp) (fun w => (in_any x lo hi w).mono fun e w' ⟨h1, h2⟩ => ⟨h1, by subst h2; exact Below.refl _ _⟩)
end Go.Proofs.Ytolkglnkdfcceaa
