/- Regions that draw their order. No program here. -/
import Derived.Test.YtlcnokbhoekpkaaAeD
import Derived.Test.YtlcnokbhoekpkaaRegion
namespace Go.Proofs.Ytlcnokbhoekpkaa
open Go.RowKit
set_option linter.unusedVariables false
set_option linter.unusedSimpArgs false

/-! ### what operations look at -/
section
variable {P : Program} {s s' : AS}
/-- the states agree in objects and in the slots of these operands -/
structure Alike (s s' : AS) (xs : List Operand) : Prop where
  ob : s'.ob = s.ob
  n : s'.n = s.n
  sl : ∀ t, Operand.tmp t ∈ xs → s'.sl t = s.sl t
theorem Alike.ev {xs : List Operand} (h : Alike s s' xs) {x : Operand} (hx : x ∈ xs) : s'.ev x = s.ev x := by
  cases x with
  | tmp t => exact h.sl t hx
  | const v => rfl
  | global g => rfl
  | func f => rfl
theorem Alike.own {xs : List Operand} (h : Alike s s' xs) (i st : Nat) : s'.own? i st = s.own? i st := by unfold AS.own?; rw [h.ob, h.n]
theorem Alike.sub {xs ys : List Operand} (h : Alike s s' xs) (hy : ∀ y ∈ ys, y ∈ xs) : Alike s s' ys := ⟨h.ob, h.n, fun t ht => h.sl t (hy _ ht)⟩

theorem hV_alike {op : Op} (h : Alike s s' op.operands.toList) : hV P s' op = hV P s op := by
  have ho := fun i st => h.own i st
  have hoo : s'.own? = s.own? := by funext i st; exact ho i st
  cases op <;> try rfl
  case move x => simp only [hV, h.ev (x := x) (by simp [Op.operands])]
  case assign x => simp only [hV, h.ev (x := x) (by simp [Op.operands])]
  case pick c x y => simp only [hV, h.ev (x := x) (by simp [Op.operands]), h.ev (x := y) (by simp [Op.operands]), h.ev (x := c) (by simp [Op.operands])]
  case load t x => simp only [hV, h.ev (x := x) (by simp [Op.operands])]; unfold ldA; rw [hoo]
  case fieldAddr t x f => simp only [hV, h.ev (x := x) (by simp [Op.operands])]; unfold faV; rw [hoo]
  case field t x f => simp only [hV, h.ev (x := x) (by simp [Op.operands])]
  case indexAddr t x ix => simp only [hV, h.ev (x := x) (by simp [Op.operands]), h.ev (x := ix) (by simp [Op.operands])]; unfold idxV; rw [hoo]
  case index t x ix => simp only [hV, h.ev (x := x) (by simp [Op.operands]), h.ev (x := ix) (by simp [Op.operands])]
  case binOp op t x y ty => simp only [hV, h.ev (x := x) (by simp [Op.operands]), h.ev (x := y) (by simp [Op.operands])]
  case unOp op t x => simp only [hV, h.ev (x := x) (by simp [Op.operands])]
  case convert a b x => simp only [hV, h.ev (x := x) (by simp [Op.operands])]
  case extract x ix => simp only [hV, h.ev (x := x) (by simp [Op.operands])]
  case slice t x lo hi mx =>
    cases mx with
    | some _ => rfl
    | none =>
      have e1 : s'.evI lo = s.evI lo := by
        cases lo with
        | none => rfl
        | some y => simp only [AS.evI, h.ev (x := y) (by simp [Op.operands])]
      have e2 : s'.evI hi = s.evI hi := by
        cases hi with
        | none => rfl
        | some y => simp only [AS.evI, h.ev (x := y) (by simp [Op.operands])]
      simp only [hV, e1, e2, h.ev (x := x) (by simp [Op.operands])]
      unfold slcV; rfl
  case call c =>
    obtain ⟨callee, args, ts⟩ := c
    simp only [hV]
    unfold lenC
    split
    · rename_i y t h1 h2
      have : y ∈ (Op.call ⟨.builtin .len, args, ts⟩).operands.toList := by simp [Op.operands, Call.operands, ← h1]; simpa using congrArg (y ∈ ·) h1
      rw [h.ev this]; unfold lenV; rw [hoo]
    · rfl
end
end Go.Proofs.Ytlcnokbhoekpkaa
