/- MatchArguments: the plain law's side (phases as steps that may fail), l25Taken. -/
import Derived.Test.YtmbjaohohkfjbaaTypB
namespace Go.Proofs.Ytmbjaohohkfjbaa
open Go.RowKit
set_option linter.unusedVariables false
set_option linter.unusedSimpArgs false
set_option maxRecDepth 100000

theorem mem_of_allB {l : List Int} {n : Int} (h : allB (fun j => !decide (l.getD j default = n)) l.length = true) : ¬ n ∈ l := by
  intro hm
  obtain ⟨j, hj, rfl⟩ := List.mem_iff_getElem.1 hm
  have := allB_iff.1 h j hj
  rw [List.getD_eq_getElem?_getD, List.getElem?_eq_getElem hj] at this
  simp at this
def e0S : ByteArray := ⟨#[105, 110, 118, 97, 108, 105, 100, 32, 102, 111, 114, 109, 97, 108, 115]⟩
def e1S : ByteArray := ⟨#[102, 111, 114, 109, 97, 108, 32, 97, 114, 103, 117, 109, 101, 110, 116, 32, 109, 97, 116, 99, 104, 101, 100, 32, 98, 121, 32, 115, 101, 118, 101, 114, 97, 108, 32, 97, 114, 103, 117, 109, 101, 110, 116, 115]⟩
def e2S : ByteArray := ⟨#[97, 114, 103, 117, 109, 101, 110, 116, 32, 109, 97, 116, 99, 104, 101, 115, 32, 115, 101, 118, 101, 114, 97, 108, 32, 102, 111, 114, 109, 97, 108, 115]⟩
def e3S : ByteArray := ⟨#[117, 110, 117, 115, 101, 100, 32, 97, 114, 103, 117, 109, 101, 110, 116]⟩
def dotS : ByteArray := ⟨#[46, 46, 46]⟩
abbrev MS (α : Type) := Sum ByteArray α
def itS {α : Type} (step : Nat → α → MS α) (s0 : α) : Nat → MS α
  | 0 => .inr s0
  | a + 1 => match itS step s0 a with
    | .inl e => .inl e
    | .inr s => step a s
theorem itS_inl {α : Type} {step : Nat → α → MS α} {s0 : α} {e : ByteArray} {a : Nat} (h : itS step s0 a = .inl e) : ∀ {b}, a ≤ b → itS step s0 b = .inl e := by
  intro b hb
  induction b with
  | zero => obtain rfl : a = 0 := by omega
            exact h
  | succ b ih =>
    rcases Nat.lt_or_ge a (b + 1) with h1 | h1
    · unfold itS; rw [ih (by omega)]
    · obtain rfl : a = b + 1 := by omega
      exact h
theorem itS_step {α : Type} {step : Nat → α → MS α} {s0 s : α} {a : Nat} (h : itS step s0 a = .inr s) : itS step s0 (a + 1) = step a s := by
  conv => lhs; unfold itS
  rw [h]

section
variable (F L : List ByteArray)
def vF (i : Nat) : Bool := nameB (F.getD i default) && !decide (find1 F (F.getD i default) < i)
def dI : Nat → Nat
  | 0 => F.length
  | i + 1 => if F.getD i default = dotS then i else dI i
def step1 (D : Int) (a : Nat) (mt : List Int) : MS (List Int) :=
  if find1 F (L.getD a default) < 0 ∨ find1 F (L.getD a default) = D then .inr mt
  else if 0 ≤ mt.getD (find1 F (L.getD a default)).toNat default then .inl e1S else .inr (mt.set (find1 F (L.getD a default)).toNat a)
def cP (s : ByteArray) (ex : List Int) (i : Nat) : Bool := decide (ex.getD i default < 0) && (decide (s.size < (F.getD i default).size) && decide ((F.getD i default).extract 0 s.size = s))
def cC (s : ByteArray) (ex : List Int) : Nat → Nat × Int
  | 0 => (0, -1)
  | i + 1 => if cP F s ex i = true then ((cC s ex i).1 + 1, i) else cC s ex i
def step2 (D : Nat) (ex : List Int) (a : Nat) (mt : List Int) : MS (List Int) :=
  if L.getD a default = ⟨#[]⟩ ∨ (a : Int) ∈ ex then .inr mt
  else if 1 < (cC F (L.getD a default) ex D).1 then .inl e2S
  else if (cC F (L.getD a default) ex D).1 = 0 then .inr mt
  else if 0 ≤ mt.getD (cC F (L.getD a default) ex D).2.toNat default then .inl e1S else .inr (mt.set (cC F (L.getD a default) ex D).2.toNat a)
end
def nx (mt : List Int) (D : Nat) : Nat := ((List.range D).find? fun j => decide (mt.getD j default < 0)).getD D
def step3 (L : List ByteArray) (n D : Nat) (a : Nat) (s : List Int × List Int) : MS (List Int × List Int) :=
  if (a : Int) ∈ s.1 then .inr s
  else if L.getD a default = ⟨#[]⟩ ∧ nx s.1 D < D then .inr (s.1.set (nx s.1 D) a, s.2)
  else if D < n then .inr (s.1, s.2 ++ [(a : Int)]) else .inl e3S
def M1 (F L : List ByteArray) : Nat → MS (List Int) := itS (step1 F L (dI F F.length)) (List.replicate F.length (-1))
def M2 (F L : List ByteArray) (ex : List Int) : Nat → MS (List Int) := itS (step2 F L (dI F F.length) ex) ex
def M3 (F L : List ByteArray) (mt : List Int) : Nat → MS (List Int × List Int) := itS (step3 L F.length (dI F F.length)) (mt, [])
def outM : MS (List Int × List Int) → List Int × List Int × ByteArray
  | .inl e => ([], [], e)
  | .inr s => (s.1, s.2, ⟨#[]⟩)
def matchA (F L : List ByteArray) : List Int × List Int × ByteArray :=
  if allB (vF F) F.length = true then (match M1 F L L.length with
    | .inl e => ([], [], e)
    | .inr m1 => (match M2 F L m1 L.length with
      | .inl e => ([], [], e)
      | .inr m2 => outM (M3 F L m2 L.length))) else ([], [], e0S)
theorem nx_is {mt : List Int} {D x : Nat} (hx : x ≤ D) (h1 : ∀ j, j < x → ¬ mt.getD j default < 0) (h2 : x = D ∨ mt.getD x default < 0) : nx mt D = x := by
  unfold nx
  rcases Nat.lt_or_ge x D with h | h
  · have h3 : mt.getD x default < 0 := by rcases h2 with h2 | h2
                                          · omega
                                          · exact h2
    have : (List.range D).find? (fun j => decide (mt.getD j default < 0)) = some x := by
      rw [List.find?_range_eq_some]
      exact ⟨decide_eq_true h3, List.mem_range.2 h, fun j hj => by simpa using h1 j hj⟩
    rw [this]; rfl
  · have : (List.range D).find? (fun j => decide (mt.getD j default < 0)) = none := by
      rw [List.find?_range_eq_none]
      intro j hj; simpa using h1 j (by omega)
    rw [this]
    show D = x
    omega
end Go.Proofs.Ytmbjaohohkfjbaa
