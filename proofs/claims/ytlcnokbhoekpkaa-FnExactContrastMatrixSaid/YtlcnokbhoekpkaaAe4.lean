/- Operations that change no object and make none: their value ('hV') and that it is right. No program here. -/
import Derived.Test.YtlcnokbhoekpkaaAe3
namespace Go.Proofs.Ytlcnokbhoekpkaa
open Go.RowKit
set_option linter.unusedVariables false
set_option linter.unusedSimpArgs false

def AS.push (s : AS) (x : Ob) : AS := { s with ob := upd s.ob s.n x, n := s.n + 1, c := s.c + 1 }
def AS.pushL (s : AS) : List Ob → AS
  | [] => s
  | x :: r => (s.push x).pushL r

structure Ext (n n' : Nat) (w : World) (E E' : En) : Prop where
  same : ∀ i, i < n → E'.v i = E.v i ∧ E'.m i = E.m i ∧ E'.o i = E.o i
  A : ∀ b, E.A b → E'.A b
  A' : ∀ b, E'.A b → E.A b ∨ w.heap.size ≤ b
  new : ∀ i, n ≤ i → i < n' → ∀ b, b ∈ E'.m i ∨ b ∈ E'.o i → w.heap.size ≤ b
theorem Ext.refl {n : Nat} {w : World} {E : En} : Ext n n w E E := ⟨fun _ _ => ⟨rfl, rfl, rfl⟩, fun _ h => h, fun _ h => .inl h, fun i h1 h2 => by omega⟩

def HPost (w0 : Cx) (N : Nat) (s : AS) (x : AV) (news : List Ob) (o : Oper) (a : Act) (w : World) (E : En) (a' : Act) (w' : World) : Prop :=
  ∃ v E', a' = a.put o.dst v ∧ Below w.heap.size w w' ∧ Ext s.n (s.pushL news).n w E E' ∧ RepE w0 N (s.pushL news) a w' E' ∧ SlotR w' E' (s.pushL news).lv (s.pushL news).c x v

/-- the operation yields x and makes the objects 'news', whatever the frame -/
def HStep (P : Program) (o : Oper) (s : AS) (x : AV) (news : List Ob) : Prop :=
  ∀ w0 N a w E, RepE w0 N s a w E → o.wp P a w (HPost w0 N s x news o a w E) (fun _ _ _ => False)

theorem HStep.of_run {P : Program} {o : Oper} {s : AS} {x : AV} (h : ∀ w0 N a w E, RepE w0 N s a w E → ∃ v, (execOp a.eval o).run P w = .ok (.value v) w ∧ SlotR w E s.lv s.c x v) : HStep P o s x [] := by
  intro w0 N a w E hr
  obtain ⟨v, h1, h2⟩ := h w0 N a w E hr
  unfold Oper.wp
  rw [h1, Oper.upon_value]
  exact ⟨v, E, rfl, Below.refl _ _, Ext.refl, hr, h2⟩

/-! ### operands -/
def cAC : Value → Option AC
  | .bool b => some (.d (.sc (.bool b)))
  | .int k n => some (.d (.sc (.int k n)))
  | .string t => some (.d (.sc (.string t)))
  | .slice none 0 0 => some .nil
  | _ => none
def cAV (v : Value) : AV := match cAC v with | some c => .p false [c] | none => .und
def AS.ev (s : AS) : Operand → AV
  | .tmp t => s.sl t
  | .const v => cAV v
  | _ => .und

section
variable {w : World} {E : En} {L : Nat → Option Nat} {c : Nat}
theorem slot_one {x : AC} {v : Value} (h : SlotR w E L c (.p false [x]) v) : CellR w E L c x v := by
  have h' : CellsR w E L c [x] [v] := h
  exact h'.2 0 x v rfl rfl
theorem slot_one_mk {x : AC} {v : Value} (h : CellR w E L c x v) : SlotR w E L c (.p false [x]) v := by
  show CellsR w E L c [x] [v]
  exact CellsR.cons h CellsR.nil
theorem slot_agg {cs : List AC} {v : Value} (h : SlotR w E L c (.p true cs) v) : ∃ vals : List Value, v = .agg vals.toArray ∧ CellsR w E L c cs vals := h
theorem slot_sc {u v : Value} (h : SlotR w E L c (.p false [.d (.sc u)]) v) : v = u := (RepL.scOf (slot_one h)).1
theorem slot_sc_mk {u : Value} (h : Sc u) : SlotR w E L c (.p false [.d (.sc u)]) u := slot_one_mk (RepL.sc h .nil)
theorem cAC_ok {v : Value} {x : AC} (h : cAC v = some x) : CellR w E L c x v := by
  unfold cAC at h
  split at h
  all_goals first | (injection h with h; subst h) | cases h
  · exact RepL.sc trivial .nil
  · exact RepL.sc trivial .nil
  · exact RepL.sc trivial .nil
  · exact (rfl : Value.slice none 0 0 = .slice none 0 0)
theorem cAV_ok (v : Value) : SlotR w E L c (cAV v) v := by
  unfold cAV
  split
  · rename_i h; exact slot_one_mk (cAC_ok h)
  · trivial
end
theorem ev_ok {w0 : Cx} {w : World} {N : Nat} {s : AS} {a : Act} {E : En} (h : RepE w0 N s a w E) (x : Operand) : SlotR w E s.lv s.c (s.ev x) (a.eval x) := by
  cases x with
  | tmp t => exact h.slot t
  | const v => exact cAV_ok v
  | global g => trivial
  | func f => trivial

/-! ### scalars -/
def intF (op : BinOp) (k k' : IntKind) (a b : Int) : Option Value :=
  match op with
  | .add => if k = k' then some (.int k (k.wrap (a + b))) else none
  | .sub => if k = k' then some (.int k (k.wrap (a - b))) else none
  | .mul => if k = k' then some (.int k (k.wrap (a * b))) else none
  | .quo => if k = k' ∧ b ≠ 0 then some (.int k (k.wrap (a.tdiv b))) else none
  | .rem => if k = k' ∧ b ≠ 0 then some (.int k (a.tmod b)) else none
  | .and => if k = k' then some (.int k (k.wrap (BitVec.ofInt k.bits a &&& BitVec.ofInt k.bits b).toNat)) else none
  | .or => if k = k' then some (.int k (k.wrap (BitVec.ofInt k.bits a ||| BitVec.ofInt k.bits b).toNat)) else none
  | .xor => if k = k' then some (.int k (k.wrap (BitVec.ofInt k.bits a ^^^ BitVec.ofInt k.bits b).toNat)) else none
  | .andNot => if k = k' then some (.int k (k.wrap (BitVec.ofInt k.bits a &&& ~~~ BitVec.ofInt k.bits b).toNat)) else none
  | .eql => if k = k' then some (.bool (decide (a = b))) else none
  | .neq => if k = k' then some (.bool (!decide (a = b))) else none
  | .lss => if k = k' then some (.bool (decide (a < b))) else none
  | .leq => if k = k' then some (.bool (decide (a ≤ b))) else none
  | .gtr => if k = k' then some (.bool (decide (b < a))) else none
  | .geq => if k = k' then some (.bool (decide (b ≤ a))) else none
  | .shl => if b < 0 then none else some (.int k (k.wrap (a * 2 ^ (min b.toNat k.bits))))
  | .shr => if b < 0 then none else some (.int k (a.fdiv (2 ^ (min b.toNat k.bits))))
def strF (op : BinOp) (x y : ByteArray) : Option Value :=
  match op with
  | .add => if x.size + y.size ≤ maxLen then some (.string (x ++ y)) else none
  | .eql => some (.bool (decide (x = y)))
  | .neq => some (.bool (!decide (x = y)))
  | .lss => some (.bool (Op.bytesLess x.toList y.toList))
  | .leq => some (.bool (Op.bytesLess x.toList y.toList || decide (x = y)))
  | .gtr => some (.bool (!(Op.bytesLess x.toList y.toList || decide (x = y))))
  | .geq => some (.bool (!Op.bytesLess x.toList y.toList))
  | _ => none
def binF (P : Program) (op : BinOp) (t : TypeId) (x y : Value) : Option Value :=
  match x, y with
  | .int k a, .int k' b => intF op k k' a b
  | .string a, .string b => strF op a b
  | .bool a, .bool b => match op, P.underlying t with
    | .eql, some .bool => some (.bool (a == b))
    | .neq, some .bool => some (.bool (!(a == b)))
    | _, _ => none
  | _, _ => none
def unF (op : UnOp) (x : Value) : Option Value :=
  match op, x with
  | .neg, .int k n => some (.int k (k.wrap (0 - n)))
  | .not, .bool b => some (.bool (!b))
  | _, _ => none
def cvF (P : Program) (src dst : TypeId) (x : Value) : Option Value :=
  match P.underlying src, P.underlying dst, x with
  | some _, some (.int k), .int _ n => some (.int k (k.wrap n))
  | some _, some .string, .string s => some (.string s)
  | _, _, _ => none

theorem ba_list_eq {x y : ByteArray} : (x.toList == y.toList) = decide (x = y) := by
  rw [ByteArray.toList_eq, ByteArray.toList_eq]
  by_cases h : x = y
  · subst h; simp
  · rw [decide_eq_false h, beq_eq_false_iff_ne]
    intro e
    apply h
    exact ByteArray.ext (Array.toList_inj.1 e)

theorem binF_ok {P : Program} {op : BinOp} {t : TypeId} {x y v : Value} (h : binF P op t x y = some v) (X Y : Operand) (w : World) :
    (do eqGuard op t X Y x y; binOp op t x y : Sem Value).run P w = .ok v w ∧ Sc v := by
  unfold binF at h
  split at h
  · rename_i k a k' b
    unfold intF at h
    split at h
    all_goals
      split at h
      all_goals first | cases h | (injection h with h; subst h)
      try simp_all
    all_goals simp_all [eqGuard, binOp, Op.intArith, Op.intDiv, Op.intBits, Op.intCmp, Op.shift, Sc]
    all_goals first | rfl | (intro hb; omega)
  · rename_i a b
    unfold strF at h
    split at h
    · split at h
      · injection h with h; subst h
        rename_i hsz
        unfold maxLen at hsz
        have : ¬ ((a.size + b.size : Nat) : Int) > IntKind.i64.max := by
          simp [IntKind.max, IntKind.bits, IntKind.signed]; omega
        simp only [eqGuard, binOp, Op.stringOp]
        rw [if_neg this]
        simp [Sc]
      · cases h
    all_goals first | cases h | skip
    all_goals simp [eqGuard, binOp, Op.stringOp, Sc, ba_list_eq]
  · rename_i a b
    split at h
    · rename_i hu; injection h with h; subst h; simp [eqGuard, run_eql_bool w t a b hu, Sc]
    · rename_i hu; injection h with h; subst h; simp [eqGuard, run_neq_bool w t a b hu, Sc]
    · cases h
  · cases h

theorem unF_ok {P : Program} {op : UnOp} {x v : Value} (h : unF op x = some v) (w : World) : (Op.unary op x).run P w = .ok v w ∧ Sc v := by
  unfold unF at h
  split at h
  · injection h with h; subst h; simp [Op.unary, Op.intArith, Sc]
  · injection h with h; subst h; simp [Op.unary, Sc]
  · cases h
theorem cvF_ok {P : Program} {a b : TypeId} {x v : Value} (h : cvF P a b x = some v) (w : World) : (convert a b x).run P w = .ok v w ∧ Sc v := by
  unfold cvF at h
  split at h
  · rename_i d k kk n h1 h2; injection h with h; subst h; simp [convert, run_underlying h1, run_underlying h2, Conv.intToInt, Sc]
  · rename_i d s h1 h2; injection h with h; subst h; simp [convert, run_underlying h1, run_underlying h2, Sc]
  · cases h

/-! ### the values -/
def AS.own? (s : AS) (i st : Nat) : Option Ob := if i < s.n then (if (s.ob i).st = some st then some (s.ob i) else none) else none
def ldV (P : Program) (t : TypeId) (cs : List AC) : Option AV :=
  match tagg P t with
  | some true => match tsz P t with | some k => if k ≤ cs.length then some (.p true (cs.take k)) else none | none => none
  | some false => match cs with | c :: _ => some (.p false [c]) | [] => none
  | none => none
def scAV (v : Value) : AV := .p false [.d (.sc v)]
def AS.evI (s : AS) : Option Operand → Option (Option Int)
  | none => some none
  | some x => match s.ev x with | .p false [.d (.sc (.int _ i))] => some (some i) | _ => none
def cutF (lo hi : Option Int) (len : Nat) : Option (Nat × Nat) :=
  if 0 ≤ lo.getD 0 ∧ lo.getD 0 ≤ hi.getD len ∧ hi.getD len ≤ len then some ((lo.getD 0).toNat, (hi.getD len).toNat) else none

def slcV (P : Program) (s : AS) (t : TypeId) (x : AV) (lo hi : Option Int) : Option AV :=
  match x with
  | .p false [.d (.sc (.string b))] => match P.underlying t, cutF lo hi b.size with | some .string, some (l, h) => some (scAV (.string (b.extract l h))) | _, _ => none
  | .p false [.d (.sl ty k es)] => match tel P t, cutF lo hi es.length with | some (_, k'), some (l, h) => if k' = k then some (.p false [.d (.sl ty k ((es.drop l).take (h - l)))]) else none | _, _ => none
  | _ => none

def lenV (P : Program) (s : AS) (t : TypeId) : AC → Option Nat
  | .d (.sc (.string b)) => match P.underlying t with | some .string => some b.size | _ => none
  | .d (.sl _ _ es) => if (tel P t).isSome then some es.length else none
  | .nil => if (tel P t).isSome then some 0 else none
  | .own i st => if (tel P t).isSome then (match s.own? i st with | some (.row _ _ _ es _) => some es.length | some (.arr _ _ _ es) => some es.length | some (.frz _ (.sl _ _ es)) => some es.length | _ => none) else none
  | _ => none

def idxV (P : Program) (s : AS) (t : TypeId) (c : AC) (i : Int) : Option AV :=
  if 0 ≤ i then
    match tel P t, c with
    | some (_, k'), .d (.sl _ k es) => if k' = k then (match es[i.toNat]? with | some e => some (.p false [.rd e]) | none => none) else none
    | some (_, k'), .own id st => (match s.own? id st with
      | some (.row _ _ k es _) => if k' = k ∧ i.toNat < es.length then some (.p false [.elt id st k i.toNat 0]) else none
      | some (.arr _ _ k es) => if k' = k ∧ i.toNat < es.length then some (.p false [.elt id st k i.toNat 0]) else none
      | some (.frz _ (.sl _ k es)) => if k' = k then (match es[i.toNat]? with | some e => some (.p false [.rd e]) | none => none) else none
      | _ => none)
    | _, _ => none
  else none

def ldA (P : Program) (s : AS) (t : TypeId) : AV → Option AV
  | .p false [.ptr i st off] => (match s.own? i st with | some (.var _ _ cs) => ldV P t (cs.drop off) | _ => none)
  | .p false [.elt i st k j off] => (match s.own? i st with
    | some (.row _ _ k' es _) => if k' = k then (match es[j]? with | some e => ldV P t ((e.drop off).map .d) | none => none) else none
    | some (.arr _ _ k' es) => if k' = k then (match es[j]? with | some e => ldV P t (e.drop off) | none => none) else none
    | _ => none)
  | .p false [.rd cs] => ldV P t (cs.map .d)
  | _ => none

def faV (P : Program) (s : AS) (t : TypeId) (f : Nat) (x : AV) : Option AV :=
  match tfl P t f with
  | some (fo, k, _) => if 0 < k then (match x with
    | .p false [.ptr i st off] => if (s.own? i st).isSome then some (.p false [.ptr i st (off + fo)]) else none
    | .p false [.elt i st k' j off] => if (s.own? i st).isSome then some (.p false [.elt i st k' j (off + fo)]) else none
    | .p false [.rd cs] => some (.p false [.rd (cs.drop fo)])
    | _ => none) else none
  | none => none

def fvV (P : Program) (t : TypeId) (f : Nat) (x : AV) : Option AV :=
  match tfl P t f, x with
  | some (fo, k, true), .p true cs => if fo + k ≤ cs.length then some (.p true ((cs.drop fo).take k)) else none
  | some (fo, k, false), .p true cs => (match cs[fo]? with | some c => some (.p false [c]) | none => none)
  | _, _ => none

def binV (P : Program) (op : BinOp) (t : TypeId) : AV → AV → Option AV
  | .p false [.d (.sc a)], .p false [.d (.sc b)] => (match binF P op t a b with | some v => some (scAV v) | none => none)
  | _, _ => none
def unV (op : UnOp) : AV → Option AV
  | .p false [.d (.sc a)] => (match unF op a with | some v => some (scAV v) | none => none)
  | _ => none
def cvV (P : Program) (a b : TypeId) : AV → Option AV
  | .p false [.d (.sc x)] => (match cvF P a b x with | some v => some (scAV v) | none => none)
  | _ => none
def chV (P : Program) (t : TypeId) : AV → AV → Option AV
  | .p false [.d (.sc (.string b))], .p false [.d (.sc (.int _ i))] => (match P.underlying t with
    | some .string => if 0 ≤ i then (match b[i.toNat]? with | some u => some (scAV (.int .u8 u.toNat)) | none => none) else none
    | _ => none)
  | _, _ => none
def xtV (ix : Nat) : AV → Option AV
  | .tup xs => (match xs[ix]? with | some (b, cs) => some (.p b cs) | none => none)
  | _ => none

def pkV (x y : AV) : AV → Option AV
  | .p false [.d (.sc (.bool b))] => some (if b then x else y)
  | _ => none
def lenC (P : Program) (s : AS) : Callee → List Operand → List TypeId → Option AV
  | .builtin .len, [x], [t] => (match s.ev x with | .p false [c] => (match lenV P s t c with | some n => some (scAV (.int .i64 n)) | none => none) | _ => none)
  | _, _, _ => none

def hV (P : Program) (s : AS) : Op → Option AV
  | .move x => some (s.ev x)
  | .assign x => some (s.ev x)
  | .pick c x y => pkV (s.ev x) (s.ev y) (s.ev c)
  | .load t x => ldA P s t (s.ev x)
  | .fieldAddr t x f => faV P s t f (s.ev x)
  | .field t x f => fvV P t f (s.ev x)
  | .indexAddr t x ix => (match s.ev x, s.ev ix with | .p false [c], .p false [.d (.sc (.int _ i))] => idxV P s t c i | _, _ => none)
  | .index t x ix => chV P t (s.ev x) (s.ev ix)
  | .binOp op t x y _ => binV P op t (s.ev x) (s.ev y)
  | .unOp op _ x => unV op (s.ev x)
  | .convert a b x => cvV P a b (s.ev x)
  | .extract x ix => xtV ix (s.ev x)
  | .slice t x lo hi none => (match s.evI lo, s.evI hi with | some l, some h => slcV P s t (s.ev x) l h | _, _ => none)
  | .call c => lenC P s c.callee c.args.toList c.argTypes.toList
  | _ => none
end Go.Proofs.Ytlcnokbhoekpkaa
