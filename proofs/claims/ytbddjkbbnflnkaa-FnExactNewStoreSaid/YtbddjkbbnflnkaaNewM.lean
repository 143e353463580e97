/- Marks of the value of NewStore. -/
import Derived.Test.YtbddjkbbnflnkaaNewS
namespace Go.Proofs.Ytbddjkbbnflnkaa
open Go.RowKit
set_option linter.unusedVariables false
set_option linter.unusedSimpArgs false
set_option maxRecDepth 100000

def Rel0 (k : Int) (w : World) (v1 v5 : Value) (wr : World) : Prop := v5 = .int .i64 0 ∧ v1 = .int .i64 k ∧ wr = w
theorem markSlot0_any (A : Option Addr) (c : Nat) (k : Int) (w : World) : Calls Try.prog 145 #[.slice A 0 c, .int .i64 k] w fun e w' => e = .returned (.int .i64 k) ∧ w' = w := by
  go_enter Try.func145, Try.ntmps145
  go_wp2
  go_loopw [1, 5] (Rel0 k w) (fun _ _ _ => 0)
  case atStart => exact ⟨rfl, rfl, rfl⟩
  case round =>
    obtain ⟨rfl, rfl, rfl⟩ := hrel
    go_wp2
    go_ret
    exact ⟨rfl, rfl⟩
theorem markProm0_any (A : Option Addr) (c : Nat) (k : Int) (w : World) : Calls Try.prog 93 #[.slice A 0 c, .int .i64 k] w fun e w' => e = .returned (.int .i64 k) ∧ w' = w := by
  go_enter Try.func93, Try.ntmps93
  go_wp2
  go_loopw [1, 5] (Rel0 k w) (fun _ _ _ => 0)
  case atStart => exact ⟨rfl, rfl, rfl⟩
  case round =>
    obtain ⟨rfl, rfl, rfl⟩ := hrel
    go_wp2
    go_ret
    exact ⟨rfl, rfl⟩
theorem markStr0_any (A : Option Addr) (c : Nat) (k : Int) (w : World) : Calls Try.prog 21 #[.slice A 0 c, .int .i64 k] w fun e w' => e = .returned (.int .i64 k) ∧ w' = w := by
  go_enter Try.func21, Try.ntmps21
  go_wp2
  go_loopw [1, 5] (Rel0 k w) (fun _ _ _ => 0)
  case atStart => exact ⟨rfl, rfl, rfl⟩
  case round =>
    obtain ⟨rfl, rfl, rfl⟩ := hrel
    go_wp2
    go_ret
    exact ⟨rfl, rfl⟩
def ERel (w : World) (base : Nat) (A : Option Addr) (c : Nat) (f : List Nat) (v1 v5 : Value) (wr : World) : Prop :=
  (v5 = .int .i64 0 ∧ v1 = .int .i64 1 ∧ wr = w) ∨ (v5 = .int .i64 1 ∧ v1 = .int .i64 3 ∧ OwnL wr base [.slice A 1 c] [.sl 116 4 [envR false 2]] f ∧ Wrote w wr f)
theorem own_nil {w : World} {base t k : Nat} {u : Value} {f : List Nat} (h : OwnL w base [u] [.sl t k []] f) : ∃ A c, u = .slice A 0 c := by
  cases h with
  | sl h1 h2 h3 h4 h5 h6 =>
    obtain ⟨A, c, e, -, -⟩ := own_shape h1
    exact ⟨A, c, e⟩
theorem env_cells {w : World} {base g c t : Nat} {f : List Nat} {b b' : Bool} {p p' : Int} (h : OwnL w base [.slice (some ⟨g, 0, none⟩) 1 c] [.sl t 4 [envR b p]] f) :
    (∃ z, w.cell? ⟨g, 0, none⟩ = some z) ∧ (∃ z, w.cell? ⟨g, 1, none⟩ = some z) ∧ w.frozen? ⟨g, 0, none⟩ = false ∧ w.frozen? ⟨g, 1, none⟩ = false ∧
    (∃ A2 c2, w.cell? ⟨g, 2, none⟩ = some (.slice A2 0 c2)) ∧ (∃ A3 c3, w.cell? ⟨g, 3, none⟩ = some (.slice A3 0 c3)) ∧
    OwnL ((w.setCell ⟨g, 0, none⟩ (.bool b')).setCell ⟨g, 1, none⟩ (.int .i64 p')) base [.slice (some ⟨g, 0, none⟩) 1 c] [.sl t 4 [envR b' p']] f ∧ Wrote w ((w.setCell ⟨g, 0, none⟩ (.bool b')).setCell ⟨g, 1, none⟩ (.int .i64 p')) f := by
  obtain ⟨-, -, -, gf, -, gs⟩ := own_lens h
  obtain ⟨a1, a2, a3⟩ := own_store h (j := 0) (off := 0) (u := .bool b') rfl rfl trivial
  obtain ⟨-, b2, b3⟩ := own_store h (j := 0) (off := 1) (u := .int .i64 p') rfl rfl trivial
  obtain ⟨c1, -, -⟩ := own_store a1 (j := 0) (off := 1) (u := .int .i64 p') rfl rfl trivial
  obtain ⟨u2, f2, d1, d2, -⟩ := own_sub h (j := 0) (off := 2) rfl rfl
  obtain ⟨u3, f3, e1, e2, -⟩ := own_sub h (j := 0) (off := 3) rfl rfl
  obtain ⟨A2, k2, rfl⟩ := own_nil d2
  obtain ⟨A3, k3, rfl⟩ := own_nil e2
  simp only [Nat.zero_mul, Nat.zero_add] at a1 a2 a3 b2 b3 c1 d1 e1
  exact ⟨a2, b2, a3, b3, ⟨_, _, d1⟩, ⟨_, _, e1⟩, c1, (Wrote.cell w gf gs).trans (Wrote.cell _ gf (by simpa using gs))⟩
theorem markEnv1_any (A : Option Addr) (c base : Nat) (f : List Nat) (w : World) (ha : OwnL w base [.slice A 1 c] [.sl 116 4 [envR true (-1)]] f) :
    Calls Try.prog 92 #[.slice A 1 c, .int .i64 1] w fun e w' => e = .returned (.int .i64 3) ∧ OwnL w' base [.slice A 1 c] [.sl 116 4 [envR false 2]] f ∧ Wrote w w' f := by
  obtain ⟨g, rfl⟩ := own_some ha (by decide)
  obtain ⟨⟨z0, c0⟩, ⟨z1, c1⟩, q0, q1, ⟨A2, k2, c2⟩, ⟨A3, k3, c3⟩, o1, o2⟩ := env_cells (b' := false) (p' := 2) ha
  have HO := Lib.hid o1
  have HW := Lib.hid o2
  clear ha o1 o2
  go_enter Try.func92, Try.ntmps92
  go_wp2
  go_loopw [1, 5] (ERel w base (some ⟨g, 0, none⟩) c f) (fun _ i _ => 1 - (intOf i).toNat)
  case atStart => exact .inl ⟨rfl, rfl, rfl⟩
  case round =>
    rcases hrel with ⟨rfl, rfl, rfl⟩ | ⟨rfl, rfl, h1, h2⟩
    · go_wp2_with fail
      refine (markStr0_any _ _ _ _).mono ?_
      rintro e w2 ⟨rfl, rfl⟩
      go_wp2_with fail
      refine (markSlot0_any _ _ _ _).mono ?_
      rintro e w2 ⟨rfl, rfl⟩
      go_wp2
      go_roundw
      case rel => exact .inr ⟨rfl, rfl, HO.out, HW.out⟩
      case measure => simp [intOf]
    · go_wp2
      go_ret
      exact ⟨rfl, h1, h2⟩
theorem cell_of_heap {w w' : World} {b : Nat} (h : w'.heap[b]? = w.heap[b]?) (o : Nat) : w'.cell? ⟨b, o, none⟩ = w.cell? ⟨b, o, none⟩ := by
  unfold World.cell?
  simp only [h]
theorem own_one {w : World} {base t k : Nat} {u : Value} {e : List DV} {f : List Nat} (h : OwnL w base [u] [.sl t k [e]] f) : ∃ A c, u = .slice A 1 c := by
  cases h with
  | sl h1 h2 h3 h4 h5 h6 =>
    obtain ⟨A, c, e, -, -⟩ := own_shape h1
    exact ⟨A, c, e⟩
theorem markStore_k : Marks Try.prog 36 true (stoR true (-1)) 1 (stoR false 2) 3 := by
  refine ⟨by kernel_rfl, fun w base v vals fs hv ho hnd => ?_⟩
  have hv : v = .agg vals.toArray := hv
  subst hv
  unfold stoR at ho
  obtain ⟨v0, _, f0, _, rfl, rfl, o0, ho⟩ := ownP_cons ho
  obtain ⟨v1, _, f1, _, rfl, rfl, o1, ho⟩ := ownP_cons ho
  obtain ⟨rfl, rfl⟩ := ownP_nil ho
  obtain ⟨A0, c0, rfl⟩ := own_one o0
  obtain ⟨A1, c1, rfl⟩ := own_nil o1
  have HO0 := Lib.hid o0
  have HO1 := Lib.hid o1
  have HN := Lib.hid hnd
  clear o0 o1 ho hnd
  go_enter Try.func36, Try.ntmps36
  go_wp2_with fail
  have hal := fun o => (Below.refl w.heap.size w).alloc (Nat.le_refl _) o
  refine (markEnv1_any A0 c0 base f0 _ (HO0.out.keep fun b hb => (hal _).block b (HO0.out.blocks b hb).2)).mono ?_
  rintro e w1 ⟨rfl, p1, p2⟩
  have hk := p2.block w.heap.size (by simp) (fun hx => absurd (HO0.out.blocks _ hx).2 (Nat.lt_irrefl _))
  have hc := cell_of_heap hk
  have hz : w.heap.size < w1.heap.size := by have := p2.size; simp at this; omega
  have HP := Lib.hid p1
  have HW := Lib.hid p2
  clear p1 p2 hk hal
  go_wp2_with fail
  refine (markProm0_any A1 c1 3 _).mono ?_
  rintro e w2 ⟨rfl, rfl⟩
  go_wp2
  go_ret
  have hal := (Below.refl w.heap.size w).alloc (Nat.le_refl _) (Obj.cells #[Value.slice A0 1 c0, Value.slice A1 0 c1] 43)
  have hd : ∀ b ∈ f1, b ∉ f0 := fun b hb hb0 => by
    have := HN.out
    simp only [List.flatten_cons, List.flatten_nil, List.append_nil] at this
    exact (List.nodup_append.1 this).2.2 b hb0 b hb rfl
  refine ⟨rfl, ⟨HP.out, ?_, trivial⟩, ?_⟩
  · exact (HO1.out.keep fun b hb => hal.block b (HO1.out.blocks b hb).2).wrote HW.out hd
  · exact (Wrote.below hal).trans (HW.out.mono fun b hb => by simp [hb])
end Go.Proofs.Ytbddjkbbnflnkaa
