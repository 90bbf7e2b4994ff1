/-
  Whatever the input, the laws of the layer heap hold. No condition.
-/
import Derived.Test.YtnlelckfhlcbgaaHeaL1
import Derived.Test.YtnlelckfhlcbgaaHeaL2
import Derived.Test.YtnlelckfhlcbgaaHeaL4
import Derived.Test.YtnlelckfhlcbgaaIdlRow
import Derived.Test.YtnlelckfhlcbgaaRows
namespace Go.Proofs.Ytnlelckfhlcbgaa
open Go Go.Idl Go.RowKit Go.ChangeShapes Go.WideShapes
set_option linter.unusedSimpArgs false
set_option linter.unusedVariables false
set_option maxRecDepth 100000
set_option maxHeartbeats 1000000
attribute [local irreducible] Go.Idl.IWP Go.Idl.IOps Go.Idl.Obl Go.Idl.OpG Go.Idl.thenI Go.Idl.inBlockI Go.Idl.LoopU Go.Idl.noGotoI Go.Idl.jumpI
theorem Try.own : ownKnob Try.prog.godebug = none := by kernel_rfl
theorem Try.laidOut : laidOutB Try.prog = true := by kernel_rfl
theorem ty_items {n : Nat} {es : List (List IV)} (h : ∀ x ∈ es, Ty T n 25 x) : ∃ l : List It, es.flatten = items l ∧ es.length = l.length := by
  induction es with
  | nil => exact ⟨[], rfl, rfl⟩
  | cons x es ih =>
    obtain ⟨l, h1, h2⟩ := ih fun y hy => h y (by simp [hy])
    cases n with
    | zero => exact (h x (by simp)).elim
    | succ n =>
      cases n with
      | zero =>
        obtain ⟨_, _, _, h3, _⟩ := h x (by simp)
        exact h3.elim
      | succ n =>
        obtain ⟨_, _, rfl, ⟨i, rfl, _⟩, _, _, rfl, ⟨p, rfl, _⟩, _, _, rfl, ⟨s, rfl, _⟩, rfl⟩ := h x (by simp)
        exact ⟨⟨i, p, s⟩ :: l, by rw [List.flatten_cons, h1]; rfl, by simp [h2]⟩
theorem heapOrder_args : ∀ xs, ArgsTy T 4 Try.f7.params.toList xs → Idl.Spec Try.prog 7 xs [] (Only (.sc (.bool true)) []) := by
  rintro xs ⟨_, _, rfl, ⟨_, rfl, _, _, rfl, ⟨i, rfl, _⟩, _, _, rfl, ⟨p, rfl, _⟩, _, _, rfl, ⟨s, rfl, _⟩, rfl⟩, _, _, rfl, ⟨_, rfl, _, _, rfl, ⟨i2, rfl, _⟩, _, _, rfl, ⟨p2, rfl, _⟩, _, _, rfl, ⟨s2, rfl, _⟩, rfl⟩, _, _, rfl, ⟨_, rfl, _, _, rfl, ⟨i3, rfl, _⟩, _, _, rfl, ⟨p3, rfl, _⟩, _, _, rfl, ⟨s3, rfl, _⟩, rfl⟩, rfl⟩
  exact order_law ⟨i, p, s⟩ ⟨i2, p2, s2⟩ ⟨i3, p3, s3⟩
theorem heapOrder_lifted (os : Os) (started : os.Started) (H : Type) (enc : TypeId × Value → H) :
    ReturnsInHanded {} Try.checked os 7 .any (Rows.heapOrderSpec.pre6 enc Try.prog Try.f7 Rows.heapOrderRow.domain false) (Rows.heapOrderSpec.post enc Try.prog Try.f7 false true false false) := by
  refine law_row (n := 4) (T := T) (bt := 4) (C := Try.checked) tok Try.own started (by kernel_rfl) Try.func7 rfl Try.laidOut (by kernel_rfl) rfl (by kernel_rfl) rfl ?_ ?_
    (ChangeSpec.witness6 (enc := enc) (C := Try.checked) false ⟨#[], #[.agg #[.int .i64 0, .int .u64 0, .int .u64 0], .agg #[.int .i64 0, .int .u64 0, .int .u64 0], .agg #[.int .i64 0, .int .u64 0, .int .u64 0]], []⟩ 8 (by kernel_rfl) (by kernel_rfl) (by kernel_rfl) (by kernel_rfl))
  · intro ds h
    obtain ⟨a0, a1, a2, rfl⟩ : ∃ a0 a1 a2, ds = [a0, a1, a2] := by
      match ds, h with
      | [a0, a1, a2], _ => exact ⟨a0, a1, a2, rfl⟩
    rfl
  · exact heapOrder_args
theorem heapOrder_holds : Rows.HeapOrderSaid :=
  OpenClaim.holds_of_wide 7 Try.f7 rfl rfl rfl rfl rfl rfl rfl ⟨rfl, rfl, rfl, rfl, rfl⟩ rfl rfl rfl rfl rfl (by kernel_rfl) Try.func7 (by kernel_rfl)
    (of_decide_eq_true (by kernel_rfl)) (by unfold Func.isWrapper; first | (rw [if_pos (by decide +kernel)]; kernel_rfl) | (rw [if_neg (by decide +kernel)]; exact ⟨rfl, rfl⟩))
    (fun os started H enc _ => heapOrder_lifted os started H enc)

theorem heapFirst_args : ∀ xs, ArgsTy T 4 Try.f8.params.toList xs → Idl.Spec Try.prog 8 xs [] (Only (.sc (.bool true)) []) := by
  rintro xs ⟨_, _, rfl, ⟨es, hy, hel, hes⟩, _, _, rfl, ⟨_, rfl, _, _, rfl, ⟨i, rfl, _⟩, _, _, rfl, ⟨p, rfl, _⟩, _, _, rfl, ⟨s, rfl, _⟩, rfl⟩, rfl⟩
  cases hy
  obtain ⟨l, l1, l2⟩ := ty_items hes
  rw [l1, l2]
  exact first_law l ⟨i, p, s⟩ (by omega)
theorem heapFirst_lifted (os : Os) (started : os.Started) (H : Type) (enc : TypeId × Value → H) :
    ReturnsInHanded {} Try.checked os 8 .any (Rows.heapFirstSpec.pre6 enc Try.prog Try.f8 Rows.heapFirstRow.domain false) (Rows.heapFirstSpec.post enc Try.prog Try.f8 false true false false) := by
  refine law_row (n := 4) (T := T) (bt := 4) (C := Try.checked) tok Try.own started (by kernel_rfl) Try.func8 rfl Try.laidOut (by kernel_rfl) rfl (by kernel_rfl) rfl ?_ ?_
    (ChangeSpec.witness6 (enc := enc) (C := Try.checked) false ⟨#[], #[.slice none 0 0, .agg #[.int .i64 0, .int .u64 0, .int .u64 0]], []⟩ 8 (by kernel_rfl) (by kernel_rfl) (by kernel_rfl) (by kernel_rfl))
  · intro ds h
    obtain ⟨a0, a1, rfl⟩ : ∃ a0 a1, ds = [a0, a1] := by
      match ds, h with
      | [a0, a1], _ => exact ⟨a0, a1, rfl⟩
    rfl
  · exact heapFirst_args
theorem heapFirst_holds : Rows.HeapFirstSaid :=
  OpenClaim.holds_of_wide 8 Try.f8 rfl rfl rfl rfl rfl rfl rfl ⟨rfl, rfl, rfl, rfl, rfl⟩ rfl rfl rfl rfl rfl (by kernel_rfl) Try.func8 (by kernel_rfl)
    (of_decide_eq_true (by kernel_rfl)) (by unfold Func.isWrapper; first | (rw [if_pos (by decide +kernel)]; kernel_rfl) | (rw [if_neg (by decide +kernel)]; exact ⟨rfl, rfl⟩))
    (fun os started H enc _ => heapFirst_lifted os started H enc)
theorem ty_steps {n : Nat} {es : List (List IV)} (h : ∀ x ∈ es, Ty T n 41 x) : ∃ l : List St, es.flatten = steps l ∧ es.length = l.length := by
  induction es with
  | nil => exact ⟨[], rfl, rfl⟩
  | cons x es ih =>
    obtain ⟨l, h1, h2⟩ := ih fun y hy => h y (by simp [hy])
    cases n with
    | zero => exact (h x (by simp)).elim
    | succ n =>
      cases n with
      | zero =>
        obtain ⟨_, _, _, h3, _⟩ := h x (by simp)
        exact h3.elim
      | succ n =>
        cases n with
        | zero =>
          obtain ⟨_, _, rfl, _, _, _, rfl, ⟨_, _, _, h3, _⟩, _⟩ := h x (by simp)
          exact h3.elim
        | succ n =>
          obtain ⟨_, _, rfl, ⟨d, rfl⟩, _, _, rfl, ⟨_, _, rfl, ⟨i, rfl, _⟩, _, _, rfl, ⟨p, rfl, _⟩, _, _, rfl, ⟨s, rfl, _⟩, rfl⟩, rfl⟩ := h x (by simp)
          exact ⟨⟨d, i, p, s⟩ :: l, by rw [List.flatten_cons, h1]; rfl, by simp [h2]⟩

theorem heapSets_args : ∀ xs, ArgsTy T 4 Try.f6.params.toList xs → Idl.Spec Try.prog 6 xs [] (Only (.sc (.bool true)) []) := by
  rintro xs ⟨_, _, rfl, ⟨es, hy, hel, hes⟩, _, _, rfl, ⟨_, rfl, _, _, rfl, ⟨i, rfl, _⟩, _, _, rfl, ⟨p, rfl, _⟩, _, _, rfl, ⟨s, rfl, _⟩, rfl⟩, _, _, rfl, ⟨o, ho, _⟩, rfl⟩
  cases hy; cases ho
  obtain ⟨l, l1, l2⟩ := ty_steps hes
  rw [l1, l2]
  exact sets_law l ⟨i, p, s⟩ o (by omega)
theorem heapSets_lifted (os : Os) (started : os.Started) (H : Type) (enc : TypeId × Value → H) :
    ReturnsInHanded {} Try.checked os 6 .any (Rows.heapSetsSpec.pre6 enc Try.prog Try.f6 Rows.heapSetsRow.domain false) (Rows.heapSetsSpec.post enc Try.prog Try.f6 false true false false) := by
  refine law_row (n := 4) (T := T) (bt := 4) (C := Try.checked) tok Try.own started (by kernel_rfl) Try.func6 rfl Try.laidOut (by kernel_rfl) rfl (by kernel_rfl) rfl ?_ ?_
    (ChangeSpec.witness6 (enc := enc) (C := Try.checked) false ⟨#[], #[.slice none 0 0, .agg #[.int .i64 0, .int .u64 0, .int .u64 0], .int .i64 0], []⟩ 8 (by kernel_rfl) (by kernel_rfl) (by kernel_rfl) (by kernel_rfl))
  · intro ds h
    obtain ⟨a0, a1, a2, rfl⟩ : ∃ a0 a1 a2, ds = [a0, a1, a2] := by
      match ds, h with
      | [a0, a1, a2], _ => exact ⟨a0, a1, a2, rfl⟩
    rfl
  · exact heapSets_args
theorem heapSets_holds : Rows.HeapSetsSaid :=
  OpenClaim.holds_of_wide 6 Try.f6 rfl rfl rfl rfl rfl rfl rfl ⟨rfl, rfl, rfl, rfl, rfl⟩ rfl rfl rfl rfl rfl (by kernel_rfl) Try.func6 (by kernel_rfl)
    (of_decide_eq_true (by kernel_rfl)) (by unfold Func.isWrapper; first | (rw [if_pos (by decide +kernel)]; kernel_rfl) | (rw [if_neg (by decide +kernel)]; exact ⟨rfl, rfl⟩))
    (fun os started H enc _ => heapSets_lifted os started H enc)

theorem heapDrains_args : ∀ xs, ArgsTy T 4 Try.f5.params.toList xs → Idl.Spec Try.prog 5 xs [] (Only (.sc (.bool true)) []) := by
  rintro xs ⟨_, _, rfl, ⟨es, hy, hel, hes⟩, rfl⟩
  cases hy
  obtain ⟨l, l1, l2⟩ := ty_steps hes
  rw [l1, l2]
  exact drains_law l (by omega)
theorem heapDrains_lifted (os : Os) (started : os.Started) (H : Type) (enc : TypeId × Value → H) :
    ReturnsInHanded {} Try.checked os 5 .any (Rows.heapDrainsSpec.pre6 enc Try.prog Try.f5 Rows.heapDrainsRow.domain false) (Rows.heapDrainsSpec.post enc Try.prog Try.f5 false true false false) := by
  refine law_row (n := 4) (T := T) (bt := 4) (C := Try.checked) tok Try.own started (by kernel_rfl) Try.func5 rfl Try.laidOut (by kernel_rfl) rfl (by kernel_rfl) rfl ?_ ?_
    (ChangeSpec.witness6 (enc := enc) (C := Try.checked) false ⟨#[], #[.slice none 0 0], []⟩ 8 (by kernel_rfl) (by kernel_rfl) (by kernel_rfl) (by kernel_rfl))
  · intro ds h
    obtain ⟨a0, rfl⟩ : ∃ a0, ds = [a0] := by
      match ds, h with
      | [a0], _ => exact ⟨a0, rfl⟩
    rfl
  · exact heapDrains_args
theorem heapDrains_holds : Rows.HeapDrainsSaid :=
  OpenClaim.holds_of_wide 5 Try.f5 rfl rfl rfl rfl rfl rfl rfl ⟨rfl, rfl, rfl, rfl, rfl⟩ rfl rfl rfl rfl rfl (by kernel_rfl) Try.func5 (by kernel_rfl)
    (of_decide_eq_true (by kernel_rfl)) (by unfold Func.isWrapper; first | (rw [if_pos (by decide +kernel)]; kernel_rfl) | (rw [if_neg (by decide +kernel)]; exact ⟨rfl, rfl⟩))
    (fun os started H enc _ => heapDrains_lifted os started H enc)
end Go.Proofs.Ytnlelckfhlcbgaa
