/-
  Whatever the input, the laws of the layer heap hold. No condition.
-/
import Derived.Test.YtnlelckfhlcbgaaHeN
import Derived.Test.YtnlelckfhlcbgaaIdlRow
import Derived.Test.YtnlelckfhlcbgaaRows
namespace Go.Proofs.Ytnlelckfhlcbgaa
open Go Go.Idl Go.RowKit Go.ChangeShapes Go.WideShapes
set_option linter.unusedSimpArgs false
set_option linter.unusedVariables false
set_option maxRecDepth 100000
set_option maxHeartbeats 1000000
attribute [local irreducible] Go.Idl.IWP Go.Idl.IOps Go.Idl.Obl Go.Idl.OpG Go.Idl.thenI Go.Idl.inBlockI Go.Idl.LoopU Go.Idl.noGotoI Go.Idl.jumpI
theorem Try.own : ownKnob Try.prog.godebug = none := by kernel_rfl
theorem Try.laidOut : laidOutB Try.prog = true := by kernel_rfl
theorem ty_items {n : Nat} {es : List (List IV)} (h : ∀ x ∈ es, Ty T n 25 x) : ∃ l : List It, es.flatten = items l ∧ es.length = l.length := by
  induction es with
  | nil => exact ⟨[], rfl, rfl⟩
  | cons x es ih =>
    obtain ⟨l, h1, h2⟩ := ih fun y hy => h y (by simp [hy])
    cases n with
    | zero => exact (h x (by simp)).elim
    | succ n =>
      cases n with
      | zero =>
        obtain ⟨_, _, _, h3, _⟩ := h x (by simp)
        exact h3.elim
      | succ n =>
        obtain ⟨_, _, rfl, ⟨i, rfl, _⟩, _, _, rfl, ⟨p, rfl, _⟩, _, _, rfl, ⟨s, rfl, _⟩, rfl⟩ := h x (by simp)
        exact ⟨⟨i, p, s⟩ :: l, by rw [List.flatten_cons, h1]; rfl, by simp [h2]⟩
theorem ty_steps {n : Nat} {es : List (List IV)} (h : ∀ x ∈ es, Ty T n 41 x) : ∃ l : List St, es.flatten = steps l ∧ es.length = l.length := by
  induction es with
  | nil => exact ⟨[], rfl, rfl⟩
  | cons x es ih =>
    obtain ⟨l, h1, h2⟩ := ih fun y hy => h y (by simp [hy])
    cases n with
    | zero => exact (h x (by simp)).elim
    | succ n =>
      cases n with
      | zero =>
        obtain ⟨_, _, _, h3, _⟩ := h x (by simp)
        exact h3.elim
      | succ n =>
        cases n with
        | zero =>
          obtain ⟨_, _, rfl, _, _, _, rfl, ⟨_, _, _, h3, _⟩, _⟩ := h x (by simp)
          exact h3.elim
        | succ n =>
          obtain ⟨_, _, rfl, ⟨d, rfl⟩, _, _, rfl, ⟨_, _, rfl, ⟨i, rfl, _⟩, _, _, rfl, ⟨p, rfl, _⟩, _, _, rfl, ⟨s, rfl, _⟩, rfl⟩, rfl⟩ := h x (by simp)
          exact ⟨⟨d, i, p, s⟩ :: l, by rw [List.flatten_cons, h1]; rfl, by simp [h2]⟩

theorem heapTells_args : ∀ xs, ArgsTy T 4 Try.f3.params.toList xs → Idl.Spec Try.prog 3 xs [] (Only (.sc (.bool true)) []) := by
  rintro xs ⟨_, _, rfl, ⟨es, hy, hel, hes⟩, _, _, rfl, ⟨_, rfl, _, _, rfl, ⟨i, rfl, _⟩, _, _, rfl, ⟨p, rfl, _⟩, _, _, rfl, ⟨s, rfl, _⟩, rfl⟩, _, _, rfl, ⟨_, rfl, _, _, rfl, ⟨i2, rfl, _⟩, _, _, rfl, ⟨p2, rfl, _⟩, _, _, rfl, ⟨s2, rfl, _⟩, rfl⟩, _, _, rfl, ⟨o, ho, _⟩, rfl⟩
  cases hy; cases ho
  obtain ⟨l, l1, l2⟩ := ty_items hes
  rw [l1, l2]
  exact tells_law l ⟨i, p, s⟩ ⟨i2, p2, s2⟩ o (by omega)
theorem heapTells_lifted (os : Os) (started : os.Started) (H : Type) (enc : TypeId × Value → H) :
    ReturnsInHanded {} Try.checked os 3 .any (Rows.heapTellsSpec.pre6 enc Try.prog Try.f3 Rows.heapTellsRow.domain false) (Rows.heapTellsSpec.post enc Try.prog Try.f3 false true false false) := by
  refine law_row (n := 4) (T := T) (bt := 4) (C := Try.checked) tok Try.own started (by kernel_rfl) Try.func3 rfl Try.laidOut (by kernel_rfl) rfl (by kernel_rfl) rfl ?_ ?_
    (ChangeSpec.witness6 (enc := enc) (C := Try.checked) false ⟨#[], #[.slice none 0 0, .agg #[.int .i64 0, .int .u64 0, .int .u64 0], .agg #[.int .i64 0, .int .u64 0, .int .u64 0], .int .i64 0], []⟩ 8 (by kernel_rfl) (by kernel_rfl) (by kernel_rfl) (by kernel_rfl))
  · intro ds h
    obtain ⟨a0, a1, a2, a3, rfl⟩ : ∃ a0 a1 a2 a3, ds = [a0, a1, a2, a3] := by
      match ds, h with
      | [a0, a1, a2, a3], _ => exact ⟨a0, a1, a2, a3, rfl⟩
    rfl
  · exact heapTells_args
theorem heapTells_holds : Rows.HeapTellsSaid :=
  OpenClaim.holds_of_wide 3 Try.f3 rfl rfl rfl rfl rfl rfl rfl ⟨rfl, rfl, rfl, rfl, rfl⟩ rfl rfl rfl rfl rfl (by kernel_rfl) Try.func3 (by kernel_rfl)
    (of_decide_eq_true (by kernel_rfl)) (by unfold Func.isWrapper; first | (rw [if_pos (by decide +kernel)]; kernel_rfl) | (rw [if_neg (by decide +kernel)]; exact ⟨rfl, rfl⟩))
    (fun os started H enc _ => heapTells_lifted os started H enc)

theorem heapSteps_args : ∀ xs, ArgsTy T 4 Try.f4.params.toList xs → Idl.Spec Try.prog 4 xs [] (Only (.sc (.bool true)) []) := by
  rintro xs ⟨_, _, rfl, ⟨es, hy, hel, hes⟩, _, _, rfl, ⟨fs, hz, hfl, hfs⟩, rfl⟩
  cases hy; cases hz
  obtain ⟨l, l1, l2⟩ := ty_items hes
  obtain ⟨m, m1, m2⟩ := ty_steps hfs
  rw [l1, l2, m1, m2]
  exact steps_law l m (by omega) (by omega)
theorem heapSteps_lifted (os : Os) (started : os.Started) (H : Type) (enc : TypeId × Value → H) :
    ReturnsInHanded {} Try.checked os 4 .any (Rows.heapStepsSpec.pre6 enc Try.prog Try.f4 Rows.heapStepsRow.domain false) (Rows.heapStepsSpec.post enc Try.prog Try.f4 false true false false) := by
  refine law_row (n := 4) (T := T) (bt := 4) (C := Try.checked) tok Try.own started (by kernel_rfl) Try.func4 rfl Try.laidOut (by kernel_rfl) rfl (by kernel_rfl) rfl ?_ ?_
    (ChangeSpec.witness6 (enc := enc) (C := Try.checked) false ⟨#[], #[.slice none 0 0, .slice none 0 0], []⟩ 8 (by kernel_rfl) (by kernel_rfl) (by kernel_rfl) (by kernel_rfl))
  · intro ds h
    obtain ⟨a0, a1, rfl⟩ : ∃ a0 a1, ds = [a0, a1] := by
      match ds, h with
      | [a0, a1], _ => exact ⟨a0, a1, rfl⟩
    rfl
  · exact heapSteps_args
theorem heapSteps_holds : Rows.HeapStepsSaid :=
  OpenClaim.holds_of_wide 4 Try.f4 rfl rfl rfl rfl rfl rfl rfl ⟨rfl, rfl, rfl, rfl, rfl⟩ rfl rfl rfl rfl rfl (by kernel_rfl) Try.func4 (by kernel_rfl)
    (of_decide_eq_true (by kernel_rfl)) (by unfold Func.isWrapper; first | (rw [if_pos (by decide +kernel)]; kernel_rfl) | (rw [if_neg (by decide +kernel)]; exact ⟨rfl, rfl⟩))
    (fun os started H enc _ => heapSteps_lifted os started H enc)
end Go.Proofs.Ytnlelckfhlcbgaa
