/-
  Whatever the input, the laws of the layer table hold. No condition.
-/
import Derived.Test.YtgchgdfigbonhaaTabL2
import Derived.Test.YtgchgdfigbonhaaIdlRow
import Derived.Test.YtgchgdfigbonhaaRows
namespace Go.Proofs.Ytgchgdfigbonhaa
open Go Go.Idl Go.RowKit Go.ChangeShapes Go.WideShapes
set_option linter.unusedSimpArgs false
set_option linter.unusedVariables false
set_option maxRecDepth 100000
set_option maxHeartbeats 1000000
attribute [local irreducible] Go.Idl.IWP Go.Idl.IOps Go.Idl.Obl Go.Idl.OpG Go.Idl.thenI Go.Idl.inBlockI Go.Idl.LoopU Go.Idl.noGotoI Go.Idl.jumpI
theorem Try.own : ownKnob Try.prog.godebug = none := by kernel_rfl
theorem Try.laidOut : laidOutB Try.prog = true := by kernel_rfl
theorem ty_steps {n : Nat} {es : List (List IV)} (h : ∀ x ∈ es, Ty T n 31 x) : ∃ l : List Ts, es.flatten = steps l ∧ es.length = l.length := by
  induction es with
  | nil => exact ⟨[], rfl, rfl⟩
  | cons x es ih =>
    obtain ⟨l, h1, h2⟩ := ih fun y hy => h y (by simp [hy])
    cases n with
    | zero => exact (h x (by simp)).elim
    | succ n =>
      cases n with
      | zero =>
        obtain ⟨_, _, _, h3, _⟩ := h x (by simp)
        exact h3.elim
      | succ n =>
        obtain ⟨_, _, rfl, ⟨d, rfl⟩, _, _, rfl, ⟨k, rfl, _⟩, _, _, rfl, ⟨v, rfl, _⟩, rfl⟩ := h x (by simp)
        exact ⟨⟨d, k, v⟩ :: l, by rw [List.flatten_cons, h1]; rfl, by simp [h2]⟩

theorem tableModel_args : ∀ xs, ArgsTy T 4 Try.f3.params.toList xs → Idl.Spec Try.prog 3 xs [] (Only (.sc (.bool true)) []) := by
  rintro xs ⟨_, _, rfl, ⟨fs, hz, hfl, hfs⟩, _, _, rfl, ⟨k, hk, hkl⟩, rfl⟩
  cases hz; cases hk
  obtain ⟨m, m1, m2⟩ := ty_steps hfs
  rw [m1, m2]
  exact model_law m k (by omega) hkl
theorem tableModel_lifted (os : Os) (started : os.Started) (H : Type) (enc : TypeId × Value → H) :
    ReturnsInHanded {} Try.checked os 3 .any (Rows.tableModelSpec.pre6 enc Try.prog Try.f3 Rows.tableModelRow.domain false) (Rows.tableModelSpec.post enc Try.prog Try.f3 false true false false) := by
  refine law_row (n := 4) (T := T) (bt := 4) (C := Try.checked) tok Try.own started (by kernel_rfl) Try.func3 rfl Try.laidOut (by kernel_rfl) rfl (by kernel_rfl) rfl ?_ ?_
    (ChangeSpec.witness6 (enc := enc) (C := Try.checked) false ⟨#[], #[.slice none 0 0, .string ⟨#[]⟩], []⟩ 8 (by kernel_rfl) (by kernel_rfl) (by kernel_rfl) (by kernel_rfl))
  · intro ds h
    obtain ⟨a0, a1, rfl⟩ : ∃ a0 a1, ds = [a0, a1] := by
      match ds, h with
      | [a0, a1], _ => exact ⟨a0, a1, rfl⟩
    rfl
  · exact tableModel_args
theorem tableModel_holds : Rows.TableModelSaid :=
  OpenClaim.holds_of_wide 3 Try.f3 rfl rfl rfl rfl rfl rfl rfl ⟨rfl, rfl, rfl, rfl, rfl⟩ rfl rfl rfl rfl rfl (by kernel_rfl) Try.func3 (by kernel_rfl)
    (of_decide_eq_true (by kernel_rfl)) (by unfold Func.isWrapper; first | (rw [if_pos (by decide +kernel)]; kernel_rfl) | (rw [if_neg (by decide +kernel)]; exact ⟨rfl, rfl⟩))
    (fun os started H enc _ => tableModel_lifted os started H enc)

theorem tableBack_args : ∀ xs, ArgsTy T 4 Try.f4.params.toList xs → Idl.Spec Try.prog 4 xs [] (Only (.sc (.bool true)) []) := by
  rintro xs ⟨_, _, rfl, ⟨fs, hz, hfl, hfs⟩, _, _, rfl, ⟨k, hk, hkl⟩, _, _, rfl, ⟨v, hv, _⟩, _, _, rfl, ⟨o, ho, hol⟩, rfl⟩
  cases hz; cases hk; cases hv; cases ho
  obtain ⟨m, m1, m2⟩ := ty_steps hfs
  rw [m1, m2]
  exact back_law m k v o (by omega) hkl hol
theorem tableBack_lifted (os : Os) (started : os.Started) (H : Type) (enc : TypeId × Value → H) :
    ReturnsInHanded {} Try.checked os 4 .any (Rows.tableBackSpec.pre6 enc Try.prog Try.f4 Rows.tableBackRow.domain false) (Rows.tableBackSpec.post enc Try.prog Try.f4 false true false false) := by
  refine law_row (n := 4) (T := T) (bt := 4) (C := Try.checked) tok Try.own started (by kernel_rfl) Try.func4 rfl Try.laidOut (by kernel_rfl) rfl (by kernel_rfl) rfl ?_ ?_
    (ChangeSpec.witness6 (enc := enc) (C := Try.checked) false ⟨#[], #[.slice none 0 0, .string ⟨#[]⟩, .int .i64 0, .string ⟨#[]⟩], []⟩ 8 (by kernel_rfl) (by kernel_rfl) (by kernel_rfl) (by kernel_rfl))
  · intro ds h
    obtain ⟨a0, a1, a2, a3, rfl⟩ : ∃ a0 a1 a2 a3, ds = [a0, a1, a2, a3] := by
      match ds, h with
      | [a0, a1, a2, a3], _ => exact ⟨a0, a1, a2, a3, rfl⟩
    rfl
  · exact tableBack_args
theorem tableBack_holds : Rows.TableBackSaid :=
  OpenClaim.holds_of_wide 4 Try.f4 rfl rfl rfl rfl rfl rfl rfl ⟨rfl, rfl, rfl, rfl, rfl⟩ rfl rfl rfl rfl rfl (by kernel_rfl) Try.func4 (by kernel_rfl)
    (of_decide_eq_true (by kernel_rfl)) (by unfold Func.isWrapper; first | (rw [if_pos (by decide +kernel)]; kernel_rfl) | (rw [if_neg (by decide +kernel)]; exact ⟨rfl, rfl⟩))
    (fun os started H enc _ => tableBack_lifted os started H enc)

theorem tableKeys_args : ∀ xs, ArgsTy T 4 Try.f6.params.toList xs → Idl.Spec Try.prog 6 xs [] (Only (.sc (.bool true)) []) := by
  rintro xs ⟨_, _, rfl, ⟨fs, hz, hfl, hfs⟩, rfl⟩
  cases hz
  obtain ⟨m, m1, m2⟩ := ty_steps hfs
  rw [m1, m2]
  exact keys_law m (by omega)
theorem tableKeys_lifted (os : Os) (started : os.Started) (H : Type) (enc : TypeId × Value → H) :
    ReturnsInHanded {} Try.checked os 6 .any (Rows.tableKeysSpec.pre6 enc Try.prog Try.f6 Rows.tableKeysRow.domain false) (Rows.tableKeysSpec.post enc Try.prog Try.f6 false true false false) := by
  refine law_row (n := 4) (T := T) (bt := 4) (C := Try.checked) tok Try.own started (by kernel_rfl) Try.func6 rfl Try.laidOut (by kernel_rfl) rfl (by kernel_rfl) rfl ?_ ?_
    (ChangeSpec.witness6 (enc := enc) (C := Try.checked) false ⟨#[], #[.slice none 0 0], []⟩ 8 (by kernel_rfl) (by kernel_rfl) (by kernel_rfl) (by kernel_rfl))
  · intro ds h
    obtain ⟨a0, rfl⟩ : ∃ a0, ds = [a0] := by
      match ds, h with
      | [a0], _ => exact ⟨a0, rfl⟩
    rfl
  · exact tableKeys_args
theorem tableKeys_holds : Rows.TableKeysSaid :=
  OpenClaim.holds_of_wide 6 Try.f6 rfl rfl rfl rfl rfl rfl rfl ⟨rfl, rfl, rfl, rfl, rfl⟩ rfl rfl rfl rfl rfl (by kernel_rfl) Try.func6 (by kernel_rfl)
    (of_decide_eq_true (by kernel_rfl)) (by unfold Func.isWrapper; first | (rw [if_pos (by decide +kernel)]; kernel_rfl) | (rw [if_neg (by decide +kernel)]; exact ⟨rfl, rfl⟩))
    (fun os started H enc _ => tableKeys_lifted os started H enc)
end Go.Proofs.Ytgchgdfigbonhaa
