/-
  Whatever the input, the laws of the layer tags hold. No condition.
-/
import Derived.Test.YtmgcoopmbohkoaaTlMModel
import Derived.Test.YtmgcoopmbohkoaaIdlRow
import Derived.Test.YtmgcoopmbohkoaaRows
namespace Go.Proofs.Ytmgcoopmbohkoaa
open Go Go.Idl Go.RowKit Go.ChangeShapes Go.WideShapes
set_option linter.unusedSimpArgs false
set_option linter.unusedVariables false
set_option maxRecDepth 100000
set_option maxHeartbeats 1000000
attribute [local irreducible] Go.Idl.IWP Go.Idl.IOps Go.Idl.Obl Go.Idl.OpG Go.Idl.thenI Go.Idl.inBlockI Go.Idl.LoopU Go.Idl.noGotoI Go.Idl.jumpI
theorem Try.own : ownKnob Try.prog.godebug = none := by kernel_rfl
theorem ty_strs {n : Nat} {es : List (List IV)} (h : ∀ x ∈ es, Ty T n 9 x) : ∃ l : List (List UInt8), es.flatten = strs l ∧ es.length = l.length := by
  induction es with
  | nil => exact ⟨[], rfl, rfl⟩
  | cons x es ih =>
    obtain ⟨l, h1, h2⟩ := ih fun y hy => h y (by simp [hy])
    cases n with
    | zero => exact (h x (by simp)).elim
    | succ n =>
      obtain ⟨m, rfl, hm⟩ := h x (by simp)
      exact ⟨m :: l, by rw [List.flatten_cons, h1]; rfl, by simp [h2]⟩
theorem ty_steps {n : Nat} {es : List (List IV)} (h : ∀ x ∈ es, Ty T (n + 3) 46 x) : ∃ l : List Tst, es.flatten = tsteps false l ∧ es.length = l.length ∧ ∀ s ∈ l, s.tags.length ≤ 9223372036854775807 := by
  induction es with
  | nil => exact ⟨[], rfl, rfl, fun n h => by cases h⟩
  | cons x es ih =>
    obtain ⟨l, h1, h2, h3⟩ := ih fun y hy => h y (by simp [hy])
    obtain ⟨_, _, rfl, ⟨d, rfl⟩, _, _, rfl, ⟨i, rfl, _⟩, _, _, rfl, ⟨fs, rfl, hfl, hfs⟩, rfl⟩ := h x (by simp)
    obtain ⟨m, m1, m2⟩ := ty_strs hfs
    refine ⟨⟨d, i, m⟩ :: l, ?_, by simp [h2], fun s hs => ?_⟩
    · rw [List.flatten_cons, h1, m1, m2]; rfl
    · rcases List.mem_cons.1 hs with rfl | hs
      · simp only; omega
      · exact h3 s hs

theorem tagsModel_args : ∀ xs, ArgsTy T 6 Try.f8.params.toList xs → Idl.Spec Try.prog 8 xs [] (Only (.sc (.bool true)) []) := by
  rintro xs ⟨_, _, rfl, ⟨fs, hz, hfl, hfs⟩, _, _, rfl, ⟨i, hi, hil⟩, rfl⟩
  cases hz; cases hi
  obtain ⟨m, m1, m2, m3⟩ := ty_steps (n := 2) hfs
  rw [m1, m2]
  exact model_law m i (by omega) m3
theorem tagsModel_lifted (os : Os) (started : os.Started) (H : Type) (enc : TypeId × Value → H) :
    ReturnsInHanded {} Try.checked os 8 .any (Rows.tagsModelSpec.pre6 enc Try.prog Try.f8 Rows.tagsModelRow.domain false) (Rows.tagsModelSpec.post enc Try.prog Try.f8 false true false false) := by
  refine law_row (n := 6) (T := T) (bt := 4) (C := Try.checked) tok Try.own started (by kernel_rfl) Try.func8 rfl Try.laidOut (by kernel_rfl) rfl (by kernel_rfl) rfl ?_ ?_
    (ChangeSpec.witness6 (enc := enc) (C := Try.checked) false ⟨#[], #[.slice none 0 0, .int .i64 0], []⟩ 8 (by kernel_rfl) (by kernel_rfl) (by kernel_rfl) (by kernel_rfl))
  · intro ds h
    obtain ⟨a0, a1, rfl⟩ : ∃ a0 a1, ds = [a0, a1] := by
      match ds, h with
      | [a0, a1], _ => exact ⟨a0, a1, rfl⟩
    rfl
  · exact tagsModel_args
theorem tagsModel_holds : Rows.TagsModelSaid :=
  OpenClaim.holds_of_wide 8 Try.f8 rfl rfl rfl rfl rfl rfl rfl ⟨rfl, rfl, rfl, rfl, rfl⟩ rfl rfl rfl rfl rfl (by kernel_rfl) Try.func8 (by kernel_rfl)
    (of_decide_eq_true (by kernel_rfl)) (by unfold Func.isWrapper; first | (rw [if_pos (by decide +kernel)]; kernel_rfl) | (rw [if_neg (by decide +kernel)]; exact ⟨rfl, rfl⟩))
    (fun os started H enc _ => tagsModel_lifted os started H enc)

end Go.Proofs.Ytmgcoopmbohkoaa
