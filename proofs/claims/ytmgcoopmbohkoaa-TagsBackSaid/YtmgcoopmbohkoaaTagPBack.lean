/-
  Whatever the input, the laws of the layer tags hold. No condition.
-/
import Derived.Test.YtmgcoopmbohkoaaTlMBack
import Derived.Test.YtmgcoopmbohkoaaIdlRow
import Derived.Test.YtmgcoopmbohkoaaRows
namespace Go.Proofs.Ytmgcoopmbohkoaa
open Go Go.Idl Go.RowKit Go.ChangeShapes Go.WideShapes
set_option linter.unusedSimpArgs false
set_option linter.unusedVariables false
set_option maxRecDepth 100000
set_option maxHeartbeats 1000000
attribute [local irreducible] Go.Idl.IWP Go.Idl.IOps Go.Idl.Obl Go.Idl.OpG Go.Idl.thenI Go.Idl.inBlockI Go.Idl.LoopU Go.Idl.noGotoI Go.Idl.jumpI
theorem Try.own : ownKnob Try.prog.godebug = none := by kernel_rfl
theorem ty_strs {n : Nat} {es : List (List IV)} (h : ∀ x ∈ es, Ty T n 9 x) : ∃ l : List (List UInt8), es.flatten = strs l ∧ es.length = l.length := by
  induction es with
  | nil => exact ⟨[], rfl, rfl⟩
  | cons x es ih =>
    obtain ⟨l, h1, h2⟩ := ih fun y hy => h y (by simp [hy])
    cases n with
    | zero => exact (h x (by simp)).elim
    | succ n =>
      obtain ⟨m, rfl, hm⟩ := h x (by simp)
      exact ⟨m :: l, by rw [List.flatten_cons, h1]; rfl, by simp [h2]⟩
theorem ty_ints {n : Nat} {es : List (List IV)} (h : ∀ x ∈ es, Ty T n 3 x) : ∃ l : List Int, es.flatten = ints l ∧ es.length = l.length := by
  induction es with
  | nil => exact ⟨[], rfl, rfl⟩
  | cons x es ih =>
    obtain ⟨l, h1, h2⟩ := ih fun y hy => h y (by simp [hy])
    cases n with
    | zero => exact (h x (by simp)).elim
    | succ n =>
      obtain ⟨m, rfl, hm⟩ := h x (by simp)
      exact ⟨m :: l, by rw [List.flatten_cons, h1]; rfl, by simp [h2]⟩
theorem ty_rows {n : Nat} {es : List (List IV)} (h : ∀ x ∈ es, Ty T (n + 3) 52 x) : ∃ l : List Rw, es.flatten = rows false l ∧ es.length = l.length := by
  induction es with
  | nil => exact ⟨[], rfl, rfl⟩
  | cons x es ih =>
    obtain ⟨l, h1, h2⟩ := ih fun y hy => h y (by simp [hy])
    obtain ⟨_, _, rfl, ⟨k, rfl, _⟩, _, _, rfl, ⟨fs, rfl, _, hfs⟩, rfl⟩ := h x (by simp)
    obtain ⟨m, m1, m2⟩ := ty_ints hfs
    refine ⟨⟨k, m⟩ :: l, ?_, by simp [h2]⟩
    rw [List.flatten_cons, h1, m1, m2]; rfl
theorem tagsBack_args : ∀ xs, ArgsTy T 6 Try.f10.params.toList xs → Idl.Spec Try.prog 10 xs [] (Only (.sc (.bool true)) []) := by
  rintro xs ⟨_, _, rfl, ⟨fs, hz, hfl, hfs⟩, _, _, rfl, ⟨i, hi, hil⟩, _, _, rfl, ⟨gs, hg, hgl, hgs⟩, _, _, rfl, ⟨o, ho, hol⟩, rfl⟩
  cases hz; cases hi; cases hg; cases ho
  obtain ⟨m, m1, m2⟩ := ty_rows (n := 2) hfs
  obtain ⟨g, g1, g2⟩ := ty_strs hgs
  rw [m1, m2, g1, g2]
  exact back_law m i g o (by omega) (by omega)
theorem tagsBack_lifted (os : Os) (started : os.Started) (H : Type) (enc : TypeId × Value → H) :
    ReturnsInHanded {} Try.checked os 10 .any (Rows.tagsBackSpec.pre6 enc Try.prog Try.f10 Rows.tagsBackRow.domain false) (Rows.tagsBackSpec.post enc Try.prog Try.f10 false true false false) := by
  refine law_row (n := 6) (T := T) (bt := 4) (C := Try.checked) tok Try.own started (by kernel_rfl) Try.func10 rfl Try.laidOut (by kernel_rfl) rfl (by kernel_rfl) rfl ?_ ?_
    (ChangeSpec.witness6 (enc := enc) (C := Try.checked) false ⟨#[], #[.slice none 0 0, .int .i64 0, .slice none 0 0, .int .i64 0], []⟩ 8 (by kernel_rfl) (by kernel_rfl) (by kernel_rfl) (by kernel_rfl))
  · intro ds h
    obtain ⟨a0, a1, a2, a3, rfl⟩ : ∃ a0 a1 a2 a3, ds = [a0, a1, a2, a3] := by
      match ds, h with
      | [a0, a1, a2, a3], _ => exact ⟨a0, a1, a2, a3, rfl⟩
    rfl
  · exact tagsBack_args
theorem tagsBack_holds : Rows.TagsBackSaid :=
  OpenClaim.holds_of_wide 10 Try.f10 rfl rfl rfl rfl rfl rfl rfl ⟨rfl, rfl, rfl, rfl, rfl⟩ rfl rfl rfl rfl rfl (by kernel_rfl) Try.func10 (by kernel_rfl)
    (of_decide_eq_true (by kernel_rfl)) (by unfold Func.isWrapper; first | (rw [if_pos (by decide +kernel)]; kernel_rfl) | (rw [if_neg (by decide +kernel)]; exact ⟨rfl, rfl⟩))
    (fun os started H enc _ => tagsBack_lifted os started H enc)

end Go.Proofs.Ytmgcoopmbohkoaa
