/-
  Whatever the input, the law TapeTells holds. No condition.
-/
import Derived.Test.YtpmgocnapdhabaaTapL1
import Derived.Test.YtpmgocnapdhabaaIdlRow
import Derived.Test.YtpmgocnapdhabaaRows
namespace Go.Proofs.Ytpmgocnapdhabaa
open Go Go.Idl Go.RowKit Go.ChangeShapes Go.WideShapes
set_option linter.unusedSimpArgs false
set_option linter.unusedVariables false
set_option maxRecDepth 100000
set_option maxHeartbeats 1000000
attribute [local irreducible] Go.Idl.IWP Go.Idl.IOps Go.Idl.Obl Go.Idl.OpG Go.Idl.thenI Go.Idl.inBlockI Go.Idl.LoopU

theorem Try.own : ownKnob Try.prog.godebug = none := by kernel_rfl
theorem Try.laidOut : laidOutB Try.prog = true := by kernel_rfl

theorem tapeTells_args : ∀ xs, ArgsTy T 4 Try.f3.params.toList xs → Idl.Spec Try.prog 3 xs [] (Only (.sc (.bool true)) []) := by
  rintro xs ⟨_, _, rfl, ⟨cs, rfl, _, _, rfl, ⟨l, rfl, hl⟩, _, _, rfl, ⟨p, rfl, hp⟩, rfl⟩, _, _, rfl, ⟨n, hn, hn'⟩, _, _, rfl, ⟨m, hm, hm'⟩, rfl⟩
  cases hn; cases hm
  have hp := wf_i64 hp; have hn' := wf_i64 hn'; have hm' := wf_i64 hm'
  exact tells_spec l p n m hl hp.1 hp.2 hn'.1 hn'.2 hm'.1 hm'.2
theorem tapeTells_lifted (os : Os) (started : os.Started) (H : Type) (enc : TypeId × Value → H) :
    ReturnsInHanded {} Try.checked os 3 .any (Rows.tapeTellsSpec.pre6 enc Try.prog Try.f3 Rows.tapeTellsRow.domain false) (Rows.tapeTellsSpec.post enc Try.prog Try.f3 false true false false) := by
  refine law_row (n := 4) (T := T) (bt := 4) (C := Try.checked) tok Try.own started (by kernel_rfl) Try.func3 rfl Try.laidOut (by kernel_rfl) rfl (by kernel_rfl) rfl ?_ ?_
    (ChangeSpec.witness6 (enc := enc) (C := Try.checked) false ⟨#[], #[.agg #[.string ⟨#[]⟩, .int .i64 0], .int .i64 0, .int .i64 0], []⟩ 8 (by kernel_rfl) (by kernel_rfl) (by kernel_rfl) (by kernel_rfl))
  · intro ds h
    obtain ⟨a0, a1, a2, rfl⟩ : ∃ a0 a1 a2, ds = [a0, a1, a2] := by
      match ds, h with
      | [a0, a1, a2], _ => exact ⟨a0, a1, a2, rfl⟩
    rfl
  · exact tapeTells_args
theorem tapeTells_holds : Rows.TapeTellsSaid :=
  OpenClaim.holds_of_wide 3 Try.f3 rfl rfl rfl rfl rfl rfl rfl ⟨rfl, rfl, rfl, rfl, rfl⟩ rfl rfl rfl rfl rfl (by kernel_rfl) Try.func3 (by kernel_rfl)
    (of_decide_eq_true (by kernel_rfl)) (by unfold Func.isWrapper; first | (rw [if_pos (by decide +kernel)]; kernel_rfl) | (rw [if_neg (by decide +kernel)]; exact ⟨rfl, rfl⟩))
    (fun os started H enc _ => tapeTells_lifted os started H enc)
end Go.Proofs.Ytpmgocnapdhabaa
