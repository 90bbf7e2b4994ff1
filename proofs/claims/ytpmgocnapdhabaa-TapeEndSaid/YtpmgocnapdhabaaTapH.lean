/-
  Whatever the input, the laws TapeOrder, TapePicks, TapeSome, TapeEnd and TapeBytes hold. No condition.
-/
import Derived.Test.YtpmgocnapdhabaaTapL2
import Derived.Test.YtpmgocnapdhabaaTapL3
import Derived.Test.YtpmgocnapdhabaaTapL4
import Derived.Test.YtpmgocnapdhabaaTapL5
import Derived.Test.YtpmgocnapdhabaaIdlRow
import Derived.Test.YtpmgocnapdhabaaRows
namespace Go.Proofs.Ytpmgocnapdhabaa
open Go Go.Idl Go.RowKit Go.ChangeShapes Go.WideShapes
set_option linter.unusedSimpArgs false
set_option linter.unusedVariables false
set_option maxRecDepth 100000
set_option maxHeartbeats 1000000
attribute [local irreducible] Go.Idl.IWP Go.Idl.IOps Go.Idl.Obl Go.Idl.OpG Go.Idl.thenI Go.Idl.inBlockI Go.Idl.LoopU

theorem Try.own : ownKnob Try.prog.godebug = none := by kernel_rfl
theorem Try.laidOut : laidOutB Try.prog = true := by kernel_rfl

theorem tapeOrder_args : ∀ xs, ArgsTy T 4 Try.f4.params.toList xs → Idl.Spec Try.prog 4 xs [] (Only (.sc (.bool true)) []) := by
  rintro xs ⟨_, _, rfl, ⟨l, hx, hl⟩, rfl⟩
  cases hx
  exact order_spec l hl
theorem tapeOrder_lifted (os : Os) (started : os.Started) (H : Type) (enc : TypeId × Value → H) :
    ReturnsInHanded {} Try.checked os 4 .any (Rows.tapeOrderSpec.pre6 enc Try.prog Try.f4 Rows.tapeOrderRow.domain false) (Rows.tapeOrderSpec.post enc Try.prog Try.f4 false true false false) := by
  refine law_row (n := 4) (T := T) (bt := 4) (C := Try.checked) tok Try.own started (by kernel_rfl) Try.func4 rfl Try.laidOut (by kernel_rfl) rfl (by kernel_rfl) rfl ?_ ?_
    (ChangeSpec.witness6 (enc := enc) (C := Try.checked) false ⟨#[], #[.string ⟨#[]⟩], []⟩ 8 (by kernel_rfl) (by kernel_rfl) (by kernel_rfl) (by kernel_rfl))
  · intro ds h
    obtain ⟨a0, rfl⟩ : ∃ a0, ds = [a0] := by
      match ds, h with
      | [a0], _ => exact ⟨a0, rfl⟩
    rfl
  · exact tapeOrder_args
theorem tapeOrder_holds : Rows.TapeOrderSaid :=
  OpenClaim.holds_of_wide 4 Try.f4 rfl rfl rfl rfl rfl rfl rfl ⟨rfl, rfl, rfl, rfl, rfl⟩ rfl rfl rfl rfl rfl (by kernel_rfl) Try.func4 (by kernel_rfl)
    (of_decide_eq_true (by kernel_rfl)) (by unfold Func.isWrapper; first | (rw [if_pos (by decide +kernel)]; kernel_rfl) | (rw [if_neg (by decide +kernel)]; exact ⟨rfl, rfl⟩))
    (fun os started H enc _ => tapeOrder_lifted os started H enc)

theorem tapePicks_args : ∀ xs, ArgsTy T 4 Try.f5.params.toList xs → Idl.Spec Try.prog 5 xs [] (Only (.sc (.bool true)) []) := by
  rintro xs ⟨_, _, rfl, ⟨a, hx, ha⟩, _, _, rfl, ⟨b, hy, hb⟩, _, _, rfl, ⟨n, hz, hn⟩, rfl⟩
  cases hx; cases hy; cases hz
  have ha := wf_u32 ha; have hb := wf_u32 hb; have hn := wf_i64 hn
  exact picks_spec a b n ha.1 ha.2 hb.1 hb.2 hn.1 hn.2
theorem tapePicks_lifted (os : Os) (started : os.Started) (H : Type) (enc : TypeId × Value → H) :
    ReturnsInHanded {} Try.checked os 5 .any (Rows.tapePicksSpec.pre6 enc Try.prog Try.f5 Rows.tapePicksRow.domain false) (Rows.tapePicksSpec.post enc Try.prog Try.f5 false true false false) := by
  refine law_row (n := 4) (T := T) (bt := 4) (C := Try.checked) tok Try.own started (by kernel_rfl) Try.func5 rfl Try.laidOut (by kernel_rfl) rfl (by kernel_rfl) rfl ?_ ?_
    (ChangeSpec.witness6 (enc := enc) (C := Try.checked) false ⟨#[], #[.int .u32 0, .int .u32 0, .int .i64 0], []⟩ 8 (by kernel_rfl) (by kernel_rfl) (by kernel_rfl) (by kernel_rfl))
  · intro ds h
    obtain ⟨a0, a1, a2, rfl⟩ : ∃ a0 a1 a2, ds = [a0, a1, a2] := by
      match ds, h with
      | [a0, a1, a2], _ => exact ⟨a0, a1, a2, rfl⟩
    rfl
  · exact tapePicks_args
theorem tapePicks_holds : Rows.TapePicksSaid :=
  OpenClaim.holds_of_wide 5 Try.f5 rfl rfl rfl rfl rfl rfl rfl ⟨rfl, rfl, rfl, rfl, rfl⟩ rfl rfl rfl rfl rfl (by kernel_rfl) Try.func5 (by kernel_rfl)
    (of_decide_eq_true (by kernel_rfl)) (by unfold Func.isWrapper; first | (rw [if_pos (by decide +kernel)]; kernel_rfl) | (rw [if_neg (by decide +kernel)]; exact ⟨rfl, rfl⟩))
    (fun os started H enc _ => tapePicks_lifted os started H enc)

theorem tapeSome_args : ∀ xs, ArgsTy T 4 Try.f6.params.toList xs → Idl.Spec Try.prog 6 xs [] (Only (.sc (.bool true)) []) := by
  rintro xs ⟨_, _, rfl, ⟨cs, rfl, _, _, rfl, ⟨l, rfl, hl⟩, _, _, rfl, ⟨p, rfl, hp⟩, rfl⟩, _, _, rfl, ⟨n, hn, hn'⟩, _, _, rfl, ⟨m, hm, hm'⟩, rfl⟩
  cases hn; cases hm
  have hp := wf_i64 hp; have hn' := wf_u8 hn'; have hm' := wf_u8 hm'
  exact lsome_spec l p n m hl hp.1 hp.2 hn'.1 hn'.2 hm'.1 hm'.2
theorem tapeSome_lifted (os : Os) (started : os.Started) (H : Type) (enc : TypeId × Value → H) :
    ReturnsInHanded {} Try.checked os 6 .any (Rows.tapeSomeSpec.pre6 enc Try.prog Try.f6 Rows.tapeSomeRow.domain false) (Rows.tapeSomeSpec.post enc Try.prog Try.f6 false true false false) := by
  refine law_row (n := 4) (T := T) (bt := 4) (C := Try.checked) tok Try.own started (by kernel_rfl) Try.func6 rfl Try.laidOut (by kernel_rfl) rfl (by kernel_rfl) rfl ?_ ?_
    (ChangeSpec.witness6 (enc := enc) (C := Try.checked) false ⟨#[], #[.agg #[.string ⟨#[]⟩, .int .i64 0], .int .u8 0, .int .u8 0], []⟩ 8 (by kernel_rfl) (by kernel_rfl) (by kernel_rfl) (by kernel_rfl))
  · intro ds h
    obtain ⟨a0, a1, a2, rfl⟩ : ∃ a0 a1 a2, ds = [a0, a1, a2] := by
      match ds, h with
      | [a0, a1, a2], _ => exact ⟨a0, a1, a2, rfl⟩
    rfl
  · exact tapeSome_args
theorem tapeSome_holds : Rows.TapeSomeSaid :=
  OpenClaim.holds_of_wide 6 Try.f6 rfl rfl rfl rfl rfl rfl rfl ⟨rfl, rfl, rfl, rfl, rfl⟩ rfl rfl rfl rfl rfl (by kernel_rfl) Try.func6 (by kernel_rfl)
    (of_decide_eq_true (by kernel_rfl)) (by unfold Func.isWrapper; first | (rw [if_pos (by decide +kernel)]; kernel_rfl) | (rw [if_neg (by decide +kernel)]; exact ⟨rfl, rfl⟩))
    (fun os started H enc _ => tapeSome_lifted os started H enc)

theorem tapeEnd_args : ∀ xs, ArgsTy T 4 Try.f7.params.toList xs → Idl.Spec Try.prog 7 xs [] (Only (.sc (.bool true)) []) := by
  rintro xs ⟨_, _, rfl, ⟨n, hn, hn'⟩, _, _, rfl, ⟨m, hm, hm'⟩, rfl⟩
  cases hn; cases hm
  have hn' := wf_u8 hn'; have hm' := wf_u8 hm'
  exact end_spec n m hn'.1 hn'.2 hm'.1 hm'.2
theorem tapeEnd_lifted (os : Os) (started : os.Started) (H : Type) (enc : TypeId × Value → H) :
    ReturnsInHanded {} Try.checked os 7 .any (Rows.tapeEndSpec.pre6 enc Try.prog Try.f7 Rows.tapeEndRow.domain false) (Rows.tapeEndSpec.post enc Try.prog Try.f7 false true false false) := by
  refine law_row (n := 4) (T := T) (bt := 4) (C := Try.checked) tok Try.own started (by kernel_rfl) Try.func7 rfl Try.laidOut (by kernel_rfl) rfl (by kernel_rfl) rfl ?_ ?_
    (ChangeSpec.witness6 (enc := enc) (C := Try.checked) false ⟨#[], #[.int .u8 0, .int .u8 0], []⟩ 8 (by kernel_rfl) (by kernel_rfl) (by kernel_rfl) (by kernel_rfl))
  · intro ds h
    obtain ⟨a0, a1, rfl⟩ : ∃ a0 a1, ds = [a0, a1] := by
      match ds, h with
      | [a0, a1], _ => exact ⟨a0, a1, rfl⟩
    rfl
  · exact tapeEnd_args
theorem tapeEnd_holds : Rows.TapeEndSaid :=
  OpenClaim.holds_of_wide 7 Try.f7 rfl rfl rfl rfl rfl rfl rfl ⟨rfl, rfl, rfl, rfl, rfl⟩ rfl rfl rfl rfl rfl (by kernel_rfl) Try.func7 (by kernel_rfl)
    (of_decide_eq_true (by kernel_rfl)) (by unfold Func.isWrapper; first | (rw [if_pos (by decide +kernel)]; kernel_rfl) | (rw [if_neg (by decide +kernel)]; exact ⟨rfl, rfl⟩))
    (fun os started H enc _ => tapeEnd_lifted os started H enc)

theorem tapeBytes_args : ∀ xs, ArgsTy T 4 Try.f8.params.toList xs → Idl.Spec Try.prog 8 xs [] (Only (.sc (.bool true)) []) := by
  rintro xs ⟨_, _, rfl, ⟨a, hx, ha⟩, _, _, rfl, ⟨n, hy, hn⟩, _, _, rfl, ⟨b, hz, hb⟩, rfl⟩
  cases hx; cases hy; cases hz
  have hn := wf_u32 hn
  exact bytes_spec a n b ha hn.1 hn.2 hb
theorem tapeBytes_lifted (os : Os) (started : os.Started) (H : Type) (enc : TypeId × Value → H) :
    ReturnsInHanded {} Try.checked os 8 .any (Rows.tapeBytesSpec.pre6 enc Try.prog Try.f8 Rows.tapeBytesRow.domain false) (Rows.tapeBytesSpec.post enc Try.prog Try.f8 false true false false) := by
  refine law_row (n := 4) (T := T) (bt := 4) (C := Try.checked) tok Try.own started (by kernel_rfl) Try.func8 rfl Try.laidOut (by kernel_rfl) rfl (by kernel_rfl) rfl ?_ ?_
    (ChangeSpec.witness6 (enc := enc) (C := Try.checked) false ⟨#[], #[.string ⟨#[]⟩, .int .u32 0, .string ⟨#[]⟩], []⟩ 8 (by kernel_rfl) (by kernel_rfl) (by kernel_rfl) (by kernel_rfl))
  · intro ds h
    obtain ⟨a0, a1, a2, rfl⟩ : ∃ a0 a1 a2, ds = [a0, a1, a2] := by
      match ds, h with
      | [a0, a1, a2], _ => exact ⟨a0, a1, a2, rfl⟩
    rfl
  · exact tapeBytes_args
theorem tapeBytes_holds : Rows.TapeBytesSaid :=
  OpenClaim.holds_of_wide 8 Try.f8 rfl rfl rfl rfl rfl rfl rfl ⟨rfl, rfl, rfl, rfl, rfl⟩ rfl rfl rfl rfl rfl (by kernel_rfl) Try.func8 (by kernel_rfl)
    (of_decide_eq_true (by kernel_rfl)) (by unfold Func.isWrapper; first | (rw [if_pos (by decide +kernel)]; kernel_rfl) | (rw [if_neg (by decide +kernel)]; exact ⟨rfl, rfl⟩))
    (fun os started H enc _ => tapeBytes_lifted os started H enc)
end Go.Proofs.Ytpmgocnapdhabaa
