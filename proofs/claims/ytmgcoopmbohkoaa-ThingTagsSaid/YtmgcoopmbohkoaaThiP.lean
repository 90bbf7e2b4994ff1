/-
  Whatever the input, the laws of the layer thing hold. No condition.
-/
import Derived.Test.YtmgcoopmbohkoaaThiT
import Derived.Test.YtmgcoopmbohkoaaIdlRow
import Derived.Test.YtmgcoopmbohkoaaRows
namespace Go.Proofs.Ytmgcoopmbohkoaa
open Go Go.Idl Go.RowKit Go.ChangeShapes Go.WideShapes
set_option linter.unusedSimpArgs false
set_option linter.unusedVariables false
set_option maxRecDepth 100000
set_option maxHeartbeats 1000000
attribute [local irreducible] Go.Idl.IWP Go.Idl.IOps Go.Idl.Obl Go.Idl.OpG Go.Idl.thenI Go.Idl.inBlockI Go.Idl.LoopU Go.Idl.noGotoI Go.Idl.jumpI
theorem Try.own : ownKnob Try.prog.godebug = none := by kernel_rfl
theorem ty_strs {n : Nat} {es : List (List IV)} (h : ∀ x ∈ es, Ty T n 9 x) : ∃ l : List (List UInt8), es.flatten = strs l ∧ es.length = l.length ∧ ∀ t ∈ l, t.length ≤ 9223372036854775807 := by
  induction es with
  | nil => exact ⟨[], rfl, rfl, fun n h => by cases h⟩
  | cons x es ih =>
    obtain ⟨l, h1, h2, h3⟩ := ih fun y hy => h y (by simp [hy])
    cases n with
    | zero => exact (h x (by simp)).elim
    | succ n =>
      obtain ⟨m, rfl, hm⟩ := h x (by simp)
      refine ⟨m :: l, by rw [List.flatten_cons, h1]; rfl, by simp [h2], fun n hn => ?_⟩
      rcases List.mem_cons.1 hn with rfl | hn
      · exact hm
      · exact h3 n hn
theorem byte_of {f : Int} (h : 0 ≤ f ∧ f ≤ 255) : ∃ u : UInt8, f = (u.toNat : Int) := ⟨UInt8.ofNat f.toNat, by rw [UInt8.toNat_ofNat']; omega⟩

theorem thingTells_args : ∀ xs, ArgsTy T 4 Try.f3.params.toList xs → Idl.Spec Try.prog 3 xs [] (Only (.sc (.bool true)) []) := by
  rintro xs ⟨_, _, rfl, ⟨k, hk, hkl⟩, _, _, rfl, ⟨fs, hz, hfl, hfs⟩, _, _, rfl, ⟨n, hn, hnl⟩, rfl⟩
  cases hk; cases hz; cases hn
  obtain ⟨m, m1, m2, m3⟩ := ty_strs hfs
  have hnl := wf_i64 hnl
  rw [m1, m2]
  exact tells_law k m n hkl (by omega) hnl.2
theorem thingTells_lifted (os : Os) (started : os.Started) (H : Type) (enc : TypeId × Value → H) :
    ReturnsInHanded {} Try.checked os 3 .any (Rows.thingTellsSpec.pre6 enc Try.prog Try.f3 Rows.thingTellsRow.domain false) (Rows.thingTellsSpec.post enc Try.prog Try.f3 false true false false) := by
  refine law_row (n := 4) (T := T) (bt := 4) (C := Try.checked) tok Try.own started (by kernel_rfl) Try.func3 rfl Try.laidOut (by kernel_rfl) rfl (by kernel_rfl) rfl ?_ ?_
    (ChangeSpec.witness6 (enc := enc) (C := Try.checked) false ⟨#[], #[.string ⟨#[]⟩, .slice none 0 0, .int .i64 0], []⟩ 8 (by kernel_rfl) (by kernel_rfl) (by kernel_rfl) (by kernel_rfl))
  · intro ds h
    obtain ⟨a0, a1, a2, rfl⟩ : ∃ a0 a1 a2, ds = [a0, a1, a2] := by
      match ds, h with
      | [a0, a1, a2], _ => exact ⟨a0, a1, a2, rfl⟩
    rfl
  · exact thingTells_args
theorem thingTells_holds : Rows.ThingTellsSaid :=
  OpenClaim.holds_of_wide 3 Try.f3 rfl rfl rfl rfl rfl rfl rfl ⟨rfl, rfl, rfl, rfl, rfl⟩ rfl rfl rfl rfl rfl (by kernel_rfl) Try.func3 (by kernel_rfl)
    (of_decide_eq_true (by kernel_rfl)) (by unfold Func.isWrapper; first | (rw [if_pos (by decide +kernel)]; kernel_rfl) | (rw [if_neg (by decide +kernel)]; exact ⟨rfl, rfl⟩))
    (fun os started H enc _ => thingTells_lifted os started H enc)

theorem thingTags_args : ∀ xs, ArgsTy T 4 Try.f4.params.toList xs → Idl.Spec Try.prog 4 xs [] (Only (.sc (.bool true)) []) := by
  rintro xs ⟨_, _, rfl, ⟨fs, hz, hfl, hfs⟩, _, _, rfl, ⟨n, hn, hnl⟩, rfl⟩
  cases hz; cases hn
  obtain ⟨m, m1, m2, m3⟩ := ty_strs hfs
  obtain ⟨u, rfl⟩ := byte_of (wf_u8 hnl)
  rw [m1, m2]
  exact ltags_law m u (by omega)
theorem thingTags_lifted (os : Os) (started : os.Started) (H : Type) (enc : TypeId × Value → H) :
    ReturnsInHanded {} Try.checked os 4 .any (Rows.thingTagsSpec.pre6 enc Try.prog Try.f4 Rows.thingTagsRow.domain false) (Rows.thingTagsSpec.post enc Try.prog Try.f4 false true false false) := by
  refine law_row (n := 4) (T := T) (bt := 4) (C := Try.checked) tok Try.own started (by kernel_rfl) Try.func4 rfl Try.laidOut (by kernel_rfl) rfl (by kernel_rfl) rfl ?_ ?_
    (ChangeSpec.witness6 (enc := enc) (C := Try.checked) false ⟨#[], #[.slice none 0 0, .int .u8 0], []⟩ 8 (by kernel_rfl) (by kernel_rfl) (by kernel_rfl) (by kernel_rfl))
  · intro ds h
    obtain ⟨a0, a1, rfl⟩ : ∃ a0 a1, ds = [a0, a1] := by
      match ds, h with
      | [a0, a1], _ => exact ⟨a0, a1, rfl⟩
    rfl
  · exact thingTags_args
theorem thingTags_holds : Rows.ThingTagsSaid :=
  OpenClaim.holds_of_wide 4 Try.f4 rfl rfl rfl rfl rfl rfl rfl ⟨rfl, rfl, rfl, rfl, rfl⟩ rfl rfl rfl rfl rfl (by kernel_rfl) Try.func4 (by kernel_rfl)
    (of_decide_eq_true (by kernel_rfl)) (by unfold Func.isWrapper; first | (rw [if_pos (by decide +kernel)]; kernel_rfl) | (rw [if_neg (by decide +kernel)]; exact ⟨rfl, rfl⟩))
    (fun os started H enc _ => thingTags_lifted os started H enc)

theorem thingFew_args : ∀ xs, ArgsTy T 4 Try.f5.params.toList xs → Idl.Spec Try.prog 5 xs [] (Only (.sc (.bool true)) []) := by
  rintro xs ⟨_, _, rfl, ⟨fs, hz, hfl, hfs⟩, rfl⟩
  cases hz
  obtain ⟨m, m1, m2, m3⟩ := ty_strs hfs
  rw [m1, m2]
  exact few_law m (by omega)
theorem thingFew_lifted (os : Os) (started : os.Started) (H : Type) (enc : TypeId × Value → H) :
    ReturnsInHanded {} Try.checked os 5 .any (Rows.thingFewSpec.pre6 enc Try.prog Try.f5 Rows.thingFewRow.domain false) (Rows.thingFewSpec.post enc Try.prog Try.f5 false true false false) := by
  refine law_row (n := 4) (T := T) (bt := 4) (C := Try.checked) tok Try.own started (by kernel_rfl) Try.func5 rfl Try.laidOut (by kernel_rfl) rfl (by kernel_rfl) rfl ?_ ?_
    (ChangeSpec.witness6 (enc := enc) (C := Try.checked) false ⟨#[], #[.slice none 0 0], []⟩ 8 (by kernel_rfl) (by kernel_rfl) (by kernel_rfl) (by kernel_rfl))
  · intro ds h
    obtain ⟨a0, rfl⟩ : ∃ a0, ds = [a0] := by
      match ds, h with
      | [a0], _ => exact ⟨a0, rfl⟩
    rfl
  · exact thingFew_args
theorem thingFew_holds : Rows.ThingFewSaid :=
  OpenClaim.holds_of_wide 5 Try.f5 rfl rfl rfl rfl rfl rfl rfl ⟨rfl, rfl, rfl, rfl, rfl⟩ rfl rfl rfl rfl rfl (by kernel_rfl) Try.func5 (by kernel_rfl)
    (of_decide_eq_true (by kernel_rfl)) (by unfold Func.isWrapper; first | (rw [if_pos (by decide +kernel)]; kernel_rfl) | (rw [if_neg (by decide +kernel)]; exact ⟨rfl, rfl⟩))
    (fun os started H enc _ => thingFew_lifted os started H enc)

theorem thingHash_args : ∀ xs, ArgsTy T 4 Try.f6.params.toList xs → Idl.Spec Try.prog 6 xs [] (Only (.sc (.bool true)) []) := by
  rintro xs ⟨_, _, rfl, ⟨k, hk, hkl⟩, _, _, rfl, ⟨a, ha, hal⟩, _, _, rfl, ⟨b, hb, hbl⟩, rfl⟩
  cases hk; cases ha; cases hb
  obtain ⟨u, rfl⟩ := byte_of (wf_u8 hal)
  obtain ⟨v, rfl⟩ := byte_of (wf_u8 hbl)
  exact lhash_law k u v hkl
theorem thingHash_lifted (os : Os) (started : os.Started) (H : Type) (enc : TypeId × Value → H) :
    ReturnsInHanded {} Try.checked os 6 .any (Rows.thingHashSpec.pre6 enc Try.prog Try.f6 Rows.thingHashRow.domain false) (Rows.thingHashSpec.post enc Try.prog Try.f6 false true false false) := by
  refine law_row (n := 4) (T := T) (bt := 4) (C := Try.checked) tok Try.own started (by kernel_rfl) Try.func6 rfl Try.laidOut (by kernel_rfl) rfl (by kernel_rfl) rfl ?_ ?_
    (ChangeSpec.witness6 (enc := enc) (C := Try.checked) false ⟨#[], #[.string ⟨#[]⟩, .int .u8 0, .int .u8 0], []⟩ 8 (by kernel_rfl) (by kernel_rfl) (by kernel_rfl) (by kernel_rfl))
  · intro ds h
    obtain ⟨a0, a1, a2, rfl⟩ : ∃ a0 a1 a2, ds = [a0, a1, a2] := by
      match ds, h with
      | [a0, a1, a2], _ => exact ⟨a0, a1, a2, rfl⟩
    rfl
  · exact thingHash_args
theorem thingHash_holds : Rows.ThingHashSaid :=
  OpenClaim.holds_of_wide 6 Try.f6 rfl rfl rfl rfl rfl rfl rfl ⟨rfl, rfl, rfl, rfl, rfl⟩ rfl rfl rfl rfl rfl (by kernel_rfl) Try.func6 (by kernel_rfl)
    (of_decide_eq_true (by kernel_rfl)) (by unfold Func.isWrapper; first | (rw [if_pos (by decide +kernel)]; kernel_rfl) | (rw [if_neg (by decide +kernel)]; exact ⟨rfl, rfl⟩))
    (fun os started H enc _ => thingHash_lifted os started H enc)

theorem thingHome_args : ∀ xs, ArgsTy T 4 Try.f7.params.toList xs → Idl.Spec Try.prog 7 xs [] (Only (.sc (.bool true)) []) := by
  rintro xs ⟨_, _, rfl, ⟨k, hk, hkl⟩, _, _, rfl, ⟨n, hn, hnl⟩, _, _, rfl, ⟨b, hb, hbl⟩, rfl⟩
  cases hk; cases hn; cases hb
  have hnl := wf_i64 hnl
  obtain ⟨u, rfl⟩ := byte_of (wf_u8 hbl)
  exact lhome_law k n u hkl hnl.1 hnl.2
theorem thingHome_lifted (os : Os) (started : os.Started) (H : Type) (enc : TypeId × Value → H) :
    ReturnsInHanded {} Try.checked os 7 .any (Rows.thingHomeSpec.pre6 enc Try.prog Try.f7 Rows.thingHomeRow.domain false) (Rows.thingHomeSpec.post enc Try.prog Try.f7 false true false false) := by
  refine law_row (n := 4) (T := T) (bt := 4) (C := Try.checked) tok Try.own started (by kernel_rfl) Try.func7 rfl Try.laidOut (by kernel_rfl) rfl (by kernel_rfl) rfl ?_ ?_
    (ChangeSpec.witness6 (enc := enc) (C := Try.checked) false ⟨#[], #[.string ⟨#[]⟩, .int .i64 0, .int .u8 0], []⟩ 8 (by kernel_rfl) (by kernel_rfl) (by kernel_rfl) (by kernel_rfl))
  · intro ds h
    obtain ⟨a0, a1, a2, rfl⟩ : ∃ a0 a1 a2, ds = [a0, a1, a2] := by
      match ds, h with
      | [a0, a1, a2], _ => exact ⟨a0, a1, a2, rfl⟩
    rfl
  · exact thingHome_args
theorem thingHome_holds : Rows.ThingHomeSaid :=
  OpenClaim.holds_of_wide 7 Try.f7 rfl rfl rfl rfl rfl rfl rfl ⟨rfl, rfl, rfl, rfl, rfl⟩ rfl rfl rfl rfl rfl (by kernel_rfl) Try.func7 (by kernel_rfl)
    (of_decide_eq_true (by kernel_rfl)) (by unfold Func.isWrapper; first | (rw [if_pos (by decide +kernel)]; kernel_rfl) | (rw [if_neg (by decide +kernel)]; exact ⟨rfl, rfl⟩))
    (fun os started H enc _ => thingHome_lifted os started H enc)
end Go.Proofs.Ytmgcoopmbohkoaa
