/-
  Whatever the input, the laws of the layer pack hold. No condition.
-/
import Derived.Test.YtpmgocnapdhababPacL3
import Derived.Test.YtpmgocnapdhababPacL4
import Derived.Test.YtpmgocnapdhababIdlRow
import Derived.Test.YtpmgocnapdhababRows
namespace Go.Proofs.Ytpmgocnapdhabab
open Go Go.Idl Go.RowKit Go.ChangeShapes Go.WideShapes
set_option linter.unusedSimpArgs false
set_option linter.unusedVariables false
set_option maxRecDepth 100000
set_option maxHeartbeats 1000000
attribute [local irreducible] Go.Idl.IWP Go.Idl.IOps Go.Idl.Obl Go.Idl.OpG Go.Idl.thenI Go.Idl.inBlockI Go.Idl.LoopU Go.Idl.noGotoI Go.Idl.jumpI
theorem Try.own : ownKnob Try.prog.godebug = none := by kernel_rfl
theorem Try.laidOut : laidOutB Try.prog = true := by kernel_rfl

/-- A slice of numbers, or of texts, that came in. -/
theorem ty_u64s {n : Nat} {es : List (List IV)} (h : ∀ x ∈ es, Ty T n 24 x) : ∃ l : List Int, es.flatten = u64s l ∧ es.length = l.length ∧ ∀ n ∈ l, 0 ≤ n ∧ n < 18446744073709551616 := by
  induction es with
  | nil => exact ⟨[], rfl, rfl, fun n h => by cases h⟩
  | cons x es ih =>
    obtain ⟨l, h1, h2, h3⟩ := ih fun y hy => h y (by simp [hy])
    cases n with
    | zero => exact (h x (by simp)).elim
    | succ n =>
      obtain ⟨m, rfl, hm⟩ := h x (by simp)
      have hm := wf_u64 hm
      refine ⟨m :: l, by rw [List.flatten_cons, h1]; rfl, by simp [h2], fun n hn => ?_⟩
      rcases List.mem_cons.1 hn with rfl | hn
      · omega
      · exact h3 n hn
theorem ty_strs {n : Nat} {es : List (List IV)} (h : ∀ x ∈ es, Ty T n 9 x) : ∃ l : List (List UInt8), es.flatten = strs l ∧ es.length = l.length ∧ ∀ t ∈ l, t.length ≤ 9223372036854775807 := by
  induction es with
  | nil => exact ⟨[], rfl, rfl, fun n h => by cases h⟩
  | cons x es ih =>
    obtain ⟨l, h1, h2, h3⟩ := ih fun y hy => h y (by simp [hy])
    cases n with
    | zero => exact (h x (by simp)).elim
    | succ n =>
      obtain ⟨m, rfl, hm⟩ := h x (by simp)
      refine ⟨m :: l, by rw [List.flatten_cons, h1]; rfl, by simp [h2], fun n hn => ?_⟩
      rcases List.mem_cons.1 hn with rfl | hn
      · exact hm
      · exact h3 n hn

theorem packTells_args : ∀ xs, ArgsTy T 4 Try.f3.params.toList xs → Idl.Spec Try.prog 3 xs [] (Only (.sc (.bool true)) []) := by
  rintro xs ⟨_, _, rfl, ⟨b, hx, hb⟩, _, _, rfl, ⟨es, hy, hel, hes⟩, _, _, rfl, ⟨fs, hz, hfl, hfs⟩, _, _, rfl, ⟨n, hw, hn⟩, rfl⟩
  cases hx; cases hy; cases hz; cases hw
  obtain ⟨l, l1, l2, l3⟩ := ty_u64s hes
  obtain ⟨t, t1, t2, t3⟩ := ty_strs hfs
  have hn := wf_u64 hn
  rw [l1, l2, t1, t2]
  exact tells_spec b l t n hb (by omega) l3 (by omega) t3 (by omega) (by omega)
theorem packTells_lifted (os : Os) (started : os.Started) (H : Type) (enc : TypeId × Value → H) :
    ReturnsInHanded {} Try.checked os 3 .any (Rows.packTellsSpec.pre6 enc Try.prog Try.f3 Rows.packTellsRow.domain false) (Rows.packTellsSpec.post enc Try.prog Try.f3 false true false false) := by
  refine law_row (n := 4) (T := T) (bt := 4) (C := Try.checked) tok Try.own started (by kernel_rfl) Try.func3 rfl Try.laidOut (by kernel_rfl) rfl (by kernel_rfl) rfl ?_ ?_
    (ChangeSpec.witness6 (enc := enc) (C := Try.checked) false ⟨#[], #[.string ⟨#[]⟩, .slice none 0 0, .slice none 0 0, .int .u64 0], []⟩ 8 (by kernel_rfl) (by kernel_rfl) (by kernel_rfl) (by kernel_rfl))
  · intro ds h
    obtain ⟨a0, a1, a2, a3, rfl⟩ : ∃ a0 a1 a2 a3, ds = [a0, a1, a2, a3] := by
      match ds, h with
      | [a0, a1, a2, a3], _ => exact ⟨a0, a1, a2, a3, rfl⟩
    rfl
  · exact packTells_args
theorem packTells_holds : Rows.PackTellsSaid :=
  OpenClaim.holds_of_wide 3 Try.f3 rfl rfl rfl rfl rfl rfl rfl ⟨rfl, rfl, rfl, rfl, rfl⟩ rfl rfl rfl rfl rfl (by kernel_rfl) Try.func3 (by kernel_rfl)
    (of_decide_eq_true (by kernel_rfl)) (by unfold Func.isWrapper; first | (rw [if_pos (by decide +kernel)]; kernel_rfl) | (rw [if_neg (by decide +kernel)]; exact ⟨rfl, rfl⟩))
    (fun os started H enc _ => packTells_lifted os started H enc)

theorem packBack_args : ∀ xs, ArgsTy T 4 Try.f4.params.toList xs → Idl.Spec Try.prog 4 xs [] (Only (.sc (.bool true)) []) := by
  rintro xs ⟨_, _, rfl, ⟨es, hy, hel, hes⟩, _, _, rfl, ⟨fs, hz, hfl, hfs⟩, _, _, rfl, ⟨b, hx, hb⟩, rfl⟩
  cases hx; cases hy; cases hz
  obtain ⟨l, l1, l2, l3⟩ := ty_u64s hes
  obtain ⟨t, t1, t2, t3⟩ := ty_strs hfs
  rw [l1, l2, t1, t2]
  exact back_spec l t b (by omega) l3 (by omega) t3 hb
theorem packBack_lifted (os : Os) (started : os.Started) (H : Type) (enc : TypeId × Value → H) :
    ReturnsInHanded {} Try.checked os 4 .any (Rows.packBackSpec.pre6 enc Try.prog Try.f4 Rows.packBackRow.domain false) (Rows.packBackSpec.post enc Try.prog Try.f4 false true false false) := by
  refine law_row (n := 4) (T := T) (bt := 4) (C := Try.checked) tok Try.own started (by kernel_rfl) Try.func4 rfl Try.laidOut (by kernel_rfl) rfl (by kernel_rfl) rfl ?_ ?_
    (ChangeSpec.witness6 (enc := enc) (C := Try.checked) false ⟨#[], #[.slice none 0 0, .slice none 0 0, .string ⟨#[]⟩], []⟩ 8 (by kernel_rfl) (by kernel_rfl) (by kernel_rfl) (by kernel_rfl))
  · intro ds h
    obtain ⟨a0, a1, a2, rfl⟩ : ∃ a0 a1 a2, ds = [a0, a1, a2] := by
      match ds, h with
      | [a0, a1, a2], _ => exact ⟨a0, a1, a2, rfl⟩
    rfl
  · exact packBack_args
theorem packBack_holds : Rows.PackBackSaid :=
  OpenClaim.holds_of_wide 4 Try.f4 rfl rfl rfl rfl rfl rfl rfl ⟨rfl, rfl, rfl, rfl, rfl⟩ rfl rfl rfl rfl rfl (by kernel_rfl) Try.func4 (by kernel_rfl)
    (of_decide_eq_true (by kernel_rfl)) (by unfold Func.isWrapper; first | (rw [if_pos (by decide +kernel)]; kernel_rfl) | (rw [if_neg (by decide +kernel)]; exact ⟨rfl, rfl⟩))
    (fun os started H enc _ => packBack_lifted os started H enc)

theorem packOwn_args : ∀ xs, ArgsTy T 4 Try.f5.params.toList xs → Idl.Spec Try.prog 5 xs [] (Only (.sc (.bool true)) []) := by
  rintro xs ⟨_, _, rfl, ⟨b, hx, hb⟩, rfl⟩
  cases hx
  exact own_spec b hb
theorem packOwn_lifted (os : Os) (started : os.Started) (H : Type) (enc : TypeId × Value → H) :
    ReturnsInHanded {} Try.checked os 5 .any (Rows.packOwnSpec.pre6 enc Try.prog Try.f5 Rows.packOwnRow.domain false) (Rows.packOwnSpec.post enc Try.prog Try.f5 false true false false) := by
  refine law_row (n := 4) (T := T) (bt := 4) (C := Try.checked) tok Try.own started (by kernel_rfl) Try.func5 rfl Try.laidOut (by kernel_rfl) rfl (by kernel_rfl) rfl ?_ ?_
    (ChangeSpec.witness6 (enc := enc) (C := Try.checked) false ⟨#[], #[.string ⟨#[]⟩], []⟩ 8 (by kernel_rfl) (by kernel_rfl) (by kernel_rfl) (by kernel_rfl))
  · intro ds h
    obtain ⟨a0, rfl⟩ : ∃ a0, ds = [a0] := by
      match ds, h with
      | [a0], _ => exact ⟨a0, rfl⟩
    rfl
  · exact packOwn_args
theorem packOwn_holds : Rows.PackOwnSaid :=
  OpenClaim.holds_of_wide 5 Try.f5 rfl rfl rfl rfl rfl rfl rfl ⟨rfl, rfl, rfl, rfl, rfl⟩ rfl rfl rfl rfl rfl (by kernel_rfl) Try.func5 (by kernel_rfl)
    (of_decide_eq_true (by kernel_rfl)) (by unfold Func.isWrapper; first | (rw [if_pos (by decide +kernel)]; kernel_rfl) | (rw [if_neg (by decide +kernel)]; exact ⟨rfl, rfl⟩))
    (fun os started H enc _ => packOwn_lifted os started H enc)

theorem packCuts_args : ∀ xs, ArgsTy T 4 Try.f6.params.toList xs → Idl.Spec Try.prog 6 xs [] (Only (.sc (.bool true)) []) := by
  rintro xs ⟨_, _, rfl, ⟨n, hw, hn⟩, _, _, rfl, ⟨fs, hz, hfl, hfs⟩, _, _, rfl, ⟨c, hc, hc'⟩, rfl⟩
  cases hw; cases hz; cases hc
  obtain ⟨t, t1, t2, t3⟩ := ty_strs hfs
  have hn := wf_u64 hn; have hc' := wf_u16 hc'
  rw [t1, t2]
  exact cuts_spec n t c (by omega) (by omega) (by omega) t3 hc'.1 hc'.2
theorem packCuts_lifted (os : Os) (started : os.Started) (H : Type) (enc : TypeId × Value → H) :
    ReturnsInHanded {} Try.checked os 6 .any (Rows.packCutsSpec.pre6 enc Try.prog Try.f6 Rows.packCutsRow.domain false) (Rows.packCutsSpec.post enc Try.prog Try.f6 false true false false) := by
  refine law_row (n := 4) (T := T) (bt := 4) (C := Try.checked) tok Try.own started (by kernel_rfl) Try.func6 rfl Try.laidOut (by kernel_rfl) rfl (by kernel_rfl) rfl ?_ ?_
    (ChangeSpec.witness6 (enc := enc) (C := Try.checked) false ⟨#[], #[.int .u64 0, .slice none 0 0, .int .u16 0], []⟩ 8 (by kernel_rfl) (by kernel_rfl) (by kernel_rfl) (by kernel_rfl))
  · intro ds h
    obtain ⟨a0, a1, a2, rfl⟩ : ∃ a0 a1 a2, ds = [a0, a1, a2] := by
      match ds, h with
      | [a0, a1, a2], _ => exact ⟨a0, a1, a2, rfl⟩
    rfl
  · exact packCuts_args
theorem packCuts_holds : Rows.PackCutsSaid :=
  OpenClaim.holds_of_wide 6 Try.f6 rfl rfl rfl rfl rfl rfl rfl ⟨rfl, rfl, rfl, rfl, rfl⟩ rfl rfl rfl rfl rfl (by kernel_rfl) Try.func6 (by kernel_rfl)
    (of_decide_eq_true (by kernel_rfl)) (by unfold Func.isWrapper; first | (rw [if_pos (by decide +kernel)]; kernel_rfl) | (rw [if_neg (by decide +kernel)]; exact ⟨rfl, rfl⟩))
    (fun os started H enc _ => packCuts_lifted os started H enc)

theorem packSizes_args : ∀ xs, ArgsTy T 4 Try.f7.params.toList xs → Idl.Spec Try.prog 7 xs [] (Only (.sc (.bool true)) []) := by
  rintro xs ⟨_, _, rfl, ⟨a, hv, ha⟩, _, _, rfl, ⟨b, hw, hb⟩, _, _, rfl, ⟨es, hy, hel, hes⟩, _, _, rfl, ⟨fs, hz, hfl, hfs⟩, rfl⟩
  cases hv; cases hw; cases hy; cases hz
  obtain ⟨k, k1, k2, k3⟩ := ty_u64s hes
  obtain ⟨l, l1, l2, l3⟩ := ty_u64s hfs
  have ha := wf_u64 ha; have hb := wf_u64 hb
  rw [k1, k2, l1, l2]
  exact sizes_spec a b k l (by omega) (by omega) (by omega) (by omega) (by omega) k3 (by omega) l3
theorem packSizes_lifted (os : Os) (started : os.Started) (H : Type) (enc : TypeId × Value → H) :
    ReturnsInHanded {} Try.checked os 7 .any (Rows.packSizesSpec.pre6 enc Try.prog Try.f7 Rows.packSizesRow.domain false) (Rows.packSizesSpec.post enc Try.prog Try.f7 false true false false) := by
  refine law_row (n := 4) (T := T) (bt := 4) (C := Try.checked) tok Try.own started (by kernel_rfl) Try.func7 rfl Try.laidOut (by kernel_rfl) rfl (by kernel_rfl) rfl ?_ ?_
    (ChangeSpec.witness6 (enc := enc) (C := Try.checked) false ⟨#[], #[.int .u64 0, .int .u64 0, .slice none 0 0, .slice none 0 0], []⟩ 8 (by kernel_rfl) (by kernel_rfl) (by kernel_rfl) (by kernel_rfl))
  · intro ds h
    obtain ⟨a0, a1, a2, a3, rfl⟩ : ∃ a0 a1 a2 a3, ds = [a0, a1, a2, a3] := by
      match ds, h with
      | [a0, a1, a2, a3], _ => exact ⟨a0, a1, a2, a3, rfl⟩
    rfl
  · exact packSizes_args
theorem packSizes_holds : Rows.PackSizesSaid :=
  OpenClaim.holds_of_wide 7 Try.f7 rfl rfl rfl rfl rfl rfl rfl ⟨rfl, rfl, rfl, rfl, rfl⟩ rfl rfl rfl rfl rfl (by kernel_rfl) Try.func7 (by kernel_rfl)
    (of_decide_eq_true (by kernel_rfl)) (by unfold Func.isWrapper; first | (rw [if_pos (by decide +kernel)]; kernel_rfl) | (rw [if_neg (by decide +kernel)]; exact ⟨rfl, rfl⟩))
    (fun os started H enc _ => packSizes_lifted os started H enc)

theorem packLists_args : ∀ xs, ArgsTy T 4 Try.f8.params.toList xs → Idl.Spec Try.prog 8 xs [] (Only (.sc (.bool true)) []) := by
  rintro xs ⟨_, _, rfl, ⟨fs, hz, hfl, hfs⟩, _, _, rfl, ⟨b, hx, hb⟩, rfl⟩
  cases hx; cases hz
  obtain ⟨t, t1, t2, t3⟩ := ty_strs hfs
  rw [t1, t2]
  exact lists_spec t b (by omega) t3 hb
theorem packLists_lifted (os : Os) (started : os.Started) (H : Type) (enc : TypeId × Value → H) :
    ReturnsInHanded {} Try.checked os 8 .any (Rows.packListsSpec.pre6 enc Try.prog Try.f8 Rows.packListsRow.domain false) (Rows.packListsSpec.post enc Try.prog Try.f8 false true false false) := by
  refine law_row (n := 4) (T := T) (bt := 4) (C := Try.checked) tok Try.own started (by kernel_rfl) Try.func8 rfl Try.laidOut (by kernel_rfl) rfl (by kernel_rfl) rfl ?_ ?_
    (ChangeSpec.witness6 (enc := enc) (C := Try.checked) false ⟨#[], #[.slice none 0 0, .string ⟨#[]⟩], []⟩ 8 (by kernel_rfl) (by kernel_rfl) (by kernel_rfl) (by kernel_rfl))
  · intro ds h
    obtain ⟨a0, a1, rfl⟩ : ∃ a0 a1, ds = [a0, a1] := by
      match ds, h with
      | [a0, a1], _ => exact ⟨a0, a1, rfl⟩
    rfl
  · exact packLists_args
theorem packLists_holds : Rows.PackListsSaid :=
  OpenClaim.holds_of_wide 8 Try.f8 rfl rfl rfl rfl rfl rfl rfl ⟨rfl, rfl, rfl, rfl, rfl⟩ rfl rfl rfl rfl rfl (by kernel_rfl) Try.func8 (by kernel_rfl)
    (of_decide_eq_true (by kernel_rfl)) (by unfold Func.isWrapper; first | (rw [if_pos (by decide +kernel)]; kernel_rfl) | (rw [if_neg (by decide +kernel)]; exact ⟨rfl, rfl⟩))
    (fun os started H enc _ => packLists_lifted os started H enc)
end Go.Proofs.Ytpmgocnapdhabab
