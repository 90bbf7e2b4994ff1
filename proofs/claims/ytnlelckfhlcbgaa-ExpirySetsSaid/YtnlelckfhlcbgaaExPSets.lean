/-
  Whatever the input, the laws of the layer expiry hold. No condition.
-/
import Derived.Test.YtnlelckfhlcbgaaExNSets
import Derived.Test.YtnlelckfhlcbgaaIdlRow
import Derived.Test.YtnlelckfhlcbgaaRows
namespace Go.Proofs.Ytnlelckfhlcbgaa
open Go Go.Idl Go.RowKit Go.ChangeShapes Go.WideShapes
set_option linter.unusedSimpArgs false
set_option linter.unusedVariables false
set_option maxRecDepth 100000
set_option maxHeartbeats 1000000
attribute [local irreducible] Go.Idl.IWP Go.Idl.IOps Go.Idl.Obl Go.Idl.OpG Go.Idl.thenI Go.Idl.inBlockI Go.Idl.LoopU Go.Idl.noGotoI Go.Idl.jumpI
theorem Try.own : ownKnob Try.prog.godebug = none := by kernel_rfl
theorem Try.laidOut : laidOutB Try.prog = true := by kernel_rfl
theorem ty_dues {n : Nat} {es : List (List IV)} (h : ∀ x ∈ es, Ty T n 86 x) : ∃ l : List Du, es.flatten = dues l ∧ es.length = l.length := by
  induction es with
  | nil => exact ⟨[], rfl, rfl⟩
  | cons x es ih =>
    obtain ⟨l, h1, h2⟩ := ih fun y hy => h y (by simp [hy])
    cases n with
    | zero => exact (h x (by simp)).elim
    | succ n =>
      cases n with
      | zero =>
        obtain ⟨_, _, _, h3, _⟩ := h x (by simp)
        exact h3.elim
      | succ n =>
        obtain ⟨_, _, rfl, ⟨i, rfl, _⟩, _, _, rfl, ⟨p, rfl, _⟩, rfl⟩ := h x (by simp)
        exact ⟨⟨i, p⟩ :: l, by rw [List.flatten_cons, h1]; rfl, by simp [h2]⟩
theorem expirySets_args : ∀ xs, ArgsTy T 4 Try.f12.params.toList xs → Idl.Spec Try.prog 12 xs [] (Only (.sc (.bool true)) []) := by
  rintro xs ⟨_, _, rfl, ⟨_, rfl, _, _, rfl, ⟨now, rfl, _⟩, _, _, rfl, ⟨es, rfl, hel, hes⟩, rfl⟩, _, _, rfl, ⟨a, ha, _⟩, _, _, rfl, ⟨b, hb, _⟩, _, _, rfl, ⟨c, hc, _⟩, rfl⟩
  cases ha; cases hb; cases hc
  obtain ⟨l, l1, l2⟩ := ty_dues hes
  rw [l1, l2]
  exact sets_law now l a b c (by omega)
theorem expirySets_lifted (os : Os) (started : os.Started) (H : Type) (enc : TypeId × Value → H) :
    ReturnsInHanded {} Try.checked os 12 .any (Rows.expirySetsSpec.pre6 enc Try.prog Try.f12 Rows.expirySetsRow.domain false) (Rows.expirySetsSpec.post enc Try.prog Try.f12 false true false false) := by
  refine law_row (n := 4) (T := T) (bt := 4) (C := Try.checked) tok Try.own started (by kernel_rfl) Try.func12 rfl Try.laidOut (by kernel_rfl) rfl (by kernel_rfl) rfl ?_ ?_
    (ChangeSpec.witness6 (enc := enc) (C := Try.checked) false ⟨#[], #[.agg #[.int .i64 0, .slice none 0 0], .int .i64 0, .int .i64 0, .int .i64 0], []⟩ 8 (by kernel_rfl) (by kernel_rfl) (by kernel_rfl) (by kernel_rfl))
  · intro ds h
    obtain ⟨a0, a1, a2, a3, rfl⟩ : ∃ a0 a1 a2 a3, ds = [a0, a1, a2, a3] := by
      match ds, h with
      | [a0, a1, a2, a3], _ => exact ⟨a0, a1, a2, a3, rfl⟩
    rfl
  · exact expirySets_args
theorem expirySets_holds : Rows.ExpirySetsSaid :=
  OpenClaim.holds_of_wide 12 Try.f12 rfl rfl rfl rfl rfl rfl rfl ⟨rfl, rfl, rfl, rfl, rfl⟩ rfl rfl rfl rfl rfl (by kernel_rfl) Try.func12 (by kernel_rfl)
    (of_decide_eq_true (by kernel_rfl)) (by unfold Func.isWrapper; first | (rw [if_pos (by decide +kernel)]; kernel_rfl) | (rw [if_neg (by decide +kernel)]; exact ⟨rfl, rfl⟩))
    (fun os started H enc _ => expirySets_lifted os started H enc)

end Go.Proofs.Ytnlelckfhlcbgaa
