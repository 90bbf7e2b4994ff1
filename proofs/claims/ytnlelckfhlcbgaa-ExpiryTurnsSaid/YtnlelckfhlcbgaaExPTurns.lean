/-
  Whatever the input, the laws of the layer expiry hold. No condition.
-/
import Derived.Test.YtnlelckfhlcbgaaExNTurns
import Derived.Test.YtnlelckfhlcbgaaIdlRow
import Derived.Test.YtnlelckfhlcbgaaRows
namespace Go.Proofs.Ytnlelckfhlcbgaa
open Go Go.Idl Go.RowKit Go.ChangeShapes Go.WideShapes
set_option linter.unusedSimpArgs false
set_option linter.unusedVariables false
set_option maxRecDepth 100000
set_option maxHeartbeats 1000000
attribute [local irreducible] Go.Idl.IWP Go.Idl.IOps Go.Idl.Obl Go.Idl.OpG Go.Idl.thenI Go.Idl.inBlockI Go.Idl.LoopU Go.Idl.noGotoI Go.Idl.jumpI
theorem Try.own : ownKnob Try.prog.godebug = none := by kernel_rfl
theorem Try.laidOut : laidOutB Try.prog = true := by kernel_rfl
theorem ty_dues {n : Nat} {es : List (List IV)} (h : ∀ x ∈ es, Ty T n 86 x) : ∃ l : List Du, es.flatten = dues l ∧ es.length = l.length := by
  induction es with
  | nil => exact ⟨[], rfl, rfl⟩
  | cons x es ih =>
    obtain ⟨l, h1, h2⟩ := ih fun y hy => h y (by simp [hy])
    cases n with
    | zero => exact (h x (by simp)).elim
    | succ n =>
      cases n with
      | zero =>
        obtain ⟨_, _, _, h3, _⟩ := h x (by simp)
        exact h3.elim
      | succ n =>
        obtain ⟨_, _, rfl, ⟨i, rfl, _⟩, _, _, rfl, ⟨p, rfl, _⟩, rfl⟩ := h x (by simp)
        exact ⟨⟨i, p⟩ :: l, by rw [List.flatten_cons, h1]; rfl, by simp [h2]⟩
theorem expiryTurns_args : ∀ xs, ArgsTy T 4 Try.f13.params.toList xs → Idl.Spec Try.prog 13 xs [] (Only (.sc (.bool true)) []) := by
  rintro xs ⟨_, _, rfl, ⟨_, rfl, _, _, rfl, ⟨now, rfl, _⟩, _, _, rfl, ⟨es, rfl, hel, hes⟩, rfl⟩, _, _, rfl, ⟨a, ha, _⟩, _, _, rfl, ⟨b, hb, _⟩, _, _, rfl, ⟨c, hc, _⟩, _, _, rfl, ⟨d, hd, _⟩, rfl⟩
  cases ha; cases hb; cases hc; cases hd
  obtain ⟨l, l1, l2⟩ := ty_dues hes
  rw [l1, l2]
  exact turns_law now l a b c d (by omega)
theorem expiryTurns_lifted (os : Os) (started : os.Started) (H : Type) (enc : TypeId × Value → H) :
    ReturnsInHanded {} Try.checked os 13 .any (Rows.expiryTurnsSpec.pre6 enc Try.prog Try.f13 Rows.expiryTurnsRow.domain false) (Rows.expiryTurnsSpec.post enc Try.prog Try.f13 false true false false) := by
  refine law_row (n := 4) (T := T) (bt := 4) (C := Try.checked) tok Try.own started (by kernel_rfl) Try.func13 rfl Try.laidOut (by kernel_rfl) rfl (by kernel_rfl) rfl ?_ ?_
    (ChangeSpec.witness6 (enc := enc) (C := Try.checked) false ⟨#[], #[.agg #[.int .i64 0, .slice none 0 0], .int .i64 0, .int .i64 0, .int .i64 0, .int .i64 0], []⟩ 8 (by kernel_rfl) (by kernel_rfl) (by kernel_rfl) (by kernel_rfl))
  · intro ds h
    obtain ⟨a0, a1, a2, a3, a4, rfl⟩ : ∃ a0 a1 a2 a3 a4, ds = [a0, a1, a2, a3, a4] := by
      match ds, h with
      | [a0, a1, a2, a3, a4], _ => exact ⟨a0, a1, a2, a3, a4, rfl⟩
    rfl
  · exact expiryTurns_args
theorem expiryTurns_holds : Rows.ExpiryTurnsSaid :=
  OpenClaim.holds_of_wide 13 Try.f13 rfl rfl rfl rfl rfl rfl rfl ⟨rfl, rfl, rfl, rfl, rfl⟩ rfl rfl rfl rfl rfl (by kernel_rfl) Try.func13 (by kernel_rfl)
    (of_decide_eq_true (by kernel_rfl)) (by unfold Func.isWrapper; first | (rw [if_pos (by decide +kernel)]; kernel_rfl) | (rw [if_neg (by decide +kernel)]; exact ⟨rfl, rfl⟩))
    (fun os started H enc _ => expiryTurns_lifted os started H enc)
end Go.Proofs.Ytnlelckfhlcbgaa
