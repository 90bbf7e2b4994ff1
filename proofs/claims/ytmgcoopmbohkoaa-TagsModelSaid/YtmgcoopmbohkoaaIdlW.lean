/-
  Ideal states: from a function's Spec to its row.
-/
import Derived.Test.YtmgcoopmbohkoaaIdlV
import Derived.ProofKit
namespace Go.Idl
open Go Go.RowKit

def Rd (W : World) : Fix := ⟨W.heap.size, fun a => W.cell? a, fun _ => 0, fun _ => 0, 0⟩

theorem Spec.below {P : Program} {f : FuncId} {xs : List IV} {v : Value} (s : Spec P f xs [] (Only (.sc v) [])) {W : World} {vs : List Value} (h : RL (Rd W) xs vs) :
    Calls P f ⟨vs⟩ W fun e w' => e = .returned v ∧ Below W.heap.size W w' := by
  refine (s.runs (Rd W) W vs (Nat.le_refl _) ⟨rfl, fun a v h => h, fun n o h => by simp at h, fun m n h => by obtain ⟨o, h, _⟩ := h; simp at h, fun n h => by obtain ⟨o, h, _⟩ := h; simp at h⟩ h).mono ?_
  rintro e w' ⟨v', G, y, h', rfl, ⟨rfl, rfl⟩, hst, hr⟩
  cases hr
  exact ⟨rfl, hst.fr.os, hst.fr.tape, hst.fr.output, hst.fr.size, fun k hk => hst.fr.block k hk (by rintro ⟨n, ⟨o, h, _⟩, _⟩; simp at h)⟩

end Go.Idl
