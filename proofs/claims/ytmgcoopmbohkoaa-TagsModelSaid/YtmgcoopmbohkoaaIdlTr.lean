/-
  Ideal states: of a block its first cells alone are told.
-/
import Derived.Test.YtmgcoopmbohkoaaIdlFa
namespace Go.Idl
open Go
section
variable {P : Program} {k nt : Nat} {env : List (Nat × IV)} {h : List HO} {Q : Exit → St → Prop} {x : Code}
theorem wN0 (j : Nat) (hw : IWP P k x Q ⟨nt, (j, .fz true [] 0) :: env, h⟩) (hi : lk env j = .sc (.slice none 0 0) := by first | exact rfl | fail) : IWP P k x Q ⟨nt, env, h⟩ := by
  refine IWP.le ?_ hw
  rintro cx a w ⟨F, hF⟩
  refine ⟨F, hF.defers, hF.size, hF.step, fun i => ?_, hF.base, hF.names, hF.n0⟩
  show R _ (lk ((j, _) :: env) i) _
  rw [lk_cons]
  by_cases e : j = i
  · subst e; rw [if_pos rfl]
    have := hF.env j
    change R _ (lk env j) _ at this
    rw [hi] at this
    generalize a.tmps.getD j undef = v at this
    cases this; exact .fznil
  · rw [if_neg e]; exact hF.env i
end
/-! ### A block freezes whose slice lies within a box -/
theorem HIn.rebox {F : Fix} {h : List HO} {w : World} (hi : HIn F h w) {b : Nat} {cs cs' : List IV} (e : h[b]? = some (.box cs)) (ho : OIn F w b (.box cs')) : HStep F F h (h.set b (.box cs')) w w := by
  have hlt := lt_of_get e
  have hlive : ∀ m', live (h.set b (.box cs')) m' → live h m' := by
    rintro m' ⟨x, hx, hd⟩
    by_cases hm : b = m'
    · subst hm; exact ⟨_, e, by simp⟩
    · rw [List.getElem?_set_ne hm] at hx; exact ⟨x, hx, hd⟩
  refine ⟨Ext.refl F, ⟨by simp [hi.N], hi.rd, fun j x hx => ?_, fun a b ha hb => hi.inj a b (hlive a ha) (hlive b hb), fun a ha => hi.dis a (hlive a ha)⟩, Fr.refl _ w, fun j hj hb => .inr ⟨j, hlive j hj, hb, rfl⟩, fun a v ha => .inl ha⟩
  by_cases hm : b = j
  · subst hm; rw [List.getElem?_set] at hx; simp [hlt] at hx; rw [← hx]; exact ho
  · rw [List.getElem?_set_ne hm] at hx; exact hi.obj j x hx
section
variable {P : Program} {k nt : Nat} {env : List (Nat × IV)} {h : List HO} {Q : Exit → St → Prop} {x : Code}
theorem Le.freezeB {s : St} {b n off len cap esz : Nat} {pre post cs : List IV} (hb : s.h[b]? = some (.box (pre ++ .sl n off len cap esz :: post))) (hn : s.h[n]? = some (.arr true cs)) (hl : off + len * esz ≤ cs.length) :
    Le k s ⟨s.nt, s.env, (s.h.set n .dead).set b (.box (pre ++ .fz true ((cs.drop off).take (len * esz)) len :: post))⟩ := by
  rintro cx a w ⟨F, hF⟩
  obtain ⟨G, hst, hfz⟩ := hF.step.hin.freeze hn
  have hbn : n ≠ b := fun e => by subst e; rw [hb] at hn; cases hn
  have hbl : b < F.N := by rw [hF.step.hin.N]; exact lt_of_get hb
  have hb' : (s.h.set n .dead)[b]? = some (.box (pre ++ .sl n off len cap esz :: post)) := by rw [List.getElem?_set_ne hbn]; exact hb
  have ho : OIn G w b (.box (pre ++ .fz true ((cs.drop off).take (len * esz)) len :: post)) := by
    rcases hF.step.hin.obj b _ hb with ⟨_, h2⟩ | ⟨vs, ty, lo, hi', h2, h3, h4, p, sx, hps, h5⟩
    · simp at h2
    · exact .inr ⟨vs, ty, lo, hi', by rw [hst.ext.blk b hbl]; exact h2, by rw [hst.ext.bsz b hbl]; exact h3, h4, p, sx, hps, RL.swapAt (fun h => h.mono hst.ext.weak) (fun v hv => hfz _ _ _ _ _ hv hl) h5⟩
  exact ⟨G, hF.defers, hF.size, hF.step.trans (hst.trans (hst.hin.rebox hb' ho)), fun j => (hF.env j).mono hst.ext.weak, hF.base, hF.names, hF.n0⟩
end
/-! ### A box freezes, at which a name and a closure point -/
theorem HIn.rearr {F : Fix} {h : List HO} {w : World} (hi : HIn F h w) {n : Nat} {cs : List IV} (e : h[n]? = some (.box cs)) (hc : IV.closedL cs = true) (hb : F.base ≤ F.blk n) : HStep F F h (h.set n (.arr true cs)) w w := by
  have hlt := lt_of_get e
  have hlive : ∀ m, live (h.set n (.arr true cs)) m → live h m := by
    rintro m ⟨x, hx, hd⟩
    by_cases hm : n = m
    · subst hm; exact ⟨_, e, by simp⟩
    · rw [List.getElem?_set_ne hm] at hx; exact ⟨x, hx, hd⟩
  refine ⟨Ext.refl F, ⟨by simp [hi.N], hi.rd, fun m x hx => ?_, fun a b ha hb => hi.inj a b (hlive a ha) (hlive b hb), fun a ha => hi.dis a (hlive a ha)⟩, Fr.refl _ w, fun m hm hb => .inr ⟨m, hlive m hm, hb, rfl⟩, fun a v ha => .inl ha⟩
  by_cases hm : n = m
  · subst hm; rw [List.getElem?_set] at hx; simp [hlt] at hx; rw [← hx]
    rcases hi.obj n _ e with h1 | ⟨vs, ty, lo, hi', k1, k2, k3, p, sx, hps, k5⟩
    · exact .inl h1
    · exact .inr ⟨vs, ty, lo, hi', k1, k2, k3, fun _ => hb, p, sx, hps, k5.shut hc⟩
  · rw [List.getElem?_set_ne hm] at hx; exact hi.obj m x hx
def lowLive (h : List HO) (k : Nat) : Bool := (List.range k).all fun m => match h[m]? with | some .dead => false | some _ => true | none => false
theorem lowLive_at {h : List HO} {k m : Nat} (hb : lowLive h k = true) (hm : m < k) : live h m := by
  have := List.all_eq_true.1 hb m (List.mem_range.2 hm)
  split at this
  · cases this
  · rename_i o hd ho; exact ⟨o, ho, hd⟩
  · cases this
section
variable {P : Program} {k nt : Nat} {env : List (Nat × IV)} {h : List HO} {Q : Exit → St → Prop} {x : Code}
end
end Go.Idl
