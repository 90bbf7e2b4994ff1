/-
  Ideal states: of a block its first cells alone are told.
-/
import Derived.Test.YtnlelckfhlcbgaaIdlFa
namespace Go.Idl
open Go
theorem HIn.trunc {F : Fix} {h : List HO} {w : World} (hi : HIn F h w) {n : Nat} {b : Bool} {cs : List IV} (e : h[n]? = some (.arr b cs)) (m : Nat) : HStep F F h (h.set n (.arr b (cs.take m))) w w := by
  have hlt := lt_of_get e
  have hlive : ∀ m', live (h.set n (.arr b (cs.take m))) m' → live h m' := by
    rintro m' ⟨x, hx, hd⟩
    by_cases hm : n = m'
    · subst hm; exact ⟨_, e, by simp⟩
    · rw [List.getElem?_set_ne hm] at hx; exact ⟨x, hx, hd⟩
  refine ⟨Ext.refl F, ⟨by simp [hi.N], hi.rd, fun j x hx => ?_, fun a b ha hb => hi.inj a b (hlive a ha) (hlive b hb), fun a ha => hi.dis a (hlive a ha)⟩, Fr.refl _ w, fun j hj hb => .inr ⟨j, hlive j hj, hb, rfl⟩, fun a v ha => .inl ha⟩
  by_cases hm : n = j
  · subst hm; rw [List.getElem?_set] at hx; simp [hlt] at hx; rw [← hx]
    rcases hi.obj n _ e with ⟨h0, h1⟩ | ⟨vs, ty, lo, hi', k1, k2, k3, k4, pre, suf, k5, k6⟩
    · exact .inl ⟨h0, by subst h1; simp⟩
    · exact .inr ⟨vs, ty, lo, hi', k1, k2, k3, k4, pre.take m, pre.drop m ++ suf, by rw [k5, ← List.append_assoc, List.take_append_drop], k6.take m⟩
  · rw [List.getElem?_set_ne hm] at hx; exact hi.obj j x hx
section
variable {P : Program} {k nt : Nat} {env : List (Nat × IV)} {h : List HO} {Q : Exit → St → Prop} {x : Code}
theorem wT (n m : Nat) {b : Bool} {cs cs' : List IV} {h' : List HO} (hw : IWP P k x Q ⟨nt, env, h'⟩) (hn : h[n]? = some (.arr b cs) := by first | exact rfl | fail) (hc : cs.take m = cs' := by (try simp (disch := first | omega | (simp only [List.length_append, List.length_cons, List.length_nil, List.length_set, List.length_map, List.length_replicate, List.length_take, List.length_drop]; omega)) only [go_sem, Nat.reduceMul, reduceIte]) <;> rfl)
    (hh : frcH (h.set n (.arr b cs')) = some h' := by first | exact rfl | fail) : IWP P k x Q ⟨nt, env, h⟩ := by
  have hh := frcH_eq hh
  subst hc; subst hh
  refine IWP.le ?_ hw
  rintro cx a w ⟨F, hF⟩
  exact ⟨F, hF.defers, hF.size, hF.step.trans (hF.step.hin.trunc hn m), hF.env, hF.base, hF.names, hF.n0⟩
/-- A nil slice within a value is an empty one. -/
theorem wN (j : Nat) (pre post : List IV) (hw : IWP P k x Q ⟨nt, (j, .agg (pre ++ .fz true [] 0 :: post)) :: env, h⟩) (hi : lk env j = .agg (pre ++ .sc (.slice none 0 0) :: post) := by first | exact rfl | fail) : IWP P k x Q ⟨nt, env, h⟩ := by
  refine IWP.le ?_ hw
  rintro cx a w ⟨F, hF⟩
  refine ⟨F, hF.defers, hF.size, hF.step, fun i => ?_, hF.base, hF.names, hF.n0⟩
  show R _ (lk ((j, _) :: env) i) _
  rw [lk_cons]
  by_cases e : j = i
  · subst e; rw [if_pos rfl]
    have := hF.env j
    change R _ (lk env j) _ at this
    rw [hi] at this
    generalize a.tmps.getD j undef = v at this
    cases this with
    | agg h => exact .agg (RL.swapAt (fun h => h) (fun v hv => by cases hv; exact .fznil) h)
  · rw [if_neg e]; exact hF.env i
/-- A nil slice is an empty one. -/
theorem wN0 (j : Nat) (hw : IWP P k x Q ⟨nt, (j, .fz true [] 0) :: env, h⟩) (hi : lk env j = .sc (.slice none 0 0) := by first | exact rfl | fail) : IWP P k x Q ⟨nt, env, h⟩ := by
  refine IWP.le ?_ hw
  rintro cx a w ⟨F, hF⟩
  refine ⟨F, hF.defers, hF.size, hF.step, fun i => ?_, hF.base, hF.names, hF.n0⟩
  show R _ (lk ((j, _) :: env) i) _
  rw [lk_cons]
  by_cases e : j = i
  · subst e; rw [if_pos rfl]
    have := hF.env j
    change R _ (lk env j) _ at this
    rw [hi] at this
    generalize a.tmps.getD j undef = v at this
    cases this; exact .fznil
  · rw [if_neg e]; exact hF.env i
end
/-! ### A block freezes whose slice lies within a box -/
theorem HIn.rebox {F : Fix} {h : List HO} {w : World} (hi : HIn F h w) {b : Nat} {cs cs' : List IV} (e : h[b]? = some (.box cs)) (ho : OIn F w b (.box cs')) : HStep F F h (h.set b (.box cs')) w w := by
  have hlt := lt_of_get e
  have hlive : ∀ m', live (h.set b (.box cs')) m' → live h m' := by
    rintro m' ⟨x, hx, hd⟩
    by_cases hm : b = m'
    · subst hm; exact ⟨_, e, by simp⟩
    · rw [List.getElem?_set_ne hm] at hx; exact ⟨x, hx, hd⟩
  refine ⟨Ext.refl F, ⟨by simp [hi.N], hi.rd, fun j x hx => ?_, fun a b ha hb => hi.inj a b (hlive a ha) (hlive b hb), fun a ha => hi.dis a (hlive a ha)⟩, Fr.refl _ w, fun j hj hb => .inr ⟨j, hlive j hj, hb, rfl⟩, fun a v ha => .inl ha⟩
  by_cases hm : b = j
  · subst hm; rw [List.getElem?_set] at hx; simp [hlt] at hx; rw [← hx]; exact ho
  · rw [List.getElem?_set_ne hm] at hx; exact hi.obj j x hx
section
variable {P : Program} {k nt : Nat} {env : List (Nat × IV)} {h : List HO} {Q : Exit → St → Prop} {x : Code}
theorem Le.freezeB {s : St} {b n off len cap esz : Nat} {pre post cs : List IV} (hb : s.h[b]? = some (.box (pre ++ .sl n off len cap esz :: post))) (hn : s.h[n]? = some (.arr true cs)) (hl : off + len * esz ≤ cs.length) :
    Le k s ⟨s.nt, s.env, (s.h.set n .dead).set b (.box (pre ++ .fz true ((cs.drop off).take (len * esz)) len :: post))⟩ := by
  rintro cx a w ⟨F, hF⟩
  obtain ⟨G, hst, hfz⟩ := hF.step.hin.freeze hn
  have hbn : n ≠ b := fun e => by subst e; rw [hb] at hn; cases hn
  have hbl : b < F.N := by rw [hF.step.hin.N]; exact lt_of_get hb
  have hb' : (s.h.set n .dead)[b]? = some (.box (pre ++ .sl n off len cap esz :: post)) := by rw [List.getElem?_set_ne hbn]; exact hb
  have ho : OIn G w b (.box (pre ++ .fz true ((cs.drop off).take (len * esz)) len :: post)) := by
    rcases hF.step.hin.obj b _ hb with ⟨_, h2⟩ | ⟨vs, ty, lo, hi', h2, h3, h4, h5⟩
    · simp at h2
    · exact .inr ⟨vs, ty, lo, hi', by rw [hst.ext.blk b hbl]; exact h2, by rw [hst.ext.bsz b hbl]; exact h3, h4, RL.swapAt (fun h => h.mono hst.ext.weak) (fun v hv => hfz _ _ _ _ _ hv hl) h5⟩
  exact ⟨G, hF.defers, hF.size, hF.step.trans (hst.trans (hst.hin.rebox hb' ho)), fun j => (hF.env j).mono hst.ext.weak, hF.base, hF.names, hF.n0⟩
theorem wB (b : Nat) (pre post : List IV) {n off len cap esz : Nat} {cs cs' : List IV} {h' : List HO} (hw : IWP P k x Q ⟨nt, env, h'⟩) (hb : h[b]? = some (.box (pre ++ .sl n off len cap esz :: post)) := by first | exact rfl | fail) (hn : h[n]? = some (.arr true cs) := by first | exact rfl | fail) (hl : off + len * esz ≤ cs.length := by first | omega | (simp (disch := first | omega | (simp only [List.length_append, List.length_cons, List.length_nil, List.length_set, List.length_map, List.length_replicate, List.length_take, List.length_drop]; omega)) only [go_sem, Int.reduceAdd, Int.reduceMul, Int.reduceSub, Int.reduceDiv, Int.reduceMod, Int.reduceNeg, Int.reduceLT, Int.reduceLE, Int.reduceEq, Nat.reduceAdd, Nat.reduceSub, Nat.reduceMul, Nat.reduceDiv, Nat.reduceMod, Nat.reduceLT, Nat.reduceLeDiff, Nat.reduceEqDiff, Int.reduceToNat, reduceIte]; done) | (simp (disch := first | omega | (simp only [List.length_append, List.length_cons, List.length_nil, List.length_set, List.length_map, List.length_replicate, List.length_take, List.length_drop]; omega)) only [go_sem, Int.reduceAdd, Int.reduceMul, Int.reduceSub, Int.reduceDiv, Int.reduceMod, Int.reduceNeg, Int.reduceLT, Int.reduceLE, Int.reduceEq, Nat.reduceAdd, Nat.reduceSub, Nat.reduceMul, Nat.reduceDiv, Nat.reduceMod, Nat.reduceLT, Nat.reduceLeDiff, Nat.reduceEqDiff, Int.reduceToNat, reduceIte] <;> omega))
    (hc : (cs.drop off).take (len * esz) = cs' := by (try simp (disch := first | omega | (simp only [List.length_append, List.length_cons, List.length_nil, List.length_set, List.length_map, List.length_replicate, List.length_take, List.length_drop]; omega)) only [go_sem, Int.reduceAdd, Int.reduceMul, Int.reduceSub, Int.reduceDiv, Int.reduceMod, Int.reduceNeg, Int.reduceLT, Int.reduceLE, Int.reduceEq, Nat.reduceAdd, Nat.reduceSub, Nat.reduceMul, Nat.reduceDiv, Nat.reduceMod, Nat.reduceLT, Nat.reduceLeDiff, Nat.reduceEqDiff, Int.reduceToNat, reduceIte]) <;> rfl)
    (hh : frcH ((h.set n .dead).set b (.box (pre ++ .fz true cs' len :: post))) = some h' := by first | exact rfl | fail) : IWP P k x Q ⟨nt, env, h⟩ := by
  have hh := frcH_eq hh; subst hc; subst hh
  exact IWP.le (Le.freezeB (s := ⟨nt, env, h⟩) hb hn hl) hw
/-- A nil slice within a box is an empty one. -/
theorem wNB (b : Nat) (pre post : List IV) {h' : List HO} (hw : IWP P k x Q ⟨nt, env, h'⟩) (hb : h[b]? = some (.box (pre ++ .sc (.slice none 0 0) :: post)) := by first | exact rfl | fail)
    (hh : frcH (h.set b (.box (pre ++ .fz true [] 0 :: post))) = some h' := by first | exact rfl | fail) : IWP P k x Q ⟨nt, env, h⟩ := by
  have hh := frcH_eq hh; subst hh
  refine IWP.le ?_ hw
  rintro cx a w ⟨F, hF⟩
  have hin := hF.step.hin
  have ho : OIn F w b (.box (pre ++ .fz true [] 0 :: post)) := by
    rcases hin.obj b _ hb with ⟨_, h2⟩ | ⟨vs, ty, lo, hi', h2, h3, h4, h5⟩
    · simp at h2
    · exact .inr ⟨vs, ty, lo, hi', h2, h3, h4, RL.swapAt (fun h => h) (fun v hv => by cases hv; exact .fznil) h5⟩
  exact ⟨F, hF.defers, hF.size, hF.step.trans (hin.rebox hb ho), hF.env, hF.base, hF.names, hF.n0⟩
end
end Go.Idl
