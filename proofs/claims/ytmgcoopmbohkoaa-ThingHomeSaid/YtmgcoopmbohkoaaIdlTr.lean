/-
  Ideal states: of a block its first cells alone are told.
-/
import Derived.Test.YtmgcoopmbohkoaaIdlFa
namespace Go.Idl
open Go
theorem HIn.trunc {F : Fix} {h : List HO} {w : World} (hi : HIn F h w) {n : Nat} {b : Bool} {cs : List IV} (e : h[n]? = some (.arr b cs)) (m : Nat) : HStep F F h (h.set n (.arr b (cs.take m))) w w := by
  have hlt := lt_of_get e
  have hlive : ∀ m', live (h.set n (.arr b (cs.take m))) m' → live h m' := by
    rintro m' ⟨x, hx, hd⟩
    by_cases hm : n = m'
    · subst hm; exact ⟨_, e, by simp⟩
    · rw [List.getElem?_set_ne hm] at hx; exact ⟨x, hx, hd⟩
  refine ⟨Ext.refl F, ⟨by simp [hi.N], hi.rd, fun j x hx => ?_, fun a b ha hb => hi.inj a b (hlive a ha) (hlive b hb), fun a ha => hi.dis a (hlive a ha)⟩, Fr.refl _ w, fun j hj hb => .inr ⟨j, hlive j hj, hb, rfl⟩, fun a v ha => .inl ha⟩
  by_cases hm : n = j
  · subst hm; rw [List.getElem?_set] at hx; simp [hlt] at hx; rw [← hx]
    rcases hi.obj n _ e with ⟨h0, h1⟩ | ⟨vs, ty, lo, hi', k1, k2, k3, k4, pre, suf, k5, k6⟩
    · exact .inl ⟨h0, by subst h1; simp⟩
    · exact .inr ⟨vs, ty, lo, hi', k1, k2, k3, k4, pre.take m, pre.drop m ++ suf, by rw [k5, ← List.append_assoc, List.take_append_drop], k6.take m⟩
  · rw [List.getElem?_set_ne hm] at hx; exact hi.obj j x hx
section
variable {P : Program} {k nt : Nat} {env : List (Nat × IV)} {h : List HO} {Q : Exit → St → Prop} {x : Code}
theorem wT (n m : Nat) {b : Bool} {cs cs' : List IV} {h' : List HO} (hw : IWP P k x Q ⟨nt, env, h'⟩) (hn : h[n]? = some (.arr b cs) := by first | exact rfl | fail) (hc : cs.take m = cs' := by (try simp (disch := first | omega | (simp only [List.length_append, List.length_cons, List.length_nil, List.length_set, List.length_map, List.length_replicate, List.length_take, List.length_drop]; omega)) only [go_sem, Nat.reduceMul, reduceIte]) <;> rfl)
    (hh : frcH (h.set n (.arr b cs')) = some h' := by first | exact rfl | fail) : IWP P k x Q ⟨nt, env, h⟩ := by
  have hh := frcH_eq hh
  subst hc; subst hh
  refine IWP.le ?_ hw
  rintro cx a w ⟨F, hF⟩
  exact ⟨F, hF.defers, hF.size, hF.step.trans (hF.step.hin.trunc hn m), hF.env, hF.base, hF.names, hF.n0⟩
/-- A nil slice within a value is an empty one. -/
theorem wN (j : Nat) (pre post : List IV) (hw : IWP P k x Q ⟨nt, (j, .agg (pre ++ .fz true [] 0 :: post)) :: env, h⟩) (hi : lk env j = .agg (pre ++ .sc (.slice none 0 0) :: post) := by first | exact rfl | fail) : IWP P k x Q ⟨nt, env, h⟩ := by
  refine IWP.le ?_ hw
  rintro cx a w ⟨F, hF⟩
  refine ⟨F, hF.defers, hF.size, hF.step, fun i => ?_, hF.base, hF.names, hF.n0⟩
  show R _ (lk ((j, _) :: env) i) _
  rw [lk_cons]
  by_cases e : j = i
  · subst e; rw [if_pos rfl]
    have := hF.env j
    change R _ (lk env j) _ at this
    rw [hi] at this
    generalize a.tmps.getD j undef = v at this
    cases this with
    | agg h => exact .agg (RL.swapAt (fun h => h) (fun v hv => by cases hv; exact .fznil) h)
  · rw [if_neg e]; exact hF.env i
/-- A nil slice is an empty one. -/
theorem wN0 (j : Nat) (hw : IWP P k x Q ⟨nt, (j, .fz true [] 0) :: env, h⟩) (hi : lk env j = .sc (.slice none 0 0) := by first | exact rfl | fail) : IWP P k x Q ⟨nt, env, h⟩ := by
  refine IWP.le ?_ hw
  rintro cx a w ⟨F, hF⟩
  refine ⟨F, hF.defers, hF.size, hF.step, fun i => ?_, hF.base, hF.names, hF.n0⟩
  show R _ (lk ((j, _) :: env) i) _
  rw [lk_cons]
  by_cases e : j = i
  · subst e; rw [if_pos rfl]
    have := hF.env j
    change R _ (lk env j) _ at this
    rw [hi] at this
    generalize a.tmps.getD j undef = v at this
    cases this; exact .fznil
  · rw [if_neg e]; exact hF.env i
end
/-! ### A block freezes whose slice lies within a box -/
theorem HIn.rebox {F : Fix} {h : List HO} {w : World} (hi : HIn F h w) {b : Nat} {cs cs' : List IV} (e : h[b]? = some (.box cs)) (ho : OIn F w b (.box cs')) : HStep F F h (h.set b (.box cs')) w w := by
  have hlt := lt_of_get e
  have hlive : ∀ m', live (h.set b (.box cs')) m' → live h m' := by
    rintro m' ⟨x, hx, hd⟩
    by_cases hm : b = m'
    · subst hm; exact ⟨_, e, by simp⟩
    · rw [List.getElem?_set_ne hm] at hx; exact ⟨x, hx, hd⟩
  refine ⟨Ext.refl F, ⟨by simp [hi.N], hi.rd, fun j x hx => ?_, fun a b ha hb => hi.inj a b (hlive a ha) (hlive b hb), fun a ha => hi.dis a (hlive a ha)⟩, Fr.refl _ w, fun j hj hb => .inr ⟨j, hlive j hj, hb, rfl⟩, fun a v ha => .inl ha⟩
  by_cases hm : b = j
  · subst hm; rw [List.getElem?_set] at hx; simp [hlt] at hx; rw [← hx]; exact ho
  · rw [List.getElem?_set_ne hm] at hx; exact hi.obj j x hx
section
variable {P : Program} {k nt : Nat} {env : List (Nat × IV)} {h : List HO} {Q : Exit → St → Prop} {x : Code}
theorem Le.freezeB {s : St} {b n off len cap esz : Nat} {pre post cs : List IV} (hb : s.h[b]? = some (.box (pre ++ .sl n off len cap esz :: post))) (hn : s.h[n]? = some (.arr true cs)) (hl : off + len * esz ≤ cs.length) :
    Le k s ⟨s.nt, s.env, (s.h.set n .dead).set b (.box (pre ++ .fz true ((cs.drop off).take (len * esz)) len :: post))⟩ := by
  rintro cx a w ⟨F, hF⟩
  obtain ⟨G, hst, hfz⟩ := hF.step.hin.freeze hn
  have hbn : n ≠ b := fun e => by subst e; rw [hb] at hn; cases hn
  have hbl : b < F.N := by rw [hF.step.hin.N]; exact lt_of_get hb
  have hb' : (s.h.set n .dead)[b]? = some (.box (pre ++ .sl n off len cap esz :: post)) := by rw [List.getElem?_set_ne hbn]; exact hb
  have ho : OIn G w b (.box (pre ++ .fz true ((cs.drop off).take (len * esz)) len :: post)) := by
    rcases hF.step.hin.obj b _ hb with ⟨_, h2⟩ | ⟨vs, ty, lo, hi', h2, h3, h4, h5⟩
    · simp at h2
    · exact .inr ⟨vs, ty, lo, hi', by rw [hst.ext.blk b hbl]; exact h2, by rw [hst.ext.bsz b hbl]; exact h3, h4, RL.swapAt (fun h => h.mono hst.ext.weak) (fun v hv => hfz _ _ _ _ _ hv hl) h5⟩
  exact ⟨G, hF.defers, hF.size, hF.step.trans (hst.trans (hst.hin.rebox hb' ho)), fun j => (hF.env j).mono hst.ext.weak, hF.base, hF.names, hF.n0⟩
theorem wB (b : Nat) (pre post : List IV) {n off len cap esz : Nat} {cs cs' : List IV} {h' : List HO} (hw : IWP P k x Q ⟨nt, env, h'⟩) (hb : h[b]? = some (.box (pre ++ .sl n off len cap esz :: post)) := by first | exact rfl | fail) (hn : h[n]? = some (.arr true cs) := by first | exact rfl | fail) (hl : off + len * esz ≤ cs.length := by first | omega | (simp (disch := first | omega | (simp only [List.length_append, List.length_cons, List.length_nil, List.length_set, List.length_map, List.length_replicate, List.length_take, List.length_drop]; omega)) only [go_sem, Int.reduceAdd, Int.reduceMul, Int.reduceSub, Int.reduceDiv, Int.reduceMod, Int.reduceNeg, Int.reduceLT, Int.reduceLE, Int.reduceEq, Nat.reduceAdd, Nat.reduceSub, Nat.reduceMul, Nat.reduceDiv, Nat.reduceMod, Nat.reduceLT, Nat.reduceLeDiff, Nat.reduceEqDiff, Int.reduceToNat, reduceIte]; done) | (simp (disch := first | omega | (simp only [List.length_append, List.length_cons, List.length_nil, List.length_set, List.length_map, List.length_replicate, List.length_take, List.length_drop]; omega)) only [go_sem, Int.reduceAdd, Int.reduceMul, Int.reduceSub, Int.reduceDiv, Int.reduceMod, Int.reduceNeg, Int.reduceLT, Int.reduceLE, Int.reduceEq, Nat.reduceAdd, Nat.reduceSub, Nat.reduceMul, Nat.reduceDiv, Nat.reduceMod, Nat.reduceLT, Nat.reduceLeDiff, Nat.reduceEqDiff, Int.reduceToNat, reduceIte] <;> omega))
    (hc : (cs.drop off).take (len * esz) = cs' := by (try simp (disch := first | omega | (simp only [List.length_append, List.length_cons, List.length_nil, List.length_set, List.length_map, List.length_replicate, List.length_take, List.length_drop]; omega)) only [go_sem, Int.reduceAdd, Int.reduceMul, Int.reduceSub, Int.reduceDiv, Int.reduceMod, Int.reduceNeg, Int.reduceLT, Int.reduceLE, Int.reduceEq, Nat.reduceAdd, Nat.reduceSub, Nat.reduceMul, Nat.reduceDiv, Nat.reduceMod, Nat.reduceLT, Nat.reduceLeDiff, Nat.reduceEqDiff, Int.reduceToNat, reduceIte]) <;> rfl)
    (hh : frcH ((h.set n .dead).set b (.box (pre ++ .fz true cs' len :: post))) = some h' := by first | exact rfl | fail) : IWP P k x Q ⟨nt, env, h⟩ := by
  have hh := frcH_eq hh; subst hc; subst hh
  exact IWP.le (Le.freezeB (s := ⟨nt, env, h⟩) hb hn hl) hw
/-- A nil slice within a box is an empty one. -/
theorem wNB (b : Nat) (pre post : List IV) {h' : List HO} (hw : IWP P k x Q ⟨nt, env, h'⟩) (hb : h[b]? = some (.box (pre ++ .sc (.slice none 0 0) :: post)) := by first | exact rfl | fail)
    (hh : frcH (h.set b (.box (pre ++ .fz true [] 0 :: post))) = some h' := by first | exact rfl | fail) : IWP P k x Q ⟨nt, env, h⟩ := by
  have hh := frcH_eq hh; subst hh
  refine IWP.le ?_ hw
  rintro cx a w ⟨F, hF⟩
  have hin := hF.step.hin
  have ho : OIn F w b (.box (pre ++ .fz true [] 0 :: post)) := by
    rcases hin.obj b _ hb with ⟨_, h2⟩ | ⟨vs, ty, lo, hi', h2, h3, h4, h5⟩
    · simp at h2
    · exact .inr ⟨vs, ty, lo, hi', h2, h3, h4, RL.swapAt (fun h => h) (fun v hv => by cases hv; exact .fznil) h5⟩
  exact ⟨F, hF.defers, hF.size, hF.step.trans (hin.rebox hb ho), hF.env, hF.base, hF.names, hF.n0⟩
end
/-! ### A box freezes, at which a name and a closure point -/
theorem HIn.rearr {F : Fix} {h : List HO} {w : World} (hi : HIn F h w) {n : Nat} {cs : List IV} (e : h[n]? = some (.box cs)) (hc : IV.closedL cs = true) (hb : F.base ≤ F.blk n) : HStep F F h (h.set n (.arr true cs)) w w := by
  have hlt := lt_of_get e
  have hlive : ∀ m, live (h.set n (.arr true cs)) m → live h m := by
    rintro m ⟨x, hx, hd⟩
    by_cases hm : n = m
    · subst hm; exact ⟨_, e, by simp⟩
    · rw [List.getElem?_set_ne hm] at hx; exact ⟨x, hx, hd⟩
  refine ⟨Ext.refl F, ⟨by simp [hi.N], hi.rd, fun m x hx => ?_, fun a b ha hb => hi.inj a b (hlive a ha) (hlive b hb), fun a ha => hi.dis a (hlive a ha)⟩, Fr.refl _ w, fun m hm hb => .inr ⟨m, hlive m hm, hb, rfl⟩, fun a v ha => .inl ha⟩
  by_cases hm : n = m
  · subst hm; rw [List.getElem?_set] at hx; simp [hlt] at hx; rw [← hx]
    rcases hi.obj n _ e with h1 | ⟨vs, ty, lo, hi', k1, k2, k3, k5⟩
    · exact .inl h1
    · exact .inr ⟨vs, ty, lo, hi', k1, k2, k3, fun _ => hb, vs.toList, [], by simp, k5.shut hc⟩
  · rw [List.getElem?_set_ne hm] at hx; exact hi.obj m x hx
def lowLive (h : List HO) (k : Nat) : Bool := (List.range k).all fun m => match h[m]? with | some .dead => false | some _ => true | none => false
theorem lowLive_at {h : List HO} {k m : Nat} (hb : lowLive h k = true) (hm : m < k) : live h m := by
  have := List.all_eq_true.1 hb m (List.mem_range.2 hm)
  split at this
  · cases this
  · rename_i o hd ho; exact ⟨o, ho, hd⟩
  · cases this
section
variable {P : Program} {k nt : Nat} {env : List (Nat × IV)} {h : List HO} {Q : Exit → St → Prop} {x : Code}
theorem Le.freezeP {s : St} {i j n : Nat} {f : Fn} {cs : List IV} (hi : lk s.env i = .ptr n 0) (hj : lk s.env j = .fn f [] [.ptr n 0]) (hn : s.h[n]? = some (.box cs)) (hc : IV.closedL cs = true) (hne : cs ≠ []) (hk : k ≤ n) (hl : lowLive s.h k = true) :
    Le k s ⟨s.nt, (i, .fp true cs 0) :: (j, .fn f [] [.fp true cs 0]) :: s.env, s.h.set n .dead⟩ := by
  rintro cx a w ⟨F, hF⟩
  have hin := hF.step.hin
  have hnl : live s.h n := ⟨_, hn, by simp⟩
  rcases hin.obj n _ hn with ⟨_, h2⟩ | ⟨vs, ty, lo, hi', h2, h3, h4, h5⟩
  · exact absurd h2 hne
  have hlen := h5.length
  have hpos : cs.length ≠ 0 := fun e => hne (List.length_eq_zero_iff.1 e)
  have hsz : F.bsz n = cs.length := by rw [← h3, hlen]; simp
  have hbz : F.bsz n ≠ 0 := by rw [hsz]; exact hpos
  have hnew : cx.w0.heap.size ≤ F.blk n := by
    rcases hF.step.own n hnl hbz with h | ⟨m, hm, hmb, hme⟩
    · exact h
    · obtain ⟨o, ho, _⟩ := hm
      have hmk : m < k := by rw [← hF.names]; exact lt_of_get ho
      have hmN : m < cx.F0.N := by rw [hF.n0]; exact lt_of_get ho
      have := hin.inj m n (lowLive_at hl hmk) hnl (by rw [hF.step.ext.bsz m hmN]; exact hmb) hbz (by rw [hF.step.ext.blk m hmN]; exact hme)
      omega
  have hbase : F.base ≤ F.blk n := by rw [hF.step.ext.base]; exact Nat.le_trans hF.base hnew
  have s1 := hin.rearr hn hc hbase
  have hlt := lt_of_get hn
  obtain ⟨G, s2, hfz⟩ := s1.hin.freeze (n := n) (cs := cs) (by rw [List.getElem?_set]; simp [hlt])
  rw [List.set_set] at s2
  have hnN : n < F.N := by rw [hin.N]; exact hlt
  have hr := hfz (.slice (some ⟨F.blk n, 0, none⟩) cs.length cs.length) 0 cs.length cs.length 1 (.sl hnN (Nat.le_refl _) (Nat.le_refl _) (fun _ => rfl) (by rw [hsz]; omega)) (by omega)
  rw [List.drop_zero, Nat.mul_one, List.take_length] at hr
  have hp : ∀ v, R F (.ptr n 0) v → R G (.fp true cs 0) v := fun v hv => by
    cases hv
    cases hr with
    | fz hb hrd hrl hl => exact .fp hb hrd hrl
    | fz0 => exact absurd rfl hne
  refine ⟨G, hF.defers, hF.size, hF.step.trans (s1.trans s2), fun q => ?_, hF.base, hF.names, hF.n0⟩
  show R _ (lk ((i, _) :: (j, _) :: s.env) q) _
  rw [lk_cons]
  by_cases e : i = q
  · subst e; rw [if_pos rfl]
    have := hF.env i
    rw [hi] at this
    exact hp _ this
  · rw [if_neg e, lk_cons]
    by_cases e2 : j = q
    · subst e2; rw [if_pos rfl]
      have := hF.env j
      rw [hj] at this
      generalize a.tmps.getD j undef = v at this
      cases this with
      | fn a1 a2 =>
        cases a1
        cases a2 with
        | cons b1 b2 =>
          cases b2
          exact .fn .nil (.cons (hp _ b1) .nil)
    · rw [if_neg e2]; exact (hF.env q).mono s2.ext.weak
theorem wC (i j : Nat) {n : Nat} {f : Fn} {cs : List IV} {h' : List HO} (hw : IWP P k x Q ⟨nt, (i, .fp true cs 0) :: (j, .fn f [] [.fp true cs 0]) :: env, h'⟩) (hi : lk env i = .ptr n 0 := by first | exact rfl | fail) (hj : lk env j = .fn f [] [.ptr n 0] := by first | exact rfl | fail)
    (hn : h[n]? = some (.box cs) := by first | exact rfl | fail) (hc : IV.closedL cs = true := by first | exact rfl | (simp only [IV.closedL, IV.closed, go_sem, Bool.and_self, Bool.and_true]; done) | fail) (hne : cs ≠ [] := by first | exact List.cons_ne_nil _ _ | fail) (hk : k ≤ n := by first | exact Nat.zero_le _ | (simp; done) | omega) (hl : lowLive h k = true := by first | exact rfl | fail)
    (hh : frcH (h.set n .dead) = some h' := by first | exact rfl | fail) : IWP P k x Q ⟨nt, env, h⟩ := by
  have hh := frcH_eq hh; subst hh
  exact IWP.le (Le.freezeP (s := ⟨nt, env, h⟩) hi hj hn hc hne hk hl) hw
end
end Go.Idl
