/-
  Ideal states: a block freezes whose slice lies within a value.
-/
import Derived.Test.YtmgcoopmbohkoaaIdlDt
namespace Go.Idl
open Go
theorem RL.swapAt {F G : Fix} {x y : IV} {post : List IV} (hw : ∀ {x v}, R F x v → R G x v) (hx : ∀ v, R F x v → R G y v) : ∀ {pre : List IV} {vs : List Value}, RL F (pre ++ x :: post) vs → RL G (pre ++ y :: post) vs
  | [], _, .cons h t => .cons (hx _ h) (RL.map' hw t)
  | _ :: _, _, .cons h t => .cons (hw h) (RL.swapAt hw hx t)
where RL.map' {F G : Fix} (hw : ∀ {x v}, R F x v → R G x v) : ∀ {cs : List IV} {vs : List Value}, RL F cs vs → RL G cs vs
  | [], _, .nil => .nil
  | _ :: _, _, .cons h t => .cons (hw h) (RL.map' hw t)
section
variable {s : St} {k : Nat}
theorem Le.freezeA {i n off len cap esz : Nat} {pre post cs : List IV} (hi : lk s.env i = .agg (pre ++ .sl n off len cap esz :: post)) (hn : s.h[n]? = some (.arr true cs)) (hl : off + len * esz ≤ cs.length) :
    Le k s ⟨s.nt, (i, .agg (pre ++ .fz true ((cs.drop off).take (len * esz)) len :: post)) :: s.env, s.h.set n .dead⟩ := by
  rintro cx a w ⟨F, hF⟩
  obtain ⟨G, hst, hfz⟩ := hF.step.hin.freeze hn
  refine ⟨G, hF.defers, hF.size, hF.step.trans hst, fun j => ?_, hF.base, hF.names, hF.n0⟩
  show R _ (lk ((i, _) :: s.env) j) _
  rw [lk_cons]
  by_cases e : i = j
  · subst e; rw [if_pos rfl]
    have := hF.env i
    rw [hi] at this
    generalize a.tmps.getD i undef = v at this
    cases this with
    | agg h => exact .agg (RL.swapAt (fun h => h.mono hst.ext.weak) (fun v hv => hfz _ _ _ _ _ hv hl) h)
  · rw [if_neg e]; exact (hF.env j).mono hst.ext.weak
end
section
variable {P : Program} {T : TT} {k nt : Nat} {env : List (Nat × IV)} {h : List HO} {Q : Exit → St → Prop} {x : Code}
theorem wA (j : Nat) (pre post : List IV) {n off len cap esz : Nat} {cs cs' : List IV} {h' : List HO} (hw : IWP P k x Q ⟨nt, (j, .agg (pre ++ .fz true cs' len :: post)) :: env, h'⟩) (hi : lk env j = .agg (pre ++ .sl n off len cap esz :: post) := by first | exact rfl | fail) (hn : h[n]? = some (.arr true cs) := by first | exact rfl | fail) (hl : off + len * esz ≤ cs.length := by first | omega | (simp (disch := first | omega | (simp only [List.length_append, List.length_cons, List.length_nil, List.length_set, List.length_map, List.length_replicate, List.length_take, List.length_drop]; omega)) only [go_sem, Int.reduceAdd, Int.reduceMul, Int.reduceSub, Int.reduceDiv, Int.reduceMod, Int.reduceNeg, Int.reduceLT, Int.reduceLE, Int.reduceEq, Nat.reduceAdd, Nat.reduceSub, Nat.reduceMul, Nat.reduceDiv, Nat.reduceMod, Nat.reduceLT, Nat.reduceLeDiff, Nat.reduceEqDiff, Int.reduceToNat, reduceIte]; done) | (simp (disch := first | omega | (simp only [List.length_append, List.length_cons, List.length_nil, List.length_set, List.length_map, List.length_replicate, List.length_take, List.length_drop]; omega)) only [go_sem, Int.reduceAdd, Int.reduceMul, Int.reduceSub, Int.reduceDiv, Int.reduceMod, Int.reduceNeg, Int.reduceLT, Int.reduceLE, Int.reduceEq, Nat.reduceAdd, Nat.reduceSub, Nat.reduceMul, Nat.reduceDiv, Nat.reduceMod, Nat.reduceLT, Nat.reduceLeDiff, Nat.reduceEqDiff, Int.reduceToNat, reduceIte] <;> omega))
    (hc : (cs.drop off).take (len * esz) = cs' := by (try simp (disch := first | omega | (simp only [List.length_append, List.length_cons, List.length_nil, List.length_set, List.length_map, List.length_replicate, List.length_take, List.length_drop]; omega)) only [go_sem, Int.reduceAdd, Int.reduceMul, Int.reduceSub, Int.reduceDiv, Int.reduceMod, Int.reduceNeg, Int.reduceLT, Int.reduceLE, Int.reduceEq, Nat.reduceAdd, Nat.reduceSub, Nat.reduceMul, Nat.reduceDiv, Nat.reduceMod, Nat.reduceLT, Nat.reduceLeDiff, Nat.reduceEqDiff, Int.reduceToNat, reduceIte]) <;> rfl) (hh : frcH (h.set n .dead) = some h' := by first | exact rfl | fail) : IWP P k x Q ⟨nt, env, h⟩ := by
  have hh := frcH_eq hh; subst hc; subst hh; exact IWP.le (Le.freezeA (s := ⟨nt, env, h⟩) hi hn hl) hw
end
end Go.Idl
