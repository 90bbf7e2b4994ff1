/-
  Ideal states: calls whose answer is told by a property alone.
-/
import Derived.Test.YtmgcoopmbohkoaaIdlCl
namespace Go.Idl
open Go
set_option linter.unusedVariables false

def Ex {α : Type} (Φ : α → Prop) (Y : α → IV) (H : α → List HO) : IV → List HO → Prop := fun y h => ∃ z, Φ z ∧ y = Y z ∧ h = H z

section
variable {P : Program} {T : TT} {k : Nat} {ops : Array Oper} {rest : List Oper} {K : St → Prop} {nt d ty : Nat} {env : List (Nat × IV)} {h : List HO} {op : Op} {pos : String} {after : Array Edge} {g : Option (Nat × Bool)} {ps : List Prop}
  {s : St} {Q : Exit → St → Prop} {α : Type} {Φ : α → Prop} {Y y y0 : α → IV} {H h' h0 : α → List HO}

theorem oE (π : List Nat) {f : FuncId} {as : List IV} {xs xs0 : List IV} {hh hh0 : List HO} {pa ph : List Prop}
    (hr : runsB ops ⟨some d, op, ty, pos, after, g⟩ ⟨nt, env, h⟩ = some true := by first | exact rfl | fail) (hc : icall ⟨nt, env, h⟩ op = some (f, as) := by first | exact rfl | fail)
    (ha : vwL h π as = some (pa, xs0) := by first | exact rfl | fail) (hv : vwHs h π π = some (ph, hh0) := by first | exact rfl | fail) (ha1 : xs0 = xs := by (try simp (disch := first | omega | (simp only [List.length_append, List.length_cons, List.length_nil, List.length_set, List.length_map, List.length_replicate, List.length_take, List.length_drop]; omega)) only [go_sem, Int.reduceAdd, Int.reduceMul, Int.reduceSub, Int.reduceDiv, Int.reduceMod, Int.reduceNeg, Int.reduceLT, Int.reduceLE, Int.reduceEq, Nat.reduceAdd, Nat.reduceSub, Nat.reduceMul, Nat.reduceDiv, Nat.reduceMod, Nat.reduceLT, Nat.reduceLeDiff, Nat.reduceEqDiff, Int.reduceToNat, reduceIte]) <;> rfl) (hv1 : hh0 = hh := by (try simp (disch := first | omega | (simp only [List.length_append, List.length_cons, List.length_nil, List.length_set, List.length_map, List.length_replicate, List.length_take, List.length_drop]; omega)) only [go_sem, Int.reduceAdd, Int.reduceMul, Int.reduceSub, Int.reduceDiv, Int.reduceMod, Int.reduceNeg, Int.reduceLT, Int.reduceLE, Int.reduceEq, Nat.reduceAdd, Nat.reduceSub, Nat.reduceMul, Nat.reduceDiv, Nat.reduceMod, Nat.reduceLT, Nat.reduceLeDiff, Nat.reduceEqDiff, Int.reduceToNat, reduceIte]) <;> rfl) (hs : Spec P f xs hh (Ex Φ Y H))
    (hy : ∀ z, frc3 (some ([], (Y z).ren (callee h π), mergeH h π (H z))) = some ([], y0 z, h0 z) := by intro z; first | exact rfl | fail) (hy1 : ∀ z, y0 z = y z := by intro z; (try simp (disch := first | omega | (simp only [List.length_append, List.length_cons, List.length_nil, List.length_set, List.length_map, List.length_replicate, List.length_take, List.length_drop]; omega)) only [go_sem, Int.reduceAdd, Int.reduceMul, Int.reduceSub, Int.reduceDiv, Int.reduceMod, Int.reduceNeg, Int.reduceLT, Int.reduceLE, Int.reduceEq, Nat.reduceAdd, Nat.reduceSub, Nat.reduceMul, Nat.reduceDiv, Nat.reduceMod, Nat.reduceLT, Nat.reduceLeDiff, Nat.reduceEqDiff, Int.reduceToNat, reduceIte]) <;> rfl) (hy2 : ∀ z, h0 z = h' z := by intro z; (try simp (disch := first | omega | (simp only [List.length_append, List.length_cons, List.length_nil, List.length_set, List.length_map, List.length_replicate, List.length_take, List.length_drop]; omega)) only [go_sem, Int.reduceAdd, Int.reduceMul, Int.reduceSub, Int.reduceDiv, Int.reduceMod, Int.reduceNeg, Int.reduceLT, Int.reduceLE, Int.reduceEq, Nat.reduceAdd, Nat.reduceSub, Nat.reduceMul, Nat.reduceDiv, Nat.reduceMod, Nat.reduceLT, Nat.reduceLeDiff, Nat.reduceEqDiff, Int.reduceToNat, reduceIte]) <;> rfl) (hn : nodupB π = true := by first | exact rfl | fail) (hl : π.all (liveB h) = true := by first | exact rfl | fail) (hd : Nat.blt d nt = true := by first | exact rfl | fail)
    (hpa : AllP pa := by (try simp only [AllP, List.append_nil, List.cons_append, List.nil_append]) <;> (repeat' (first | exact trivial | refine And.intro ?_ ?_)) <;> (first | rfl | exact Nat.le_of_ble_eq_true rfl | exact ones_map _ (fun _ => rfl) | exact closedL_mapf _ (fun _ => rfl) | omega | (simp (disch := first | omega | (simp only [List.length_append, List.length_cons, List.length_nil, List.length_set, List.length_map, List.length_replicate, List.length_take, List.length_drop]; omega)) only [go_sem, Int.reduceAdd, Int.reduceMul, Int.reduceSub, Int.reduceDiv, Int.reduceMod, Int.reduceNeg, Int.reduceLT, Int.reduceLE, Int.reduceEq, Nat.reduceAdd, Nat.reduceSub, Nat.reduceMul, Nat.reduceDiv, Nat.reduceMod, Nat.reduceLT, Nat.reduceLeDiff, Nat.reduceEqDiff, Int.reduceToNat, reduceIte]; done) | (simp (disch := first | omega | (simp only [List.length_append, List.length_cons, List.length_nil, List.length_set, List.length_map, List.length_replicate, List.length_take, List.length_drop]; omega)) only [go_sem, Int.reduceAdd, Int.reduceMul, Int.reduceSub, Int.reduceDiv, Int.reduceMod, Int.reduceNeg, Int.reduceLT, Int.reduceLE, Int.reduceEq, Nat.reduceAdd, Nat.reduceSub, Nat.reduceMul, Nat.reduceDiv, Nat.reduceMod, Nat.reduceLT, Nat.reduceLeDiff, Nat.reduceEqDiff, Int.reduceToNat, reduceIte] <;> omega) | (show IV.closedL _ = true; (simp (disch := first | omega | (simp only [List.length_append, List.length_cons, List.length_nil, List.length_set, List.length_map, List.length_replicate, List.length_take, List.length_drop]; omega)) only [go_sem, Int.reduceAdd, Int.reduceMul, Int.reduceSub, Int.reduceDiv, Int.reduceMod, Int.reduceNeg, Int.reduceLT, Int.reduceLE, Int.reduceEq, Nat.reduceAdd, Nat.reduceSub, Nat.reduceMul, Nat.reduceDiv, Nat.reduceMod, Nat.reduceLT, Nat.reduceLeDiff, Nat.reduceEqDiff, Int.reduceToNat, reduceIte]; done)) | exact EqOk.of (by kernel_rfl))) (hph : AllP ph := by (try simp only [AllP, List.append_nil, List.cons_append, List.nil_append]) <;> (repeat' (first | exact trivial | refine And.intro ?_ ?_)) <;> (first | rfl | exact Nat.le_of_ble_eq_true rfl | exact ones_map _ (fun _ => rfl) | exact closedL_mapf _ (fun _ => rfl) | omega | (simp (disch := first | omega | (simp only [List.length_append, List.length_cons, List.length_nil, List.length_set, List.length_map, List.length_replicate, List.length_take, List.length_drop]; omega)) only [go_sem, Int.reduceAdd, Int.reduceMul, Int.reduceSub, Int.reduceDiv, Int.reduceMod, Int.reduceNeg, Int.reduceLT, Int.reduceLE, Int.reduceEq, Nat.reduceAdd, Nat.reduceSub, Nat.reduceMul, Nat.reduceDiv, Nat.reduceMod, Nat.reduceLT, Nat.reduceLeDiff, Nat.reduceEqDiff, Int.reduceToNat, reduceIte]; done) | (simp (disch := first | omega | (simp only [List.length_append, List.length_cons, List.length_nil, List.length_set, List.length_map, List.length_replicate, List.length_take, List.length_drop]; omega)) only [go_sem, Int.reduceAdd, Int.reduceMul, Int.reduceSub, Int.reduceDiv, Int.reduceMod, Int.reduceNeg, Int.reduceLT, Int.reduceLE, Int.reduceEq, Nat.reduceAdd, Nat.reduceSub, Nat.reduceMul, Nat.reduceDiv, Nat.reduceMod, Nat.reduceLT, Nat.reduceLeDiff, Nat.reduceEqDiff, Int.reduceToNat, reduceIte] <;> omega) | (show IV.closedL _ = true; (simp (disch := first | omega | (simp only [List.length_append, List.length_cons, List.length_nil, List.length_set, List.length_map, List.length_replicate, List.length_take, List.length_drop]; omega)) only [go_sem, Int.reduceAdd, Int.reduceMul, Int.reduceSub, Int.reduceDiv, Int.reduceMod, Int.reduceNeg, Int.reduceLT, Int.reduceLE, Int.reduceEq, Nat.reduceAdd, Nat.reduceSub, Nat.reduceMul, Nat.reduceDiv, Nat.reduceMod, Nat.reduceLT, Nat.reduceLeDiff, Nat.reduceEqDiff, Int.reduceToNat, reduceIte]; done)) | exact EqOk.of (by kernel_rfl))) (hx : ∀ z, Φ z → IOps P k ops rest K ⟨nt, (d, y z) :: env, h' z⟩) : IOps P k ops (⟨some d, op, ty, pos, after, g⟩ :: rest) K ⟨nt, env, h⟩ :=
  IOps_callK (s := ⟨nt, env, h⟩) hr hc π hn hl (ha1 ▸ ha) hpa (hv1 ▸ hv) hph hs hd fun Y' H' hk => by
    obtain ⟨z, hz, rfl, rfl⟩ := hk
    have e := frc3_eq (hy z)
    injection e with e
    injection e with _ e
    injection e with e1 e2
    have := hx z hz
    rw [← hy1, ← hy2, ← e1, ← e2] at this
    exact this

theorem sE {f : FuncId} {fn : Func} {cd : Code} {xs : List IV} (hf : P.funcs[f]? = some fn) (hnt : fn.ntmps = nt) (hw : IWP P h.length cd (Post T fn h.length (Ex Φ Y H)) ⟨nt, initEnv 0 xs, h⟩)
    (hT : TOk P T := by first | exact tok | fail) (hb : fn.body = some cd := by first | exact rfl | fail) (hname : (fn.name == "runtime.NumGoroutine") = false := by kernel_rfl) (hlen : Nat.ble xs.length nt = true := by first | exact rfl | fail)
    (hfresh : ∀ y h', Ex Φ Y H y h' → y.fresh = true ∧ h'.all HO.fresh = true := by rintro y h' ⟨z, _, rfl, rfl⟩; first | exact ⟨rfl, rfl⟩ | (refine And.intro ?_ ?_ <;> first | rfl | (simp (disch := first | omega | (simp only [List.length_append, List.length_cons, List.length_nil, List.length_set, List.length_map, List.length_replicate, List.length_take, List.length_drop]; omega)) only [go_sem, Int.reduceAdd, Int.reduceMul, Int.reduceSub, Int.reduceDiv, Int.reduceMod, Int.reduceNeg, Int.reduceLT, Int.reduceLE, Int.reduceEq, Nat.reduceAdd, Nat.reduceSub, Nat.reduceMul, Nat.reduceDiv, Nat.reduceMod, Nat.reduceLT, Nat.reduceLeDiff, Nat.reduceEqDiff, Int.reduceToNat, reduceIte]; done) | (simp only [IV.fresh, IV.freshL, HO.fresh, List.all_cons, List.all_nil, go_sem]; done))) : Spec P f xs h (Ex Φ Y H) := Spec.of_body hT hf hb hnt hname hlen hfresh hw

theorem pX {fn : Func} {e : Exit} (π : List Nat) (z : α) {ys : List IV} {y : IV} {H0 : List HO} (hz : Φ z) (hY : y = Y z)
    (he : e = .normal ∨ e = .ret := by first | exact .inr rfl | exact .inl rfl) (h1 : iresults T s fn.results.toList = some (ps, ys) := by first | exact rfl | fail) (h2 : AllP ps := by (try simp only [AllP, List.append_nil, List.cons_append, List.nil_append]) <;> (repeat' (first | exact trivial | refine And.intro ?_ ?_)) <;> (first | rfl | exact Nat.le_of_ble_eq_true rfl | exact ones_map _ (fun _ => rfl) | exact closedL_mapf _ (fun _ => rfl) | omega | (simp (disch := first | omega | (simp only [List.length_append, List.length_cons, List.length_nil, List.length_set, List.length_map, List.length_replicate, List.length_take, List.length_drop]; omega)) only [go_sem, Int.reduceAdd, Int.reduceMul, Int.reduceSub, Int.reduceDiv, Int.reduceMod, Int.reduceNeg, Int.reduceLT, Int.reduceLE, Int.reduceEq, Nat.reduceAdd, Nat.reduceSub, Nat.reduceMul, Nat.reduceDiv, Nat.reduceMod, Nat.reduceLT, Nat.reduceLeDiff, Nat.reduceEqDiff, Int.reduceToNat, reduceIte]; done) | (simp (disch := first | omega | (simp only [List.length_append, List.length_cons, List.length_nil, List.length_set, List.length_map, List.length_replicate, List.length_take, List.length_drop]; omega)) only [go_sem, Int.reduceAdd, Int.reduceMul, Int.reduceSub, Int.reduceDiv, Int.reduceMod, Int.reduceNeg, Int.reduceLT, Int.reduceLE, Int.reduceEq, Nat.reduceAdd, Nat.reduceSub, Nat.reduceMul, Nat.reduceDiv, Nat.reduceMod, Nat.reduceLT, Nat.reduceLeDiff, Nat.reduceEqDiff, Int.reduceToNat, reduceIte] <;> omega) | (show IV.closedL _ = true; (simp (disch := first | omega | (simp only [List.length_append, List.length_cons, List.length_nil, List.length_set, List.length_map, List.length_replicate, List.length_take, List.length_drop]; omega)) only [go_sem, Int.reduceAdd, Int.reduceMul, Int.reduceSub, Int.reduceDiv, Int.reduceMod, Int.reduceNeg, Int.reduceLT, Int.reduceLE, Int.reduceEq, Nat.reduceAdd, Nat.reduceSub, Nat.reduceMul, Nat.reduceDiv, Nat.reduceMod, Nat.reduceLT, Nat.reduceLeDiff, Nat.reduceEqDiff, Int.reduceToNat, reduceIte]; done)) | exact EqOk.of (by kernel_rfl))) (h3 : nodupB π = true := by first | exact rfl | fail)
    (h4 : rangeB k π = true := by first | exact rfl | fail) (h5 : (π.all fun n => Nat.blt n s.h.length) = true := by first | exact rfl | fail) (hy : frc ((oneOf ys).ren (inv π)) = some y := by first | exact rfl | fail) (hh : frcH (pickH (inv π) s.h π) = some H0 := by first | exact rfl | fail) (hH : H0 = H z := by (try simp (disch := first | omega | (simp only [List.length_append, List.length_cons, List.length_nil, List.length_set, List.length_map, List.length_replicate, List.length_take, List.length_drop]; omega)) only [go_sem, Int.reduceAdd, Int.reduceMul, Int.reduceSub, Int.reduceDiv, Int.reduceMod, Int.reduceNeg, Int.reduceLT, Int.reduceLE, Int.reduceEq, Nat.reduceAdd, Nat.reduceSub, Nat.reduceMul, Nat.reduceDiv, Nat.reduceMod, Nat.reduceLT, Nat.reduceLeDiff, Nat.reduceEqDiff, Int.reduceToNat, reduceIte]) <;> rfl) : Post T fn k (Ex Φ Y H) e s :=
  Post_intro he π h1 h2 h3 h4 h5 ⟨z, hz, (frc_eq hy).trans hY, (frcH_eq hh).trans hH⟩

theorem Ex.only {f : FuncId} {xs : List IV} {hp : List HO} {y : IV} {h' : List HO} (s : Spec P f xs hp (Ex Φ Y H)) (hk : ∀ z, Φ z → Y z = y ∧ H z = h') (hf : y.fresh = true ∧ h'.all HO.fresh = true) : Spec P f xs hp (Only y h') :=
  s.mono (fun y1 h1 ⟨z, hz, hy, hh⟩ => by obtain ⟨e1, e2⟩ := hk z hz; exact ⟨hy.trans e1, hh.trans e2⟩) (fun y1 h1 ⟨hy, hh⟩ => by subst hy; subst hh; exact hf)
end

/-! ### What is new is no longer said to be -/
theorem ExtN.refl (F : Fix) : ExtN F F := ⟨Nat.le_refl _, fun _ _ h => h, fun _ _ => rfl, fun _ _ => rfl⟩
def HO.relab : HO → HO
  | .arr b cs => .arr b (IV.relabL cs)
  | .box cs => .box (IV.relabL cs)
  | .dead => .dead
  | .mp es c => .mp es c
  | .it m a b c => .it m a b c
def relabHs : List HO → List HO
  | [] => []
  | o :: r => o.relab :: relabHs r
def relabE : List (Nat × IV) → List (Nat × IV)
  | [] => []
  | (i, v) :: r => (i, v.relab) :: relabE r
theorem relabHs_get : ∀ {h : List HO} {n : Nat}, (relabHs h)[n]? = (h[n]?).map HO.relab
  | [], _ => by simp [relabHs]
  | _ :: _, 0 => by simp [relabHs]
  | _ :: r, n + 1 => by simpa [relabHs] using relabHs_get (h := r) (n := n)
theorem relabHs_length : ∀ h : List HO, (relabHs h).length = h.length
  | [] => rfl
  | _ :: r => by simp [relabHs, relabHs_length r]
theorem lk_relab : ∀ (env : List (Nat × IV)) (i : Nat), lk (relabE env) i = (lk env i).relab
  | [], i => by simp [relabE, lk, IV.relab]
  | (j, v) :: r, i => by
    show lk ((j, v.relab) :: relabE r) i = (lk ((j, v) :: r) i).relab
    rw [lk_cons, lk_cons]
    by_cases h : j = i
    · rw [if_pos h, if_pos h]
    · rw [if_neg h, if_neg h]; exact lk_relab r i
theorem HIn.relab {F : Fix} {h : List HO} {w : World} (hi : HIn F h w) : HStep F F h (relabHs h) w w := by
  have hlive : ∀ m, live (relabHs h) m → live h m := by
    rintro m ⟨x, hx, hd⟩
    rw [relabHs_get] at hx
    obtain ⟨o, ho, rfl⟩ := Option.map_eq_some_iff.1 hx
    exact ⟨o, ho, fun e => hd (by rw [e]; rfl)⟩
  refine ⟨Ext.refl F, ⟨by rw [relabHs_length]; exact hi.N, hi.rd, fun m x hx => ?_, fun a b ha hb => hi.inj a b (hlive a ha) (hlive b hb), fun a ha => hi.dis a (hlive a ha)⟩, Fr.refl _ w, fun m hm hb => .inr ⟨m, hlive m hm, hb, rfl⟩, fun a v ha => .inl ha⟩
  rw [relabHs_get] at hx
  obtain ⟨o, ho, rfl⟩ := Option.map_eq_some_iff.1 hx
  have h1 := hi.obj m o ho
  cases o with
  | dead => trivial
  | arr b cs =>
    rcases h1 with ⟨h1, rfl⟩ | ⟨vs, ty, lo, hi', k1, k2, k3, k4, p, s, k5, k6⟩
    · exact .inl ⟨h1, rfl⟩
    · exact .inr ⟨vs, ty, lo, hi', k1, k2, k3, k4, p, s, k5, RL.relab (ExtN.refl _) k6⟩
  | box cs =>
    rcases h1 with ⟨h1, rfl⟩ | ⟨vs, ty, lo, hi', k1, k2, k3, p, s, k5, k6⟩
    · exact .inl ⟨h1, rfl⟩
    · exact .inr ⟨vs, ty, lo, hi', k1, k2, k3, p, s, k5, RL.relab (ExtN.refl _) k6⟩
  | mp es c => exact h1
  | it m a b c => exact h1
theorem Le.relab (k : Nat) (s : St) : Le k s ⟨s.nt, relabE s.env, relabHs s.h⟩ := by
  rintro cx a w ⟨F, hF⟩
  exact ⟨F, hF.defers, hF.size, hF.step.trans hF.step.hin.relab, fun i => by
    show R F (lk (relabE s.env) i) _
    rw [lk_relab]; exact (hF.env i).relab (ExtN.refl F), hF.base, hF.names, hF.n0⟩
theorem lR {k : Nat} {s t : St} (π : List Nat) (hn : nodupB π = true := by first | exact rfl | fail) (hr : rangeB k π = true := by first | exact rfl | fail) (hl : (π.all fun n => Nat.blt n (relabHs s.h).length) = true := by first | exact rfl | fail) (h1 : t.nt = s.nt := by first | exact rfl | fail) (h2 : EnvLe ⟨s.nt, relabE s.env, relabHs s.h⟩ (inv π) t.env := by (repeat' (first | exact trivial | refine And.intro ?_ ?_)) <;> (first | rfl | (simp (disch := first | omega | (simp only [List.length_append, List.length_cons, List.length_nil, List.length_set, List.length_map, List.length_replicate, List.length_take, List.length_drop]; omega)) only [go_sem, Int.reduceAdd, Int.reduceMul, Int.reduceSub, Int.reduceDiv, Int.reduceMod, Int.reduceNeg, Int.reduceLT, Int.reduceLE, Int.reduceEq, Nat.reduceAdd, Nat.reduceSub, Nat.reduceMul, Nat.reduceDiv, Nat.reduceMod, Nat.reduceLT, Nat.reduceLeDiff, Nat.reduceEqDiff, Int.reduceToNat, reduceIte] <;> rfl) | (simp (disch := first | omega | (simp only [List.length_append, List.length_cons, List.length_nil, List.length_set, List.length_map, List.length_replicate, List.length_take, List.length_drop]; omega)) only [go_sem, Int.reduceAdd, Int.reduceMul, Int.reduceSub, Int.reduceDiv, Int.reduceMod, Int.reduceNeg, Int.reduceLT, Int.reduceLE, Int.reduceEq, Nat.reduceAdd, Nat.reduceSub, Nat.reduceMul, Nat.reduceDiv, Nat.reduceMod, Nat.reduceLT, Nat.reduceLeDiff, Nat.reduceEqDiff, Int.reduceToNat, reduceIte]; done) | (refine congrArg (fun z => IV.sc (Value.int _ z)) ?_; (try dsimp only); omega) | (congr 1 <;> (try dsimp only) <;> omega) | (simp (disch := first | omega | (simp only [List.length_append, List.length_cons, List.length_nil, List.length_set, List.length_map, List.length_replicate, List.length_take, List.length_drop]; omega)) only [go_sem, Int.reduceAdd, Int.reduceMul, Int.reduceSub, Int.reduceDiv, Int.reduceMod, Int.reduceNeg, Int.reduceLT, Int.reduceLE, Int.reduceEq, Nat.reduceAdd, Nat.reduceSub, Nat.reduceMul, Nat.reduceDiv, Nat.reduceMod, Nat.reduceLT, Nat.reduceLeDiff, Nat.reduceEqDiff, Int.reduceToNat, reduceIte] <;> congr 1 <;> omega)))
    (h3 : pickH (inv π) (relabHs s.h) π = t.h := by (try simp (disch := first | omega | (simp only [List.length_append, List.length_cons, List.length_nil, List.length_set, List.length_map, List.length_replicate, List.length_take, List.length_drop]; omega)) only [go_sem, Int.reduceAdd, Int.reduceMul, Int.reduceSub, Int.reduceDiv, Int.reduceMod, Int.reduceNeg, Int.reduceLT, Int.reduceLE, Int.reduceEq, Nat.reduceAdd, Nat.reduceSub, Nat.reduceMul, Nat.reduceDiv, Nat.reduceMod, Nat.reduceLT, Nat.reduceLeDiff, Nat.reduceEqDiff, Int.reduceToNat, reduceIte]) <;> rfl) : Le k s t := (Le.relab k s).trans (Le.pick (s := ⟨s.nt, relabE s.env, relabHs s.h⟩) π hn hr hl h1 h2 h3)

/-! ### Records of several cells -/
/-- How a record lies in cells. -/
structure Rc (α : Type) where
  f : α → List IV
  w : Nat
  len : ∀ x, (f x).length = w
def fl {α : Type} (r : Rc α) (l : List α) : List IV := l.flatMap r.f
section
variable {α : Type} {r : Rc α} {l a b : List α} {i n : Nat} {x : α}
theorem fl_cons : fl r (x :: l) = r.f x ++ fl r l := rfl
theorem fl_length (r : Rc α) (l : List α) : (fl r l).length = l.length * r.w := by
  induction l with
  | nil => simp [fl]
  | cons x l ih => rw [fl_cons, List.length_append, ih, r.len, List.length_cons, Nat.add_mul, Nat.one_mul, Nat.add_comm]
theorem fl_app (r : Rc α) (a b : List α) : fl r a ++ fl r b = fl r (a ++ b) := by simp [fl]
theorem fl_drop (r : Rc α) : ∀ (l : List α) (n : Nat), (fl r l).drop (n * r.w) = fl r (l.drop n)
  | l, 0 => by simp
  | [], n + 1 => by simp [fl]
  | x :: l, n + 1 => by
    rw [fl_cons, List.drop_succ_cons, Nat.add_mul, Nat.one_mul, Nat.add_comm, ← List.drop_drop]
    rw [List.drop_left' (r.len x)]
    exact fl_drop r l n
theorem fl_take (r : Rc α) : ∀ (l : List α) (n : Nat), (fl r l).take (n * r.w) = fl r (l.take n)
  | l, 0 => by simp [fl]
  | [], n + 1 => by simp [fl]
  | x :: l, n + 1 => by
    rw [fl_cons, List.take_succ_cons, fl_cons, Nat.add_mul, Nat.one_mul, Nat.add_comm, List.take_append, r.len, Nat.add_sub_cancel_left, fl_take r l n, List.take_of_length_le (by rw [r.len]; omega)]
theorem fl_part (r : Rc α) [Inhabited α] (h : i < l.length) : ((fl r l).drop (i * r.w)).take r.w = r.f (l.getD i default) := by
  rw [fl_drop, List.drop_eq_getElem_cons h, fl_cons, List.take_left' (r.len _), List.getD_eq_getElem?_getD, List.getElem?_eq_getElem h]; rfl
theorem fl_get (r : Rc α) [Inhabited α] {j : Nat} (h : i < l.length) (hj : j < r.w) : (fl r l).getD (i * r.w + j) .any = (r.f (l.getD i default)).getD j .any := by
  rw [← fl_part r h, List.getD_eq_getElem?_getD, List.getD_eq_getElem?_getD, List.getElem?_take, if_pos hj, List.getElem?_drop]
theorem fl_splice (r : Rc α) (h : i < l.length) (x : α) : splice (fl r l) (i * r.w) (r.f x) = fl r (l.set i x) := by
  unfold splice
  have e : i * r.w + (r.f x).length = (i + 1) * r.w := by rw [r.len, Nat.add_mul, Nat.one_mul]
  rw [e, fl_take, fl_drop, List.set_eq_take_append_cons_drop, if_pos h, ← fl_app, fl_cons]
theorem fl_set (r : Rc α) [Inhabited α] (h : i < l.length) {j : Nat} (hj : j < r.w) (v : IV) (x : α) (hx : (r.f (l.getD i default)).set j v = r.f x) : (fl r l).set (i * r.w + j) v = fl r (l.set i x) := by
  rw [← fl_splice r h x, ← hx]
  have hl := fl_length r l
  have hle : (i + 1) * r.w ≤ l.length * r.w := Nat.mul_le_mul_right _ h
  rw [Nat.add_mul, Nat.one_mul] at hle
  have e : (fl r l).take (i * r.w) ++ ((r.f (l.getD i default)) ++ (fl r l).drop (i * r.w + r.w)) = fl r l := by
    rw [← fl_part r h, ← List.drop_drop, List.take_append_drop, List.take_append_drop]
  unfold splice
  rw [List.length_set, r.len]
  conv => lhs; rw [← e]
  rw [List.set_append_right _ _ (by rw [List.length_take, hl]; omega), List.length_take, hl, show i * r.w + j - min (i * r.w) (l.length * r.w) = j by omega, List.set_append_left _ _ (by rw [r.len]; omega)]
theorem fl_zeros (r : Rc α) (x : α) (n : Nat) (h : 1 < r.w) : zrep n (r.f x) = fl r (List.replicate n x) := by
  have hw := r.len x
  have : zrep n (r.f x) = (List.replicate n (r.f x)).flatten := by
    match hf : r.f x with
    | [] => rfl
    | [z] => rw [hf] at hw; simp at hw; omega
    | _ :: _ :: _ => rfl
  rw [this]
  simp [fl, List.flatMap, List.map_replicate]
theorem fl_closed (r : Rc α) (h : ∀ x, IV.closedL (r.f x) = true) (l : List α) : IV.closedL (fl r l) = true := by
  induction l with
  | nil => rfl
  | cons x l ih => rw [fl_cons]; exact closedL_append (h x) ih
theorem fl_ones (r : Rc α) (h : ∀ x, IV.ones (r.f x) = true) (l : List α) : IV.ones (fl r l) = true := by
  induction l with
  | nil => rfl
  | cons x l ih => rw [fl_cons, ones_append, h, ih]; rfl
theorem freshL_app : ∀ {a b : List IV}, IV.freshL a = true → IV.freshL b = true → IV.freshL (a ++ b) = true
  | [], _, _, h => h
  | c :: a, b, h1, h2 => by
    simp only [IV.freshL, Bool.and_eq_true] at h1
    simp only [List.cons_append, IV.freshL, Bool.and_eq_true]
    exact ⟨h1.1, freshL_app h1.2 h2⟩
theorem relabL_app : ∀ (a b : List IV), IV.relabL (a ++ b) = IV.relabL a ++ IV.relabL b
  | [], b => rfl
  | c :: a, b => by simp [IV.relabL, relabL_app a b]
theorem renL_app (σ : Nat → Option Nat) : ∀ (a b : List IV), IV.renL σ (a ++ b) = IV.renL σ a ++ IV.renL σ b
  | [], b => rfl
  | c :: a, b => by simp [IV.renL, renL_app σ a b]
theorem fl_fresh (r : Rc α) (h : ∀ x, IV.freshL (r.f x) = true) (l : List α) : IV.freshL (fl r l) = true := by
  induction l with
  | nil => rfl
  | cons x l ih => rw [fl_cons]; exact freshL_app (h x) ih
theorem fl_relab (r : Rc α) (h : ∀ x, IV.relabL (r.f x) = r.f x) (l : List α) : IV.relabL (fl r l) = fl r l := by
  induction l with
  | nil => rfl
  | cons x l ih => rw [fl_cons, relabL_app, h, ih]
theorem fl_ren (r : Rc α) {σ : Nat → Option Nat} (h : ∀ x, IV.renL σ (r.f x) = r.f x) (l : List α) : IV.renL σ (fl r l) = fl r l := by
  induction l with
  | nil => rfl
  | cons x l ih => rw [fl_cons, renL_app, h, ih]
end
end Go.Idl
