/-
  Ideal states: a call whose answer may hold memory that its arguments held: the rules as they are used.
-/
import Derived.Test.YtmgcoopmbohkoaaIdlAl
namespace Go.Idl
open Go
set_option linter.unusedVariables false
def frcXs : List IV → Option (List IV)
  | [] => some []
  | c :: r => match frc c, frcXs r with | some c', some r' => some (c' :: r') | _, _ => none
theorem frcXs_eq : ∀ {x y : List IV}, frcXs x = some y → x = y
  | [], _, h => by cases h; rfl
  | c :: r, z, h => by
    simp only [frcXs] at h
    split at h
    · rename_i h1 h2; cases h; rw [frc_eq h1, frcXs_eq h2]
    · cases h
def frcHA : List HO → Option (List HO)
  | [] => some []
  | .arr b cs :: r => match frcB b, frcHA r with | some b', some r' => some (.arr b' cs :: r') | _, _ => none
  | .box cs :: r => match frcXs cs, frcHA r with | some cs', some r' => some (.box cs' :: r') | _, _ => none
  | .dead :: r => match frcHA r with | some r' => some (.dead :: r') | none => none
  | .mp es c :: r => match frcHA r with | some r' => some (.mp es c :: r') | none => none
  | .it m a b c :: r => match frcHA r with | some r' => some (.it m a b c :: r') | none => none
theorem frcHA_eq : ∀ {x y : List HO}, frcHA x = some y → x = y
  | [], _, h => by cases h; rfl
  | o :: r, y, h => by
    cases o
    · simp only [frcHA] at h
      split at h
      · rename_i h1 h2; cases h; rw [frcB_eq h1, frcHA_eq h2]
      · cases h
    · simp only [frcHA] at h
      split at h
      · rename_i h1 h2; cases h; rw [frcXs_eq h1, frcHA_eq h2]
      · cases h
    · simp only [frcHA] at h
      split at h
      · rename_i h2; cases h; rw [frcHA_eq h2]
      · cases h
    · simp only [frcHA] at h
      split at h
      · rename_i h2; cases h; rw [frcHA_eq h2]
      · cases h
    · simp only [frcHA] at h
      split at h
      · rename_i h2; cases h; rw [frcHA_eq h2]
      · cases h
section
variable {P : Program} {T : TT} {k : Nat} {ops : Array Oper} {rest : List Oper} {K : St → Prop} {nt d ty : Nat} {env : List (Nat × IV)} {h h' h0 : List HO} {op : Op} {pos : String} {after : Array Edge} {g : Option (Nat × Bool)} {ps : List Prop} {y y0 : IV}
  {opl : List Oper} {vs : List IV} {Hs : List (List HO)} {hl : List Nat} {s : St} {i q : Nat} {o : Oper} {Q : Exit → St → Prop} {c : Operand} {x z : Code}
theorem oA (π : List Nat) {f : FuncId} {as : List IV} {xs xs0 : List IV} {hh hh0 : List HO} {Y : IV} {H : List HO}
    (hr : runsB ops ⟨some d, op, ty, pos, after, g⟩ ⟨nt, env, h⟩ = some true := by first | exact rfl | fail) (hc : icall ⟨nt, env, h⟩ op = some (f, as) := by first | exact rfl | fail)
    (ha : frcXs (IV.renL (inv π) (IV.relabL as)) = some xs0 := by first | exact rfl | fail) (hv : frcHA (vaH h (inv π) π) = some hh0 := by first | exact rfl | fail) (ha1 : xs0 = xs := by (try simp (disch := first | omega | (simp only [List.length_append, List.length_cons, List.length_nil, List.length_set, List.length_map, List.length_replicate, List.length_take, List.length_drop]; omega)) only [go_sem, Int.reduceAdd, Int.reduceMul, Int.reduceSub, Int.reduceDiv, Int.reduceMod, Int.reduceNeg, Int.reduceLT, Int.reduceLE, Int.reduceEq, Nat.reduceAdd, Nat.reduceSub, Nat.reduceMul, Nat.reduceDiv, Nat.reduceMod, Nat.reduceLT, Nat.reduceLeDiff, Nat.reduceEqDiff, Int.reduceToNat, reduceIte]) <;> rfl) (hv1 : hh0 = hh := by (try simp (disch := first | omega | (simp only [List.length_append, List.length_cons, List.length_nil, List.length_set, List.length_map, List.length_replicate, List.length_take, List.length_drop]; omega)) only [go_sem, Int.reduceAdd, Int.reduceMul, Int.reduceSub, Int.reduceDiv, Int.reduceMod, Int.reduceNeg, Int.reduceLT, Int.reduceLE, Int.reduceEq, Nat.reduceAdd, Nat.reduceSub, Nat.reduceMul, Nat.reduceDiv, Nat.reduceMod, Nat.reduceLT, Nat.reduceLeDiff, Nat.reduceEqDiff, Int.reduceToNat, reduceIte]) <;> rfl) (hs : SpecA P f xs hh (Only Y H))
    (hy : frc (Y.ren (callee h π)) = some y0 := by first | exact rfl | fail) (hm : frcHA (mergeH h π H) = some h0 := by first | exact rfl | fail) (hy1 : y0 = y := by (try simp (disch := first | omega | (simp only [List.length_append, List.length_cons, List.length_nil, List.length_set, List.length_map, List.length_replicate, List.length_take, List.length_drop]; omega)) only [go_sem, Int.reduceAdd, Int.reduceMul, Int.reduceSub, Int.reduceDiv, Int.reduceMod, Int.reduceNeg, Int.reduceLT, Int.reduceLE, Int.reduceEq, Nat.reduceAdd, Nat.reduceSub, Nat.reduceMul, Nat.reduceDiv, Nat.reduceMod, Nat.reduceLT, Nat.reduceLeDiff, Nat.reduceEqDiff, Int.reduceToNat, reduceIte]) <;> rfl) (hy2 : h0 = h' := by (try simp (disch := first | omega | (simp only [List.length_append, List.length_cons, List.length_nil, List.length_set, List.length_map, List.length_replicate, List.length_take, List.length_drop]; omega)) only [go_sem, Int.reduceAdd, Int.reduceMul, Int.reduceSub, Int.reduceDiv, Int.reduceMod, Int.reduceNeg, Int.reduceLT, Int.reduceLE, Int.reduceEq, Nat.reduceAdd, Nat.reduceSub, Nat.reduceMul, Nat.reduceDiv, Nat.reduceMod, Nat.reduceLT, Nat.reduceLeDiff, Nat.reduceEqDiff, Int.reduceToNat, reduceIte]) <;> rfl) (hn : nodupB π = true := by first | exact rfl | fail) (hl : π.all (liveM h) = true := by first | exact rfl | fail) (hd : Nat.blt d nt = true := by first | exact rfl | fail)
    (hx : IOps P k ops rest K ⟨nt, (d, y) :: env, h'⟩) : IOps P k ops (⟨some d, op, ty, pos, after, g⟩ :: rest) K ⟨nt, env, h⟩ := by
  have e1 := frcXs_eq ha; have e2 := frcHA_eq hv; have e3 := frc_eq hy; have e4 := frcHA_eq hm
  subst ha1; subst hv1; subst hy1; subst hy2
  refine IOps_callAK (s := ⟨nt, env, h⟩) hr hc π hn hl (by rw [e1, e2]; exact hs) hd fun Y' H' hk => ?_
  obtain ⟨rfl, rfl⟩ := hk
  rw [← e3, ← e4] at hx
  exact hx
theorem oA0 (π : List Nat) {f : FuncId} {as : List IV} {xs xs0 : List IV} {hh hh0 : List HO} {Y : IV} {H : List HO}
    (hr : runsB ops ⟨none, op, ty, pos, after, g⟩ ⟨nt, env, h⟩ = some true := by first | exact rfl | fail) (hc : icall ⟨nt, env, h⟩ op = some (f, as) := by first | exact rfl | fail)
    (ha : frcXs (IV.renL (inv π) (IV.relabL as)) = some xs0 := by first | exact rfl | fail) (hv : frcHA (vaH h (inv π) π) = some hh0 := by first | exact rfl | fail) (ha1 : xs0 = xs := by (try simp (disch := first | omega | (simp only [List.length_append, List.length_cons, List.length_nil, List.length_set, List.length_map, List.length_replicate, List.length_take, List.length_drop]; omega)) only [go_sem, Int.reduceAdd, Int.reduceMul, Int.reduceSub, Int.reduceDiv, Int.reduceMod, Int.reduceNeg, Int.reduceLT, Int.reduceLE, Int.reduceEq, Nat.reduceAdd, Nat.reduceSub, Nat.reduceMul, Nat.reduceDiv, Nat.reduceMod, Nat.reduceLT, Nat.reduceLeDiff, Nat.reduceEqDiff, Int.reduceToNat, reduceIte]) <;> rfl) (hv1 : hh0 = hh := by (try simp (disch := first | omega | (simp only [List.length_append, List.length_cons, List.length_nil, List.length_set, List.length_map, List.length_replicate, List.length_take, List.length_drop]; omega)) only [go_sem, Int.reduceAdd, Int.reduceMul, Int.reduceSub, Int.reduceDiv, Int.reduceMod, Int.reduceNeg, Int.reduceLT, Int.reduceLE, Int.reduceEq, Nat.reduceAdd, Nat.reduceSub, Nat.reduceMul, Nat.reduceDiv, Nat.reduceMod, Nat.reduceLT, Nat.reduceLeDiff, Nat.reduceEqDiff, Int.reduceToNat, reduceIte]) <;> rfl) (hs : SpecA P f xs hh (Only Y H))
    (hm : frcHA (mergeH h π H) = some h0 := by first | exact rfl | fail) (hy2 : h0 = h' := by (try simp (disch := first | omega | (simp only [List.length_append, List.length_cons, List.length_nil, List.length_set, List.length_map, List.length_replicate, List.length_take, List.length_drop]; omega)) only [go_sem, Int.reduceAdd, Int.reduceMul, Int.reduceSub, Int.reduceDiv, Int.reduceMod, Int.reduceNeg, Int.reduceLT, Int.reduceLE, Int.reduceEq, Nat.reduceAdd, Nat.reduceSub, Nat.reduceMul, Nat.reduceDiv, Nat.reduceMod, Nat.reduceLT, Nat.reduceLeDiff, Nat.reduceEqDiff, Int.reduceToNat, reduceIte]) <;> rfl) (hn : nodupB π = true := by first | exact rfl | fail) (hl : π.all (liveM h) = true := by first | exact rfl | fail)
    (hx : IOps P k ops rest K ⟨nt, env, h'⟩) : IOps P k ops (⟨none, op, ty, pos, after, g⟩ :: rest) K ⟨nt, env, h⟩ := by
  have e1 := frcXs_eq ha; have e2 := frcHA_eq hv; have e4 := frcHA_eq hm
  subst ha1; subst hv1; subst hy2
  refine IOps_callAK (s := ⟨nt, env, h⟩) hr hc π hn hl (by rw [e1, e2]; exact hs) rfl fun Y' H' hk => ?_
  obtain ⟨rfl, rfl⟩ := hk
  rw [← e4] at hx
  exact hx
theorem sA {f : FuncId} {fn : Func} {cd : Code} {xs : List IV} {Y : IV} {H : List HO} (hf : P.funcs[f]? = some fn) (hnt : fn.ntmps = nt) (hw : IWP P h.length cd (Post T fn h.length fun y h' => Only Y H y.relab (relabHs h')) ⟨nt, initEnv 0 xs, h⟩)
    (hT : TOk P T := by first | exact tok | fail) (hb : fn.body = some cd := by first | exact rfl | fail) (hname : (fn.name == "runtime.NumGoroutine") = false := by kernel_rfl) (hlen : Nat.ble xs.length nt = true := by first | exact rfl | fail) : SpecA P f xs h (Only Y H) := SpecA.of_body hT hf hb hnt hname hlen hw
theorem pA {fn : Func} {Y : IV} {H : List HO} {e : Exit} (π : List Nat) {ys : List IV} {y0 : IV} {H0 : List HO}
    (he : e = .normal ∨ e = .ret := by first | exact .inr rfl | exact .inl rfl) (h1 : iresults T s fn.results.toList = some (ps, ys) := by first | exact rfl | fail) (h2 : AllP ps := by (try simp only [AllP, List.append_nil, List.cons_append, List.nil_append]) <;> (repeat' (first | exact trivial | refine And.intro ?_ ?_)) <;> (first | rfl | exact Nat.le_of_ble_eq_true rfl | exact ones_map _ (fun _ => rfl) | exact closedL_mapf _ (fun _ => rfl) | omega | (simp (disch := first | omega | (simp only [List.length_append, List.length_cons, List.length_nil, List.length_set, List.length_map, List.length_replicate, List.length_take, List.length_drop]; omega)) only [go_sem, Int.reduceAdd, Int.reduceMul, Int.reduceSub, Int.reduceDiv, Int.reduceMod, Int.reduceNeg, Int.reduceLT, Int.reduceLE, Int.reduceEq, Nat.reduceAdd, Nat.reduceSub, Nat.reduceMul, Nat.reduceDiv, Nat.reduceMod, Nat.reduceLT, Nat.reduceLeDiff, Nat.reduceEqDiff, Int.reduceToNat, reduceIte]; done) | (simp (disch := first | omega | (simp only [List.length_append, List.length_cons, List.length_nil, List.length_set, List.length_map, List.length_replicate, List.length_take, List.length_drop]; omega)) only [go_sem, Int.reduceAdd, Int.reduceMul, Int.reduceSub, Int.reduceDiv, Int.reduceMod, Int.reduceNeg, Int.reduceLT, Int.reduceLE, Int.reduceEq, Nat.reduceAdd, Nat.reduceSub, Nat.reduceMul, Nat.reduceDiv, Nat.reduceMod, Nat.reduceLT, Nat.reduceLeDiff, Nat.reduceEqDiff, Int.reduceToNat, reduceIte] <;> omega) | (show IV.closedL _ = true; (simp (disch := first | omega | (simp only [List.length_append, List.length_cons, List.length_nil, List.length_set, List.length_map, List.length_replicate, List.length_take, List.length_drop]; omega)) only [go_sem, Int.reduceAdd, Int.reduceMul, Int.reduceSub, Int.reduceDiv, Int.reduceMod, Int.reduceNeg, Int.reduceLT, Int.reduceLE, Int.reduceEq, Nat.reduceAdd, Nat.reduceSub, Nat.reduceMul, Nat.reduceDiv, Nat.reduceMod, Nat.reduceLT, Nat.reduceLeDiff, Nat.reduceEqDiff, Int.reduceToNat, reduceIte]; done)) | exact EqOk.of (by kernel_rfl))) (h3 : nodupB π = true := by first | exact rfl | fail)
    (h4 : rangeB k π = true := by first | exact rfl | fail) (h5 : (π.all fun n => Nat.blt n s.h.length) = true := by first | exact rfl | fail) (hy : frc ((oneOf ys).ren (inv π)).relab = some y0 := by first | exact rfl | fail) (hh : frcHA (relabHs (pickH (inv π) s.h π)) = some H0 := by first | exact rfl | fail) (hY : y0 = Y := by (try simp (disch := first | omega | (simp only [List.length_append, List.length_cons, List.length_nil, List.length_set, List.length_map, List.length_replicate, List.length_take, List.length_drop]; omega)) only [go_sem, Int.reduceAdd, Int.reduceMul, Int.reduceSub, Int.reduceDiv, Int.reduceMod, Int.reduceNeg, Int.reduceLT, Int.reduceLE, Int.reduceEq, Nat.reduceAdd, Nat.reduceSub, Nat.reduceMul, Nat.reduceDiv, Nat.reduceMod, Nat.reduceLT, Nat.reduceLeDiff, Nat.reduceEqDiff, Int.reduceToNat, reduceIte]) <;> rfl) (hH : H0 = H := by (try simp (disch := first | omega | (simp only [List.length_append, List.length_cons, List.length_nil, List.length_set, List.length_map, List.length_replicate, List.length_take, List.length_drop]; omega)) only [go_sem, Int.reduceAdd, Int.reduceMul, Int.reduceSub, Int.reduceDiv, Int.reduceMod, Int.reduceNeg, Int.reduceLT, Int.reduceLE, Int.reduceEq, Nat.reduceAdd, Nat.reduceSub, Nat.reduceMul, Nat.reduceDiv, Nat.reduceMod, Nat.reduceLT, Nat.reduceLeDiff, Nat.reduceEqDiff, Int.reduceToNat, reduceIte]) <;> rfl) : Post T fn k (fun y h' => Only Y H y.relab (relabHs h')) e s :=
  Post_intro he π h1 h2 h3 h4 h5 ⟨(frc_eq hy).trans hY, (frcHA_eq hh).trans hH⟩
section
variable {α : Type} {Φ : α → Prop} {Y yy yy0 : α → IV} {H hx' hx0 : α → List HO}
end
end
theorem lS {k : Nat} {s t : St} {H0 : List HO} (π : List Nat) (hn : nodupB π = true := by first | exact rfl | fail) (hr : rangeB k π = true := by first | exact rfl | fail) (hl : (π.all fun n => Nat.blt n (relabHs s.h).length) = true := by first | exact rfl | fail) (h1 : t.nt = s.nt := by first | exact rfl | fail) (h2 : EnvLe ⟨s.nt, relabE s.env, relabHs s.h⟩ (inv π) t.env := by (repeat' (first | exact trivial | refine And.intro ?_ ?_)) <;> (first | rfl | (refine (frc_eq (by exact rfl)).trans ?_ <;> first | rfl | (simp (disch := first | omega | (simp only [List.length_append, List.length_cons, List.length_nil, List.length_set, List.length_map, List.length_replicate, List.length_take, List.length_drop]; omega)) only [go_sem, Int.reduceAdd, Int.reduceMul, Int.reduceSub, Int.reduceDiv, Int.reduceMod, Int.reduceNeg, Int.reduceLT, Int.reduceLE, Int.reduceEq, Nat.reduceAdd, Nat.reduceSub, Nat.reduceMul, Nat.reduceDiv, Nat.reduceMod, Nat.reduceLT, Nat.reduceLeDiff, Nat.reduceEqDiff, Int.reduceToNat, reduceIte]; done) | (simp (disch := first | omega | (simp only [List.length_append, List.length_cons, List.length_nil, List.length_set, List.length_map, List.length_replicate, List.length_take, List.length_drop]; omega)) only [go_sem, Int.reduceAdd, Int.reduceMul, Int.reduceSub, Int.reduceDiv, Int.reduceMod, Int.reduceNeg, Int.reduceLT, Int.reduceLE, Int.reduceEq, Nat.reduceAdd, Nat.reduceSub, Nat.reduceMul, Nat.reduceDiv, Nat.reduceMod, Nat.reduceLT, Nat.reduceLeDiff, Nat.reduceEqDiff, Int.reduceToNat, reduceIte] <;> rfl) | (refine congrArg (fun z => IV.sc (Value.int _ z)) ?_; (try dsimp only); omega) | (simp (disch := first | omega | (simp only [List.length_append, List.length_cons, List.length_nil, List.length_set, List.length_map, List.length_replicate, List.length_take, List.length_drop]; omega)) only [go_sem, Int.reduceAdd, Int.reduceMul, Int.reduceSub, Int.reduceDiv, Int.reduceMod, Int.reduceNeg, Int.reduceLT, Int.reduceLE, Int.reduceEq, Nat.reduceAdd, Nat.reduceSub, Nat.reduceMul, Nat.reduceDiv, Nat.reduceMod, Nat.reduceLT, Nat.reduceLeDiff, Nat.reduceEqDiff, Int.reduceToNat, reduceIte] <;> congr 1 <;> omega))))
    (hh : frcHA (pickH (inv π) (relabHs s.h) π) = some H0 := by first | exact rfl | fail) (h3 : H0 = t.h := by (try simp (disch := first | omega | (simp only [List.length_append, List.length_cons, List.length_nil, List.length_set, List.length_map, List.length_replicate, List.length_take, List.length_drop]; omega)) only [go_sem, Int.reduceAdd, Int.reduceMul, Int.reduceSub, Int.reduceDiv, Int.reduceMod, Int.reduceNeg, Int.reduceLT, Int.reduceLE, Int.reduceEq, Nat.reduceAdd, Nat.reduceSub, Nat.reduceMul, Nat.reduceDiv, Nat.reduceMod, Nat.reduceLT, Nat.reduceLeDiff, Nat.reduceEqDiff, Int.reduceToNat, reduceIte]) <;> rfl) : Le k s t := lR π hn hr hl h1 h2 ((frcHA_eq hh).trans h3)
theorem Spec.only {P : Program} {f : FuncId} {xs : List IV} {h : List HO} {Y : IV} {H : List HO} (s : Spec P f xs h (Only Y H)) : SpecA P f xs h (Only Y H) := s.al
end Go.Idl
