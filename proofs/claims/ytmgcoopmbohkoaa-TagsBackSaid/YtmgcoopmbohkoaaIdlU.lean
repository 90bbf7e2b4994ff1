/-
  Ideal states: one operation of a region, guarded or not; a call in a region; a function's body; nil slices, and blocks that freeze.
-/
import Derived.Test.YtmgcoopmbohkoaaIdlT
namespace Go.Idl
open Go

def OpG (P : Program) (ops : Array Oper) (o : Oper) (s : St) (y : IV) (h' : List HO) : Prop :=
  ∀ (a : Act) (w : World) (F : Fix), F.base ≤ w.heap.size → HIn F s.h w → (∀ i, R F (lk s.env i) (a.tmps.getD i undef)) → a.tmps.size = s.nt →
    ∀ (K : Act → World → Prop) (Q : Exit → Act → World → Prop), (∀ v G w', HStep F G s.h h' w w' → R G y v → K (a.put o.dst v) w') →
      if Region.wanted o (yielded ops a.tmps) then o.wp P a w K Q else K (a.put o.dst undef) w

theorem evOf {s : St} {a : Act} {F : Fix} (h : ∀ i, R F (lk s.env i) (a.tmps.getD i undef)) (x : Operand) : R F (s.ev x) (a.eval x) := by
  cases x with
  | tmp t => exact h t
  | const v => exact R.ofV v
  | global g => exact .any _
  | func f => exact .fn .nil .nil

section
variable {P : Program} {T : TT} {k : Nat} {s : St} {ops : Array Oper} {rest : List Oper} {o : Oper} {K : St → Prop}

theorem exec_wp (hT : TOk P T) {ps : List Prop} {y : IV} {h' : List HO} (e : iexec P T s o.op = some (ps, y, h')) (hp : AllP ps) {a : Act} {w : World} {F : Fix} (hb : F.base ≤ w.heap.size) (hi : HIn F s.h w)
    (he : ∀ i, R F (lk s.env i) (a.tmps.getD i undef)) {K : Act → World → Prop} {Q : Exit → Act → World → Prop} (hK : ∀ v G w', HStep F G s.h h' w w' → R G y v → K (a.put o.dst v) w') : o.wp P a w K Q := by
  obtain ⟨nx, v', G, w', h1, h2, h3, h4⟩ := iexec_sound (P := P) hT hi hb (evOf he) e hp
  unfold Oper.wp
  rw [h1]
  rcases h2 with rfl | ⟨rfl, rfl⟩
  · exact hK _ _ _ h3 h4
  · exact hK _ _ _ h3 h4

theorem wanted_of' {d : Nat} {b : Bool} (hg : gslot ops o = some (d, b)) {a : Act} {F : Fix} (he : ∀ i, R F (lk s.env i) (a.tmps.getD i undef)) (hz : a.tmps.size = s.nt) (hd : Nat.blt d s.nt = true) :
    (∀ c, lk s.env d = .sc (.bool c) → Region.wanted o (yielded ops a.tmps) = (c == b)) ∧ (lk s.env d = .sc undef → Region.wanted o (yielded ops a.tmps) = false) := by
  unfold gslot at hg
  split at hg
  case h_2 => cases hg
  rename_i j b' hgd
  split at hg
  case h_2 => cases hg
  rename_i d' hdst
  cases hg
  have hlt : d < a.tmps.size := by rw [hz]; exact Nat.blt_eq.mp hd
  have henv := he d
  have hget : a.tmps[d]? = some (a.tmps.getD d undef) := by simp [hlt]
  refine ⟨fun c hc => ?_, fun hc => ?_⟩
  · rw [hc] at henv
    generalize a.tmps.getD d undef = v at henv hget
    cases henv
    simp [Region.wanted, hgd, yielded, hdst, hget]
  · rw [hc] at henv
    generalize a.tmps.getD d undef = v at henv hget
    cases henv
    simp [Region.wanted, hgd, yielded, hdst, hget, undef]

def runsB (ops : Array Oper) (o : Oper) (s : St) : Option Bool :=
  match o.guard with
  | none => some true
  | some _ =>
    match gslot ops o with
    | some (d, b) =>
      if Nat.blt d s.nt then
        match lk s.env d with
        | .sc (.bool true) => some b
        | .sc (.bool false) => some (!b)
        | .sc (.tuple ⟨[]⟩) => some false
        | _ => none
      else none
    | none => none

theorem runs_wanted {r : Bool} (h : runsB ops o s = some r) {a : Act} {F : Fix} (he : ∀ i, R F (lk s.env i) (a.tmps.getD i undef)) (hz : a.tmps.size = s.nt) : Region.wanted o (yielded ops a.tmps) = r := by
  unfold runsB at h
  split at h
  · rename_i hg; cases h; simp [Region.wanted, hg]
  · split at h
    case h_2 => cases h
    rename_i d b hg
    split at h
    case isFalse => cases h
    rename_i hlt
    obtain ⟨k1, k2⟩ := wanted_of' hg he hz hlt
    split at h
    · rename_i hl; cases h; rw [k1 _ hl]; simp
    · rename_i hl; cases h; rw [k1 _ hl]; cases b <;> rfl
    · rename_i hl; cases h; exact k2 hl
    · cases h

theorem OpG_exec (hT : TOk P T) (hr : runsB ops o s = some true) {ps : List Prop} {y : IV} {h' : List HO} (e : iexec P T s o.op = some (ps, y, h')) (hp : AllP ps) : OpG P ops o s y h' := by
  intro a w F hb hi he hz K Q hK
  rw [if_pos (runs_wanted hr he hz)]
  exact exec_wp hT e hp hb hi he hK

theorem OpG_skip (hr : runsB ops o s = some false) : OpG P ops o s (.sc undef) s.h := by
  intro a w F hb hi he hz K Q hK
  rw [if_neg (by rw [runs_wanted hr he hz]; simp)]
  exact hK _ _ _ (HStep.refl hi) (.sc _)

theorem call_wp {c : Call} {fo : Operand} (hop : o.op = .call c) (hcal : c.callee = .value fo) {f : FuncId} {first captured : List IV} (hev : s.ev fo = .fn (.func f) first captured) (π : List Nat) (hn : nodupB π = true)
    (hl : π.all (liveB s.h) = true) {xs : List IV} {h : List HO} {K' : IV → List HO → Prop} {pa ph : List Prop} (ha : vwL s.h π (first ++ c.args.toList.map s.ev ++ captured) = some (pa, xs)) (hpa : AllP pa)
    (hh : vwHs s.h π π = some (ph, h)) (hph : AllP ph) (hs : Spec P f xs h K') {a : Act} {w : World} {F : Fix} (hb : F.base ≤ w.heap.size) (hi : HIn F s.h w) (he : ∀ i, R F (lk s.env i) (a.tmps.getD i undef))
    {K : Act → World → Prop} {Q : Exit → Act → World → Prop} (hK : ∀ y h', K' y h' → ∀ v G w', HStep F G s.h (mergeH s.h π h') w w' → R G (y.ren (callee s.h π)) v → K (a.put o.dst v) w') : o.wp P a w K Q := by
  have hn' := nodupB_spec hn
  have hl' : ∀ n ∈ π, live s.h n := fun n hm => liveB_spec (List.all_eq_true.1 hl n hm)
  have hfn := evOf he fo
  rw [hev] at hfn
  generalize hv : a.eval fo = vf at hfn
  cases hfn with
  | fn h1 h2 =>
  rename_i fs cs
  have hargs : RL F (first ++ c.args.toList.map s.ev ++ captured) (fs ++ c.args.toList.map a.eval ++ cs) := (h1.append (RLmap (evOf he) c.args.toList)).append h2
  have hsm := Fix.small_ok hi hl'
  have hrl := vwL_sound hsm hargs ha hpa
  have hin := Fix.small_hin hi hn' hh hph hl'
  have hrun : (execOp a.eval o).run P w = .ok (.enter f ⟨fs ++ c.args.toList.map a.eval ++ cs⟩) w := by
    obtain ⟨dst, op, type, pos, after, guard⟩ := o
    simp only at hop
    subst hop
    obtain ⟨cal, args, types⟩ := c
    simp only at hcal
    subst hcal
    have e1 : (⟨fs⟩ : Array Value) ++ args.map a.eval ++ ⟨cs⟩ = ⟨fs ++ args.toList.map a.eval ++ cs⟩ := by apply Array.ext'; simp
    simp only [execOp, resolve, hv, Deferred.ofValue, pure_bind, invoke, e1]
    exact hs.call _ w
  refine wp_call_enter hrun (hs.runs (F.small π w) w _ (Nat.le_refl _) hin hrl) fun e w' hR => ?_
  obtain ⟨v, G, y, h', rfl, hKK, st, hr⟩ := hR
  obtain ⟨f1, f2⟩ := hs.fresh y h' hKK
  obtain ⟨q1, q2⟩ := call_step hi hb hn' hl' (vwHs_length hh) st f2
  exact ⟨v, rfl, hK y h' hKK v _ w' q1 ((hr.news f1).ren q2)⟩

def icall (s : St) (op : Op) : Option (FuncId × List IV) :=
  match op with
  | .call { callee := .value fo, args := args, .. } =>
    match s.ev fo with
    | .fn (.func f) first captured => some (f, first ++ args.toList.map s.ev ++ captured)
    | _ => none
  | _ => none

theorem icall_spec {op : Op} {f : FuncId} {as : List IV} (h : icall s op = some (f, as)) : ∃ c fo first captured, op = .call c ∧ c.callee = .value fo ∧ s.ev fo = .fn (.func f) first captured ∧ as = first ++ c.args.toList.map s.ev ++ captured := by
  unfold icall at h
  split at h
  · rename_i fo args types
    split at h
    · rename_i f' first captured hev
      cases h
      exact ⟨_, fo, first, captured, rfl, rfl, hev, rfl⟩
    · cases h
  · cases h

def Only (Y : IV) (H : List HO) : IV → List HO → Prop := fun y h => y = Y ∧ h = H

theorem OpG_call (hr : runsB ops o s = some true) {f : FuncId} {as : List IV} (hc : icall s o.op = some (f, as)) (π : List Nat) (hn : nodupB π = true) (hl : π.all (liveB s.h) = true)
    {xs : List IV} {h : List HO} {pa ph : List Prop} (ha : vwL s.h π as = some (pa, xs)) (hpa : AllP pa) (hh : vwHs s.h π π = some (ph, h)) (hph : AllP ph) {Y : IV} {H : List HO} (hs : Spec P f xs h (Only Y H)) :
    OpG P ops o s (Y.ren (callee s.h π)) (mergeH s.h π H) := by
  obtain ⟨c, fo, first, captured, h1, h2, h3, rfl⟩ := icall_spec hc
  intro a w F hb hi he hz K Q hK
  rw [if_pos (runs_wanted hr he hz)]
  refine call_wp h1 h2 h3 π hn hl ha hpa hh hph hs hb hi he fun y h' hKK => ?_
  obtain ⟨rfl, rfl⟩ := hKK
  exact hK

theorem IOps_g {y : IV} {h' : List HO} (hg : OpG P ops o s y h') (hd : s.dstOk o.dst = true) (h : IOps P k ops rest K (s.next o.dst y h')) : IOps P k ops (o :: rest) K s := by
  rintro cx a w ⟨F, hF⟩ Q hQ
  have := hg a w F hF.hbase hF.step.hin hF.env hF.size (wpList P ops Q rest) Q fun v G w' h1 h2 => h cx _ w' ⟨G, hF.next hd h1 h2⟩ Q hQ
  unfold wpList
  split
  · rename_i hw; rw [if_pos hw] at this; exact .inl this
  · rename_i hw; rw [if_neg hw] at this; exact this

theorem IOps_callK (hr : runsB ops o s = some true) {f : FuncId} {as : List IV} (hc : icall s o.op = some (f, as)) (π : List Nat) (hn : nodupB π = true) (hl : π.all (liveB s.h) = true)
    {xs : List IV} {h : List HO} {K' : IV → List HO → Prop} {pa ph : List Prop} (ha : vwL s.h π as = some (pa, xs)) (hpa : AllP pa) (hh : vwHs s.h π π = some (ph, h)) (hph : AllP ph) (hs : Spec P f xs h K') (hd : s.dstOk o.dst = true)
    (hnext : ∀ y h', K' y h' → IOps P k ops rest K (s.after π o.dst y h')) : IOps P k ops (o :: rest) K s := by
  obtain ⟨c, fo, first, captured, h1, h2, h3, rfl⟩ := icall_spec hc
  rintro cx a w ⟨F, hF⟩ Q hQ
  unfold wpList
  rw [if_pos (runs_wanted hr hF.env hF.size)]
  exact .inl (call_wp h1 h2 h3 π hn hl ha hpa hh hph hs hF.hbase hF.step.hin hF.env fun y h' hKK v G w' q1 q2 => hnext y h' hKK cx _ w' ⟨G, hF.next hd q1 q2⟩ Q hQ)

/-! ### The end of a body -/
def iresults (T : TT) (s : St) : List ResultVar → Option (List Prop × List IV)
  | [] => some ([], [])
  | .tmp t :: r => match iresults T s r with | some (q, ys) => some (q, lk s.env t :: ys) | none => none
  | .cell a t :: r => match iload T s.h t (lk s.env a), iresults T s r with | some (p, y), some (q, ys) => some (p ++ q, y :: ys) | _, _ => none

def oneOf : List IV → IV
  | [y] => y
  | ys => .tup ys

def resVar (tmps : Array Value) : ResultVar → Sem Value
  | .tmp t => pure (tmps.getD t undef)
  | .cell a t => do loadVar t (← asAddr (tmps.getD a undef))

theorem results_eq (fn : Func) (tmps : Array Value) : results fn tmps = (do let vs ← fn.results.mapM (resVar tmps); pure (if h : vs.size = 1 then vs[0] else .tuple vs)) := by
  unfold results
  congr 2

theorem iresults_sound (hT : TOk P T) {F : Fix} {w : World} (hi : HIn F s.h w) {tmps : Array Value} (he : ∀ i, R F (lk s.env i) (tmps.getD i undef)) : ∀ {rs : List ResultVar} {ps : List Prop} {ys : List IV}, iresults T s rs = some (ps, ys) → AllP ps →
    ∃ vs, (rs.mapM (resVar tmps)).run P w = .ok vs w ∧ RL F ys vs
  | [], _, _, e, _ => by simp [iresults] at e; obtain ⟨rfl, rfl⟩ := e; exact ⟨[], rfl, .nil⟩
  | .tmp t :: r, ps, ys, e, hp => by
    unfold iresults at e
    split at e
    · rename_i q zs hq
      cases e
      obtain ⟨vs, h1, h2⟩ := iresults_sound hT hi he hq hp
      refine ⟨_ :: vs, ?_, .cons (he t) h2⟩
      simp only [List.mapM_cons, resVar, Sem.run_bind, Sem.run_pure, Result.andThen_ok, h1]
    · cases e
  | .cell a t :: r, ps, ys, e, hp => by
    unfold iresults at e
    split at e
    · rename_i p y q zs hl hq
      cases e
      obtain ⟨q1, q2⟩ := AllP.append hp
      obtain ⟨vs, h1, h2⟩ := iresults_sound hT hi he hq q2
      obtain ⟨u, k1, k2⟩ := iload_sound (P := P) hT hi (he a) hl q1
      refine ⟨u :: vs, ?_, .cons k2 h2⟩
      have hu : ((do loadVar t (← asAddr (tmps.getD a undef))) : Sem Value).run P w = .ok u w := by
        have hra := he a
        generalize tmps.getD a undef = va at *
        unfold iload at hl
        split at hl
        · rename_i n off hx; rw [hx] at hra; cases hra
          simpa [Instr.loadAt, Instr.sureAddr, asAddr] using k1
        · rename_i nw cs off hx; rw [hx] at hra; cases hra
          simpa [Instr.loadAt, Instr.sureAddr, asAddr] using k1
        · cases hl
      rw [List.mapM_cons, Sem.run_bind]
      show (Sem.run P (do loadVar t (← asAddr (tmps.getD a undef)) : Sem Value) w).andThen _ = _
      rw [hu]
      simp only [Result.andThen_ok, Sem.run_bind, h1, Sem.run_pure]
    · cases e

def Post (T : TT) (fn : Func) (k : Nat) (K : IV → List HO → Prop) (e : Exit) (s : St) : Prop :=
  (e = .normal ∨ e = .ret) ∧ ∃ ps ys π, iresults T s fn.results.toList = some (ps, ys) ∧ AllP ps ∧ nodupB π = true ∧ rangeB k π = true ∧ (π.all fun n => Nat.blt n s.h.length) = true ∧
    K ((oneOf ys).ren (inv π)) (pickH (inv π) s.h π)

def initEnv : Nat → List IV → List (Nat × IV)
  | _, [] => []
  | i, x :: r => (i, x) :: initEnv (i + 1) r

theorem lk_init {F : Fix} : ∀ {xs : List IV} {vs : List Value} {i : Nat}, RL F xs vs → ∀ j (u : Nat → Value), (∀ m, m < vs.length → u (i + m) = vs.getD m undef) → R F (lk (initEnv i xs) j) (u j)
  | [], _, _, _, _, _, _ => .any _
  | x :: xs, _, i, .cons (v := v) (vs := vs) h t, j, u, hu => by
    show R F (lk ((i, x) :: initEnv (i + 1) xs) j) (u j)
    rw [lk_cons]
    by_cases e : i = j
    · subst e; rw [if_pos rfl]
      have := hu 0 (by simp)
      simp at this
      rw [this]; exact h
    · rw [if_neg e]
      exact lk_init t j u fun m hm => by
        have := hu (m + 1) (by simpa using hm)
        rw [show i + 1 + m = i + (m + 1) by omega, this]; simp

theorem Spec.of_body (hT : TOk P T) {f : FuncId} {fn : Func} {c : Code} {nt : Nat} {xs : List IV} {h : List HO} {K : IV → List HO → Prop} (hf : P.funcs[f]? = some fn) (hb : fn.body = some c) (hnt : fn.ntmps = nt) (hname : (fn.name == "runtime.NumGoroutine") = false)
    (hlen : Nat.ble xs.length nt = true) (hfresh : ∀ y h', K y h' → y.fresh = true ∧ h'.all HO.fresh = true) (hw : IWP P h.length c (Post T fn h.length K) ⟨nt, initEnv 0 xs, h⟩) : Spec P f xs h K := by
  refine ⟨fun args w => ?_, hfresh, fun F w vs hbase hi hr => ?_⟩
  · simp only [callFunc, Sem.run_bind, run_program, Result.andThen_ok, hf]
    simp only [hname, hb, Option.isNone_some, Bool.false_eq_true, if_false, Sem.run_pure]
  · have hvl := hr.length
    have hle := Nat.le_of_ble_eq_true hlen
    refine calls_of_wp hf hb ?_
    have hsim : Sim ⟨F, h, w⟩ h.length ⟨nt, initEnv 0 xs, h⟩ { tmps := ⟨vs⟩ ++ Array.replicate (fn.ntmps - (⟨vs⟩ : Array Value).size) undef, defers := [] } w := by
      refine ⟨F, rfl, ?_, HStep.refl hi, fun j => ?_, hbase, rfl, hi.N⟩
      · simp [hnt]; omega
      · refine lk_init hr j (fun j => (⟨vs⟩ ++ Array.replicate (fn.ntmps - (⟨vs⟩ : Array Value).size) undef : Array Value).getD j undef) fun m hm => ?_
        rw [Nat.zero_add]
        have h1 : m < (⟨vs⟩ ++ Array.replicate (fn.ntmps - (⟨vs⟩ : Array Value).size) undef : Array Value).size := by simp; omega
        simp only [Array.getD, h1, dif_pos]
        show (⟨vs⟩ ++ Array.replicate (fn.ntmps - (⟨vs⟩ : Array Value).size) undef : Array Value)[m] = _
        rw [Array.getElem_append_left (by simpa using hm)]
        simp [List.getD, hm]
    refine wp_mono (hw ⟨F, h, w⟩ _ w hsim) ?_
    rintro e a' w' ⟨s', ⟨he, ps, ys, π, h1, h2, h3, h4, h5, h6⟩, G, hG⟩
    obtain ⟨us, k1, k2⟩ := iresults_sound (P := P) hT hG.step.hin hG.env h1 h2
    obtain ⟨G2, st, ren⟩ := hG.step.pick hG.names hG.n0 π (nodupB_spec h3) h4 fun n hm => Nat.blt_eq.mp (List.all_eq_true.1 h5 n hm)
    have hres : ∃ v, (results fn a'.tmps).run P w' = .ok v w' ∧ R G (oneOf ys) v := by
      have hml : (fn.results.mapM (resVar a'.tmps)).run P w' = .ok ⟨us⟩ w' := by
        rw [Array.mapM_eq_mapM_toList, Sem.run_map, k1]; rfl
      have hsz := k2.length
      rw [results_eq, Sem.run_bind, hml]
      simp only [Result.andThen_ok, Sem.run_pure]
      match ys, us, k2 with
      | [], _, .nil => exact ⟨_, rfl, .tup .nil⟩
      | [y], _, .cons hy .nil => exact ⟨_, rfl, hy⟩
      | y1 :: y2 :: r, _, .cons q1 (.cons q2 q3) => exact ⟨_, rfl, .tup (.cons q1 (.cons q2 q3))⟩
    obtain ⟨v, r1, r2⟩ := hres
    rcases he with rfl | rfl
    · exact ⟨hG.defers, v, r1, v, G2, _, _, rfl, h6, st, r2.ren ren⟩
    · exact ⟨hG.defers, v, r1, v, G2, _, _, rfl, h6, st, r2.ren ren⟩

theorem Post_intro {fn : Func} {K : IV → List HO → Prop} {e : Exit} (he : e = .normal ∨ e = .ret) {ps : List Prop} {ys : List IV} (π : List Nat) (h1 : iresults T s fn.results.toList = some (ps, ys)) (h2 : AllP ps) (h3 : nodupB π = true)
    (h4 : rangeB k π = true) (h5 : (π.all fun n => Nat.blt n s.h.length) = true) (h6 : K ((oneOf ys).ren (inv π)) (pickH (inv π) s.h π)) : Post T fn k K e s := ⟨he, ps, ys, π, h1, h2, h3, h4, h5, h6⟩

/-! ### A nil slice gets a name; a block freezes -/
theorem Le.virt {i esz : Nat} (hi : lk s.env i = .sc (.slice none 0 0)) : Le k s ⟨s.nt, (i, .sl s.h.length 0 0 0 esz) :: s.env, s.h ++ [.arr true []]⟩ := by
  rintro cx a w ⟨F, hF⟩
  have hst := hF.step.hin.virt true
  refine ⟨_, hF.defers, hF.size, hF.step.trans hst, fun j => ?_, hF.base, hF.names, hF.n0⟩
  show R _ (lk ((i, _) :: s.env) j) _
  rw [lk_cons]
  by_cases e : i = j
  · subst e; rw [if_pos rfl]
    have := hF.env i
    rw [hi] at this
    generalize a.tmps.getD i undef = v at this
    cases this
    exact .slnil (by rw [← hF.step.hin.N]; exact Nat.lt_succ_self _)
  · rw [if_neg e]; exact (hF.env j).mono hst.ext.weak

theorem Le.freeze {i n off len cap esz : Nat} {cs : List IV} (hi : lk s.env i = .sl n off len cap esz) (hn : s.h[n]? = some (.arr true cs)) (hl : off + len * esz ≤ cs.length) :
    Le k s ⟨s.nt, (i, .fz true ((cs.drop off).take (len * esz)) len) :: s.env, s.h.set n .dead⟩ := by
  rintro cx a w ⟨F, hF⟩
  obtain ⟨G, hst, hfz⟩ := hF.step.hin.freeze hn
  refine ⟨G, hF.defers, hF.size, hF.step.trans hst, fun j => ?_, hF.base, hF.names, hF.n0⟩
  show R _ (lk ((i, _) :: s.env) j) _
  rw [lk_cons]
  by_cases e : i = j
  · subst e; rw [if_pos rfl]
    have := hF.env i
    rw [hi] at this
    exact hfz _ _ _ _ _ this hl
  · rw [if_neg e]; exact (hF.env j).mono hst.ext.weak

end
end Go.Idl
