/-
  Ideal states: append in place.
-/
import Derived.Test.YtmgcoopmbohkoaaIdlX
namespace Go.Idl
open Go

def iexecIn (T : TT) (s : St) (op : Op) : Option (List Prop × IV × List HO) :=
  match op with
  | .call { callee := .builtin .append, args := args, argTypes := types } =>
    match types.toList, args.toList.map s.ev with
    | [t, t2], [x, y] => iappendIn T s.h [t, t2] [x, y]
    | _, _ => none
  | _ => none

section
variable {P : Program} {T : TT}

theorem iexecIn_sound {F : Fix} {w : World} (hT : TOk P T) {s : St} (hi : HIn F s.h w) {ρ : Operand → Value} (hρ : ∀ x, R F (s.ev x) (ρ x)) {o : Oper} {ps : List Prop} {y : IV} {h' : List HO}
    (e : iexecIn T s o.op = some (ps, y, h')) (hp : AllP ps) :
    ∃ v' w', (execOp ρ o).run P w = .ok (.value v') w' ∧ HStep F F s.h h' w w' ∧ R F y v' := by
  obtain ⟨dst, op, type, pos, after, guard⟩ := o
  simp only at e
  unfold iexecIn at e
  split at e
  case h_2 => cases e
  rename_i op' args types
  have hargs : RL F (args.toList.map s.ev) (args.map ρ).toList := by simpa using RLmap hρ args.toList
  split at e
  case h_2 => cases e
  rename_i t t2 x y' ht hx
  rw [hx] at hargs
  generalize hv : args.map ρ = va at hargs
  obtain ⟨vl⟩ := va
  cases hargs with
  | cons h1 hr =>
  cases hr with
  | cons h2 hr =>
  cases hr
  rename_i v u
  obtain ⟨v', w', k1, k2, k3⟩ := iappendIn_sound (P := P) (ty := type) hT hi h1 h2 e hp
  refine ⟨v', w', ?_, k2, k3⟩
  obtain ⟨tl⟩ := types
  simp only at ht
  subst ht
  simp only [execOp, resolve, invoke, Sem.run_bind, Sem.run_pure, Result.andThen_ok, hv, builtin]
  erw [k1]; rfl

variable {k : Nat} {s : St} {ops : Array Oper} {rest : List Oper} {o : Oper} {K : St → Prop}

theorem OpG_in (hT : TOk P T) (hr : runsB ops o s = some true) {ps : List Prop} {y : IV} {h' : List HO} (e : iexecIn T s o.op = some (ps, y, h')) (hp : AllP ps) : OpG P ops o s y h' := by
  intro a w F hb hi he hz K Q hK
  rw [if_pos (runs_wanted hr he hz)]
  obtain ⟨v', w', h1, h2, h3⟩ := iexecIn_sound (P := P) hT hi (evOf he) e hp
  unfold Oper.wp
  rw [h1]
  exact hK _ _ _ h2 h3
end

section
variable {P : Program} {T : TT} {k : Nat} {ops : Array Oper} {rest : List Oper} {K : St → Prop} {nt d ty : Nat} {env : List (Nat × IV)} {h h' h0 : List HO} {op : Op} {pos : String} {after : Array Edge} {g : Option (Nat × Bool)} {ps : List Prop} {y y0 : IV}
  {opl : List Oper} {vs : List IV} {Hs : List (List HO)} {hl : List Nat} {s : St} {i q : Nat} {o : Oper}

theorem IOps_in (hT : TOk P T) (hr : runsB ops ⟨some d, op, ty, pos, after, g⟩ ⟨nt, env, h⟩ = some true) (e : frc3 (iexecIn T ⟨nt, env, h⟩ op) = some (ps, y0, h0)) (hy : y0 = y) (hh : h0 = h') (hd : Nat.blt d nt = true) (hp : AllP ps)
    (hn : IOps P k ops rest K ⟨nt, (d, y) :: env, h'⟩) : IOps P k ops (⟨some d, op, ty, pos, after, g⟩ :: rest) K ⟨nt, env, h⟩ := by
  subst hy; subst hh; exact IOps_g (OpG_in hT hr (frc3_eq e) hp) hd hn

theorem Obl_in (hT : TOk P T) (ho : opl[i]? = some o) (hr : runsB opl.toArray o ⟨s.nt, restr (envOf opl vs (fun _ => true) s.env i) (slotsOf opl.toArray o), Hs.getD q []⟩ = some true)
    (e : frc3 (iexecIn T ⟨s.nt, restr (envOf opl vs (fun _ => true) s.env i) (slotsOf opl.toArray o), Hs.getD q []⟩ o.op) = some (ps, y0, h0)) (hv : y0 = vs.getD i .any)
    (hh : h0 = if hl.any (Nat.beq i) then Hs.getD (q + 1) [] else Hs.getD q []) (hp : AllP ps) : Obl P opl vs Hs hl s i q := by
  unfold Obl
  rw [ho]
  simp only []
  subst hv
  rw [← hh]
  exact OpG_in hT hr (frc3_eq e) hp
end
end Go.Idl

/-! ### The operands' values written out before they are laid into cells -/
namespace Go.Idl
def frcP : List (Nat × IV) → Option (List (Nat × IV))
  | [] => some []
  | (d, y) :: r => match frc y, frcP r with | some y', some r' => some ((d, y') :: r') | _, _ => none
theorem frcP_eq : ∀ {x y : List (Nat × IV)}, frcP x = some y → x = y
  | [], _, h => by cases h; rfl
  | (d, y) :: r, z, h => by
    simp only [frcP] at h
    split at h
    · rename_i h1 h2; cases h; rw [frc_eq h1, frcP_eq h2]
    · cases h
def frcLast : List HO → Option (List HO)
  | [] => some []
  | [.arr b cs] => match frcL cs with | some cs' => some [.arr b cs'] | none => none
  | [.box cs] => match frcL cs with | some cs' => some [.box cs'] | none => none
  | [.dead] => some [.dead]
  | [.mp es c] => some [.mp es c]
  | [.it m a b c] => some [.it m a b c]
  | .arr b cs :: r => match frcLast r with | some r' => some (.arr b cs :: r') | none => none
  | .box cs :: r => match frcLast r with | some r' => some (.box cs :: r') | none => none
  | .dead :: r => match frcLast r with | some r' => some (.dead :: r') | none => none
  | .mp es c :: r => match frcLast r with | some r' => some (.mp es c :: r') | none => none
  | .it m a b c :: r => match frcLast r with | some r' => some (.it m a b c :: r') | none => none
theorem frcLast_eq : ∀ {x y : List HO}, frcLast x = some y → x = y
  | [], _, h => by cases h; rfl
  | [o], y, h => by
    cases o <;> simp only [frcLast] at h
    · split at h
      · rename_i h1; cases h; rw [frcL_eq h1]
      · cases h
    · split at h
      · rename_i h1; cases h; rw [frcL_eq h1]
      · cases h
    · cases h; rfl
    · cases h; rfl
    · cases h; rfl
  | o :: o2 :: r, y, h => by
    cases o <;> (simp only [frcLast] at h; split at h <;> first | (rename_i r' hr; cases h; rw [frcLast_eq hr]) | cases h)

def iexecF (P : Program) (T : TT) (s : St) (op : Op) : Option (List Prop × IV × List HO) :=
  match op with
  | .store t a x =>
    match frc (s.ev x) with
    | some x' => match istore T s.h t (s.ev a) x' with | some (p, h) => some (p, .sc undef, h) | none => none
    | none => none
  | .box _ x =>
    match frc (s.ev x) with
    | some x' => match ibox s.h x' with | some (y, h) => some ([], y, h) | none => none
    | none => none
  | .build t parts =>
    match frcP (parts.toList.map fun x => (x.1, s.ev x.2)) with
    | some l => match ibuild T t l with | some (p, y) => some (p, y, s.h) | none => none
    | none => none
  | .buildSlice t len parts =>
    match frcP (parts.toList.map fun x => (x.1, s.ev x.2)) with
    | some l => match ibuildSlice T s.h t len l with | some (p, y, h) => (match frcLast h with | some h' => some (p, y, h') | none => none) | none => none
    | none => none
  | op => iexec P T s op

theorem iexecF_eq {P : Program} {T : TT} {s : St} {op : Op} {r : List Prop × IV × List HO} (e : iexecF P T s op = some r) : iexec P T s op = some r := by
  unfold iexecF at e
  split at e
  · split at e
    · rename_i hx; unfold iexec; rw [← frc_eq hx] at e; exact e
    · cases e
  · split at e
    · rename_i hx; unfold iexec; rw [← frc_eq hx] at e; exact e
    · cases e
  · split at e
    · rename_i hx; unfold iexec; rw [← frcP_eq hx] at e; exact e
    · cases e
  · split at e
    · rename_i hx
      rw [← frcP_eq hx] at e
      unfold iexec
      split at e
      · rename_i hb
        split at e
        · rename_i hl; cases e; show ibuildSlice _ _ _ _ _ = _; rw [hb, frcLast_eq hl]
        · cases e
      · cases e
    · cases e
  · exact e
theorem frc3F {P : Program} {T : TT} {s : St} {op : Op} {r : List Prop × IV × List HO} (e : frc3 (iexecF P T s op) = some r) : frc3 (iexec P T s op) = some r := by
  cases h : iexecF P T s op with
  | none => rw [h] at e; cases e
  | some q => rw [iexecF_eq h, ← h]; exact e
end Go.Idl
