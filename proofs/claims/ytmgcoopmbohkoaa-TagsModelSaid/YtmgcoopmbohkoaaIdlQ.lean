/-
  Ideal states: the calculus: code, regions, loops.
-/
import Derived.Test.YtmgcoopmbohkoaaIdlP
namespace Go.Idl
open Go

/-- A call's beginning. -/
structure Cx where
  F0 : Fix
  h0 : List HO
  w0 : World

structure SimF (cx : Cx) (k : Nat) (s : St) (a : Act) (w : World) (F : Fix) : Prop where
  defers : a.defers = []
  size : a.tmps.size = s.nt
  step : HStep cx.F0 F cx.h0 s.h cx.w0 w
  env : ∀ i, R F (lk s.env i) (a.tmps.getD i undef)
  base : cx.F0.base ≤ cx.w0.heap.size
  names : cx.h0.length = k
  n0 : cx.F0.N = cx.h0.length

def Sim (cx : Cx) (k : Nat) (s : St) (a : Act) (w : World) : Prop := ∃ F, SimF cx k s a w F

theorem SimF.hbase {cx : Cx} {k : Nat} {s : St} {a : Act} {w : World} {F : Fix} (h : SimF cx k s a w F) : F.base ≤ w.heap.size := by
  rw [h.step.ext.base]; exact Nat.le_trans h.base h.step.fr.size

theorem SimF.ev {cx : Cx} {k : Nat} {s : St} {a : Act} {w : World} {F : Fix} (h : SimF cx k s a w F) (x : Operand) : R F (s.ev x) (a.eval x) := by
  cases x with
  | tmp t => exact h.env t
  | const v => exact R.ofV v
  | global g => exact .any _
  | func f => exact .fn .nil .nil

def St.next (s : St) (d : Option Tmp) (y : IV) (h : List HO) : St :=
  match d with
  | some d => { s with env := (d, y) :: s.env, h := h }
  | none => { s with h := h }

def St.dstOk (s : St) (d : Option Tmp) : Bool :=
  match d with
  | some d => Nat.blt d s.nt
  | none => true

theorem lk_cons (d : Nat) (y : IV) (env : List (Nat × IV)) (i : Nat) : lk ((d, y) :: env) i = if d = i then y else lk env i := by
  show (bif Nat.beq d i then y else lk env i) = _
  by_cases h : d = i
  · subst h; simp
  · rw [if_neg h]
    have : Nat.beq d i = false := by
      cases hb : Nat.beq d i with
      | true => exact absurd (Nat.eq_of_beq_eq_true hb) h
      | false => rfl
    rw [this]; rfl

theorem SimF.next {cx : Cx} {k : Nat} {s : St} {a : Act} {w w' : World} {F G : Fix} (hs : SimF cx k s a w F) {d : Option Tmp} {y : IV} {v : Value} {h' : List HO} (hd : s.dstOk d = true)
    (hst : HStep F G s.h h' w w') (hr : R G y v) : SimF cx k (s.next d y h') (a.put d v) w' G := by
  have henv : ∀ i, R G (lk s.env i) (a.tmps.getD i undef) := fun i => (hs.env i).mono hst.ext.weak
  cases d with
  | none => exact ⟨hs.defers, hs.size, hs.step.trans hst, henv, hs.base, hs.names, hs.n0⟩
  | some d =>
    have hlt : d < a.tmps.size := by
      have h1 : Nat.blt d s.nt = true := hd
      rw [hs.size]; exact Nat.blt_eq.mp h1
    refine ⟨hs.defers, by simp [Act.put, St.next, hs.size], hs.step.trans hst, fun i => ?_, hs.base, hs.names, hs.n0⟩
    show R G (lk ((d, y) :: s.env) i) ((a.tmps.setIfInBounds d v).getD i undef)
    rw [lk_cons]
    by_cases h : d = i
    · subst h; rw [if_pos rfl]; simpa [hlt] using hr
    · rw [if_neg h]
      have := henv i
      simpa [Array.getElem?_setIfInBounds_ne h] using this

/-! ### Code -/
def IWP (P : Program) (k : Nat) (c : Code) (Q : Exit → St → Prop) (s : St) : Prop :=
  ∀ cx a w, Sim cx k s a w → c.wp P (fun e a' w' => ∃ s', Q e s' ∧ Sim cx k s' a' w') a w

def thenI (next : St → Prop) (Q : Exit → St → Prop) : Exit → St → Prop
  | .normal, s => next s
  | e, s => Q e s

def inBlockI (id : Nat) (Q : Exit → St → Prop) : Exit → St → Prop
  | .exit id', s => if id' = id then Q .normal s else Q (.exit id') s
  | e, s => Q e s

section
variable {P : Program} {k : Nat} {Q : Exit → St → Prop} {s : St}

theorem IWP.mono {c : Code} {Q' : Exit → St → Prop} (h : IWP P k c Q s) (hq : ∀ e s, Q e s → Q' e s) : IWP P k c Q' s :=
  fun cx a w hs => wp_mono (h cx a w hs) fun e _ _ ⟨s', h1, h2⟩ => ⟨s', hq e s' h1, h2⟩

theorem IWP_skip (h : Q .normal s) : IWP P k .skip Q s := fun _ _ _ hs => wp_skip ⟨s, h, hs⟩
theorem IWP_ret (h : Q .ret s) : IWP P k .ret Q s := fun _ _ _ hs => wp_ret ⟨s, h, hs⟩
theorem IWP_exit {id : Nat} (h : Q (.exit id) s) : IWP P k (.exit id) Q s := fun _ _ _ hs => wp_exit ⟨s, h, hs⟩
theorem IWP_goto {l : Nat} (h : Q (.goto l) s) : IWP P k (.goto l) Q s := fun _ _ _ hs => wp_goto ⟨s, h, hs⟩
theorem IWP_label {l : Nat} (h : Q .normal s) : IWP P k (.label l) Q s := fun _ _ _ hs => wp_label ⟨s, h, hs⟩

theorem IWP_seq {x y : Code} (h : IWP P k x (thenI (IWP P k y Q) Q) s) : IWP P k (.seq x y) Q s := fun cx a w hs =>
  wp_seq (wp_mono (h cx a w hs) fun e a' w' ⟨s', h1, h2⟩ => by
    cases e with
    | normal => exact h1 cx a' w' h2
    | _ => exact ⟨s', h1, h2⟩)

theorem IWP_cond {c : Operand} {x y : Code} {b : Bool} (hc : s.ev c = .sc (.bool b)) (h1 : b = true → IWP P k x Q s) (h2 : b = false → IWP P k y Q s) : IWP P k (.cond c x y) Q s := fun cx a w hs => by
  obtain ⟨F, hF⟩ := hs
  have he := hF.ev c
  rw [hc] at he
  have hb : a.eval c = .bool b := by generalize a.eval c = v at he; cases he; rfl
  exact wp_cond_split hb (fun h => h1 h cx a w ⟨F, hF⟩) (fun h => h2 h cx a w ⟨F, hF⟩)

theorem IWP_block {id : Nat} {c : Code} (h : IWP P k c (inBlockI id Q) s) : IWP P k (.block id c) Q s := fun cx a w hs =>
  wp_block (wp_mono (h cx a w hs) fun e a' w' ⟨s', h1, h2⟩ => by
    cases e with
    | exit id' =>
      simp only [Exit.inBlock]
      simp only [inBlockI] at h1
      split <;> rename_i hid
      · rw [if_pos hid] at h1; exact ⟨s', h1, h2⟩
      · rw [if_neg hid] at h1; exact ⟨s', h1, h2⟩
    | _ => exact ⟨s', h1, h2⟩)

def Le (k : Nat) (s t : St) : Prop := ∀ cx a w, Sim cx k s a w → Sim cx k t a w
theorem Le.refl (k : Nat) (s : St) : Le k s s := fun _ _ _ h => h
theorem Le.trans {s t u : St} (h : Le k s t) (h' : Le k t u) : Le k s u := fun cx a w x => h' cx a w (h cx a w x)
theorem IWP.le {c : Code} {t : St} (h : Le k s t) (h' : IWP P k c Q t) : IWP P k c Q s := fun cx a w hs => h' cx a w (h cx a w hs)

theorem IWP_loop {c : Code} {α : Type} (S : α → St) (I : α → Prop) (μ : α → Nat) (x0 : α) (h0 : Le k s (S x0)) (hI : I x0)
    (round : ∀ x, I x → IWP P k c (thenI (fun s' => ∃ x', I x' ∧ μ x' < μ x ∧ Le k s' (S x')) Q) (S x)) : IWP P k (.loop c) Q s := fun cx a w hs => by
  have key : ∀ n x, μ x = n → I x → ∀ a w, Sim cx k (S x) a w → ∀ (b : Frame) (kk : List Item) (cs : List Frame),
      ∃ e a' w', (∃ s', Q e s' ∧ Sim cx k s' a' w') ∧ Arrives P (lone (b.at a (.code c :: .inLoop c :: kk)) cs w) b kk cs e a' w' := by
    intro n
    induction n using Nat.strongRecOn with
    | _ n ih =>
      intro x hn hx a w hs b kk cs
      obtain ⟨e, a1, w1, ⟨s', hq, hs'⟩, harr⟩ := round x hx cx a w hs b (.inLoop c :: kk) cs
      cases e with
      | normal =>
        obtain ⟨x', hx', hlt, hle⟩ := hq
        obtain ⟨e2, a2, w2, hq2, harr2⟩ := ih (μ x') (hn ▸ hlt) x' rfl hx' a1 w1 (hle cx a1 w1 hs') b kk cs
        exact ⟨e2, a2, w2, hq2, .of_steps (Steps.trans harr (.one step_inLoop)) harr2⟩
      | exit id => exact ⟨_, a1, w1, ⟨s', hq, hs'⟩, .pass (x := .inLoop c) rfl (fun _ _ => .inl (by simp)) harr⟩
      | goto l => exact ⟨_, a1, w1, ⟨s', hq, hs'⟩, .pass (x := .inLoop c) rfl (fun _ _ => .inl (by simp)) harr⟩
      | ret => exact ⟨_, a1, w1, ⟨s', hq, hs'⟩, .pass (x := .inLoop c) rfl (fun _ _ => .inl (by simp)) harr⟩
      | panic ch => exact ⟨_, a1, w1, ⟨s', hq, hs'⟩, .pass (x := .inLoop c) rfl (fun _ _ => .inl (by simp)) harr⟩
      | outgrown => exact ⟨_, a1, w1, ⟨s', hq, hs'⟩, .pass (x := .inLoop c) rfl (fun _ _ => .inl (by simp)) harr⟩
  intro b kk cs
  obtain ⟨e, a', w', hq, harr⟩ := key (μ x0) x0 rfl hI a w (h0 cx a w hs) b kk cs
  exact ⟨e, a', w', hq, .of_steps (.one step_loop) harr⟩

/-! ### Regions -/
def IOps (P : Program) (k : Nat) (ops : Array Oper) (l : List Oper) (K : St → Prop) (s : St) : Prop :=
  ∀ cx a w, Sim cx k s a w → ∀ Q : Exit → Act → World → Prop, (∀ a' w' s', K s' → Sim cx k s' a' w' → Q .normal a' w') → wpList P ops Q l a w

theorem IWP_region {id : Nat} {l : List Oper} (h : IOps P k l.toArray l (Q .normal) s) : IWP P k (.region id l.toArray false) Q s := fun cx a w hs =>
  wp_region_lit (h cx a w hs _ fun _ _ s' h1 h2 => ⟨s', h1, h2⟩)

variable {ops : Array Oper} {rest : List Oper} {o : Oper} {K : St → Prop}

theorem IOps_nil (h : K s) : IOps P k ops [] K s := fun _ a w hs _ hQ => hQ a w s h hs

theorem IOps.le {l : List Oper} {t : St} (h : Le k s t) (h' : IOps P k ops l K t) : IOps P k ops l K s := fun cx a w hs => h' cx a w (h cx a w hs)

def gslot (ops : Array Oper) (o : Oper) : Option (Nat × Bool) :=
  match o.guard with
  | some (j, b) => match (ops[j]?).bind (·.dst) with | some d => some (d, b) | none => none
  | none => none

end
end Go.Idl
