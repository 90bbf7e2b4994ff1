/-
  Ideal states: names renamed; what a call sees of its caller's state.
-/
import Derived.Test.YtmgcoopmbohkoaaIdlQ
namespace Go.Idl
open Go

mutual
/-- Names renamed; one that goes is forgotten. -/
def IV.ren (σ : Nat → Option Nat) : IV → IV
  | .agg cs => .agg (IV.renL σ cs)
  | .tup cs => .tup (IV.renL σ cs)
  | .ptr n off => match σ n with | some m => .ptr m off | none => .any
  | .sl n off len cap esz => match σ n with | some m => .sl m off len cap esz | none => .any
  | .fn f a b => .fn f (IV.renL σ a) (IV.renL σ b)
  | .mp n => match σ n with | some m => .mp m | none => .any
  | .any => .any
  | .sc v => .sc v
  | .fp b cs o => .fp b cs o
  | .fz b cs l => .fz b cs l
def IV.renL (σ : Nat → Option Nat) : List IV → List IV
  | [] => []
  | c :: cs => c.ren σ :: IV.renL σ cs
end

def HO.ren (σ : Nat → Option Nat) : HO → HO
  | .arr b cs => .arr b cs
  | .box cs => .box (IV.renL σ cs)
  | .dead => .dead
  | .mp es c => .mp es c
  | .it m a b c => match σ m with | some j => .it j a b c | none => .dead

/-- One tie is another one's, under other names. -/
structure Ren (F G : Fix) (σ : Nat → Option Nat) : Prop where
  base : G.base ≤ F.base
  rd : ∀ a v, F.rd a = some v → G.rd a = some v
  name : ∀ n m, n < F.N → σ n = some m → m < G.N ∧ G.blk m = F.blk n ∧ G.bsz m = F.bsz n

theorem Ren.zero {F G : Fix} {σ : Nat → Option Nat} (h : Ren F G σ) : Ext0 { F with N := 0 } { G with N := 0 } :=
  ⟨h.base, Nat.le_refl _, h.rd, fun n hn => absurd hn (Nat.not_lt_zero n), fun n hn => absurd hn (Nat.not_lt_zero n)⟩

mutual
theorem R.ren : ∀ {F G : Fix} {σ : Nat → Option Nat} {c : IV} {v : Value}, Ren F G σ → R F c v → R G (c.ren σ) v
  | _, _, _, _, _, _, .any v => by simp only [IV.ren]; exact .any v
  | _, _, _, _, _, _, .sc v => by simp only [IV.ren]; exact .sc v
  | _, _, _, _, _, h, .agg k => by simp only [IV.ren]; exact .agg (RL.ren h k)
  | _, _, _, _, _, h, .tup k => by simp only [IV.ren]; exact .tup (RL.ren h k)
  | _, G, σ, .ptr n off, _, h, .ptr hn => by
    simp only [IV.ren]
    cases hs : σ n with
    | none => exact .any _
    | some m =>
      obtain ⟨h1, h2, _⟩ := h.name n m hn hs
      rw [← h2]; exact .ptr h1
  | _, G, σ, .mp n, _, h, .mp hn => by
    simp only [IV.ren]
    cases hs : σ n with
    | none => exact .any _
    | some m =>
      obtain ⟨h1, h2, _⟩ := h.name n m hn hs
      rw [← h2]; exact .mp h1
  | _, _, _, _, _, h, .fp hb hr k => by simp only [IV.ren]; exact .fp (fun e e' => Nat.le_trans h.base (hb e e')) (fun j v e => h.rd _ _ (hr j v e)) (k.mono h.zero)
  | _, G, σ, .sl n off len cap esz, _, h, .sl hn hl hc ho hs => by
    simp only [IV.ren]
    cases hs' : σ n with
    | none => exact .any _
    | some m =>
      obtain ⟨h1, h2, h3⟩ := h.name n m hn hs'
      rw [← h2]; exact .sl h1 hl hc ho (by rw [h3]; exact hs)
  | _, G, σ, .sl n off _ _ esz, _, h, .slnil hn => by
    simp only [IV.ren]
    cases hs' : σ n with
    | none => exact .any _
    | some m => exact .slnil (h.name n m hn hs').1
  | _, _, _, _, _, h, .fz hb hr k hl => by simp only [IV.ren]; exact .fz (fun e e' => Nat.le_trans h.base (hb e e')) (fun j v e => h.rd _ _ (hr j v e)) (k.mono h.zero) hl
  | _, _, _, _, _, _, .fznil => by simp only [IV.ren]; exact .fznil
  | _, _, _, _, _, _, .fz0 => by simp only [IV.ren]; exact .fz0
  | _, _, _, _, _, h, .fn h1 h2 => by simp only [IV.ren]; exact .fn (RL.ren h h1) (RL.ren h h2)
theorem RL.ren : ∀ {F G : Fix} {σ : Nat → Option Nat} {cs : List IV} {vs : List Value}, Ren F G σ → RL F cs vs → RL G (IV.renL σ cs) vs
  | _, _, _, _, _, _, .nil => .nil
  | _, _, _, _, _, h, .cons k t => .cons (R.ren h k) (RL.ren h t)
end

theorem OIn.ren {F G : Fix} {σ : Nat → Option Nat} {w w' : World} {n m : Nat} {x : HO} (h : OIn F w n x) (e : Ren F G σ) (hn : n < F.N) (hs : σ n = some m)
    (hw : F.bsz n ≠ 0 → x ≠ .dead → w'.heap[F.blk n]? = w.heap[F.blk n]?) : OIn G w' m (x.ren σ) := by
  obtain ⟨_, eb, es⟩ := e.name n m hn hs
  cases x with
  | dead => trivial
  | arr nw cells =>
    rcases h with h | ⟨vs, ty, lo, hi, k1, k2, k3, k4, p, s, k5, k6⟩
    · exact .inl (by rw [es]; exact h)
    · by_cases hz : F.bsz n = 0
      · left; rw [es]; refine ⟨hz, ?_⟩
        have h9 : p = [] := by have := congrArg List.length k5; simp at this; cases p with | nil => rfl | cons => simp at this; omega
        subst h9; cases k6; rfl
      · exact .inr ⟨vs, ty, lo, hi, by rw [eb, hw hz (by simp)]; exact k1, by rw [es]; exact k2, k3, fun h => by rw [eb]; exact Nat.le_trans e.base (k4 h), p, s, k5, k6.mono e.zero⟩
  | box cells =>
    rcases h with h | ⟨vs, ty, lo, hi, k1, k2, k3, p, s, k5, k6⟩
    · left; rw [es]; refine ⟨h.1, ?_⟩; rw [h.2]; rfl
    · by_cases hz : F.bsz n = 0
      · left; rw [es]; refine ⟨hz, ?_⟩
        have h9 : p = [] := by have := congrArg List.length k5; simp at this; cases p with | nil => rfl | cons => simp at this; omega
        subst h9; cases k6; rfl
      · exact .inr ⟨vs, ty, lo, hi, by rw [eb, hw hz (by simp)]; exact k1, by rw [es]; exact k2, k3, p, s, k5, k6.ren e⟩
  | mp es' c => exact ⟨by rw [es]; exact h.1, by rw [eb, hw (by rw [h.1]; decide) (by simp)]; exact h.2⟩
  | it q a b c =>
    simp only [HO.ren]
    cases hq : σ q with
    | none => trivial
    | some j =>
      obtain ⟨h1, h2, _⟩ := e.name q j h.2.1 hq
      exact ⟨by rw [es]; exact h.1, h1, by rw [eb, hw (by rw [h.1]; decide) (by simp), h2]; exact h.2.2⟩

/-! ### A state with fewer names, and slots -/
def posOf : List Nat → Nat → Nat → Option Nat
  | [], _, _ => none
  | m :: r, i, n => bif Nat.beq m n then some i else posOf r (i + 1) n
def inv (π : List Nat) (n : Nat) : Option Nat := posOf π 0 n

theorem posOf_spec : ∀ {π : List Nat} {i n m : Nat}, posOf π i n = some m → i ≤ m ∧ π[m - i]? = some n
  | x :: r, i, n, m, h => by
    unfold posOf at h
    cases hb : Nat.beq x n with
    | true => rw [hb] at h; cases h; have := Nat.eq_of_beq_eq_true hb; subst this; simp
    | false =>
      rw [hb] at h
      obtain ⟨h1, h2⟩ := posOf_spec (π := r) h
      refine ⟨by omega, ?_⟩
      rw [show m - i = (m - (i + 1)) + 1 by omega]; simpa using h2
  | [], _, _, _, h => by cases h

theorem posOf_get : ∀ {π : List Nat} {i n j : Nat}, π.Nodup → π[j]? = some n → posOf π i n = some (i + j)
  | x :: r, i, n, 0, _, h => by simp at h; subst h; simp [posOf]
  | x :: r, i, n, j + 1, hnd, h => by
    simp only [List.getElem?_cons_succ] at h
    have hne : Nat.beq x n = false := by
      cases hb : Nat.beq x n with
      | false => rfl
      | true =>
        have := Nat.eq_of_beq_eq_true hb
        subst this
        exact absurd (List.mem_of_getElem? h) (List.nodup_cons.1 hnd).1
    unfold posOf
    rw [hne]
    show posOf r (i + 1) n = _
    rw [posOf_get (List.nodup_cons.1 hnd).2 h]
    congr 1; omega
  | [], _, _, _, _, h => by simp at h

theorem inv_get {π : List Nat} {n m : Nat} (h : inv π n = some m) : π[m]? = some n := by
  have := (posOf_spec h).2; simpa using this
theorem get_inv {π : List Nat} {n m : Nat} (hn : π.Nodup) (h : π[m]? = some n) : inv π n = some m := by
  have := posOf_get (i := 0) hn h; simpa [inv] using this

def nodupB : List Nat → Bool
  | [] => true
  | x :: r => !(r.any (Nat.beq x)) && nodupB r
theorem nodupB_spec : ∀ {l : List Nat}, nodupB l = true → l.Nodup
  | [], _ => .nil
  | x :: r, h => by
    simp only [nodupB, Bool.and_eq_true, Bool.not_eq_true'] at h
    refine List.nodup_cons.2 ⟨fun hm => ?_, nodupB_spec h.2⟩
    have : r.any (Nat.beq x) = true := List.any_eq_true.2 ⟨x, hm, by simp⟩
    rw [this] at h; exact absurd h.1 (by simp)

def EnvLe (s : St) (σ : Nat → Option Nat) : List (Nat × IV) → Prop
  | [] => True
  | (i, v) :: r => (lk s.env i).ren σ = v ∧ EnvLe s σ r

theorem EnvLe.get {s : St} {σ : Nat → Option Nat} : ∀ {env : List (Nat × IV)}, EnvLe s σ env → ∀ i, lk env i = .any ∨ lk env i = (lk s.env i).ren σ
  | [], _, _ => .inl rfl
  | (j, v) :: r, h, i => by
    rw [lk_cons]
    by_cases e : j = i
    · subst e; rw [if_pos rfl]; exact .inr h.1.symm
    · rw [if_neg e]; exact EnvLe.get h.2 i

def pickH (σ : Nat → Option Nat) (h : List HO) : List Nat → List HO
  | [] => []
  | n :: r => (match h[n]? with | some o => o.ren σ | none => .dead) :: pickH σ h r

theorem pickH_length (σ : Nat → Option Nat) (h : List HO) : ∀ π, (pickH σ h π).length = π.length
  | [] => rfl
  | _ :: r => by simp [pickH, pickH_length σ h r]
theorem pickH_get (σ : Nat → Option Nat) (h : List HO) : ∀ (π : List Nat) (j n : Nat), π[j]? = some n → (pickH σ h π)[j]? = some (match h[n]? with | some o => o.ren σ | none => .dead)
  | [], _, _, e => by simp at e
  | _ :: r, 0, n, e => by simp at e; subst e; rfl
  | _ :: r, j + 1, n, e => by simp at e; simpa [pickH] using pickH_get σ h r j n e

def rangeB (k : Nat) (π : List Nat) : Bool := (List.range k).all fun i => decide (π[i]? = some i)

theorem HO.ren_dead {σ : Nat → Option Nat} {o : HO} (h : o.ren σ ≠ .dead) : o ≠ .dead := by
  rintro rfl; exact h rfl

theorem HStep.pick {F0 F : Fix} {h0 h : List HO} {w0 w : World} (st : HStep F0 F h0 h w0 w) {k : Nat} (hk : h0.length = k) (hF0 : F0.N = h0.length) (π : List Nat) (hn : π.Nodup) (hr : rangeB k π = true) (hl : ∀ n ∈ π, n < h.length) :
    ∃ G, HStep F0 G h0 (pickH (inv π) h π) w0 w ∧ Ren F G (inv π) := by
  let G : Fix := { F with N := π.length, blk := fun j => F.blk (π.getD j 0), bsz := fun j => F.bsz (π.getD j 0) }
  have hi := st.hin
  have hG : ∀ {j n : Nat}, π[j]? = some n → G.blk j = F.blk n ∧ G.bsz j = F.bsz n := fun {j n} e => by simp [G, List.getD, e]
  have ren : Ren F G (inv π) := ⟨Nat.le_refl _, fun _ _ h => h, fun n m _ e => by
    have := inv_get e
    exact ⟨lt_of_get this, hG this⟩⟩
  have hlive : ∀ {j : Nat}, live (pickH (inv π) h π) j → ∃ n, π[j]? = some n ∧ live h n := by
    rintro j ⟨x, hx, hd⟩
    have hj : j < π.length := by have := lt_of_get hx; rwa [pickH_length] at this
    refine ⟨π[j], List.getElem?_eq_getElem hj, ?_⟩
    rw [pickH_get _ _ _ _ _ (List.getElem?_eq_getElem hj)] at hx
    cases ho : h[π[j]]? with
    | none => rw [ho] at hx; cases hx; exact absurd rfl hd
    | some o => rw [ho] at hx; cases hx; exact ⟨o, ho, HO.ren_dead hd⟩
  have hrk : ∀ i, i < k → π[i]? = some i := fun i hi' => of_decide_eq_true (List.all_eq_true.1 hr i (List.mem_range.2 hi'))
  have hkl : k ≤ π.length := by
    rcases Nat.eq_zero_or_pos k with h0 | h0
    · omega
    · have := lt_of_get (hrk (k - 1) (by omega)); omega
  refine ⟨G, ⟨⟨st.ext.base, by rw [hF0, hk]; exact hkl, st.ext.rd, fun n hn' => ?_, fun n hn' => ?_⟩, ⟨by simp [G, pickH_length], hi.rd, fun j x hx => ?_, fun a b ha hb h1 h2 e => ?_, fun j hj hb a v ha => ?_⟩, st.fr, fun j hj hb => ?_, st.rdn⟩, ren⟩
  · have := hrk n (by omega)
    rw [(hG this).1]; exact st.ext.blk n hn'
  · have := hrk n (by omega)
    rw [(hG this).2]; exact st.ext.bsz n hn'
  · have hj : j < π.length := by have := lt_of_get hx; rwa [pickH_length] at this
    have hp := List.getElem?_eq_getElem hj
    rw [pickH_get _ _ _ _ _ hp] at hx
    have hlt := hl _ (List.getElem_mem hj)
    rw [List.getElem?_eq_getElem hlt] at hx
    cases hx
    exact (hi.obj _ _ (List.getElem?_eq_getElem hlt)).ren ren (by rw [hi.N]; exact hlt) (get_inv hn hp) fun _ _ => rfl
  · obtain ⟨n1, p1, l1⟩ := hlive ha
    obtain ⟨n2, p2, l2⟩ := hlive hb
    rw [(hG p1).1, (hG p2).1] at e
    rw [(hG p1).2] at h1; rw [(hG p2).2] at h2
    have := hi.inj n1 n2 l1 l2 h1 h2 e
    subst this
    have q1 := get_inv hn p1
    have q2 := get_inv hn p2
    rw [q1] at q2; exact Option.some.inj q2
  · obtain ⟨n1, p1, l1⟩ := hlive hj
    rw [(hG p1).1]; rw [(hG p1).2] at hb
    exact hi.dis n1 l1 hb a v ha
  · obtain ⟨n1, p1, l1⟩ := hlive hj
    rw [(hG p1).1]; rw [(hG p1).2] at hb
    exact st.own n1 l1 hb

theorem Le.pick {k : Nat} {s t : St} (π : List Nat) (hn : nodupB π = true) (hr : rangeB k π = true) (hl : (π.all fun n => Nat.blt n s.h.length) = true) (h1 : t.nt = s.nt) (h2 : EnvLe s (inv π) t.env) (h3 : pickH (inv π) s.h π = t.h) : Le k s t := by
  rintro cx a w ⟨F, hF⟩
  obtain ⟨G, hst, hren⟩ := hF.step.pick hF.names hF.n0 π (nodupB_spec hn) hr fun n hm => Nat.blt_eq.mp (List.all_eq_true.1 hl n hm)
  refine ⟨G, hF.defers, by rw [h1]; exact hF.size, by rw [← h3]; exact hst, fun i => ?_, hF.base, hF.names, hF.n0⟩
  rcases h2.get i with e | e
  · rw [e]; exact .any _
  · rw [e]; exact (hF.env i).ren hren

end Go.Idl
