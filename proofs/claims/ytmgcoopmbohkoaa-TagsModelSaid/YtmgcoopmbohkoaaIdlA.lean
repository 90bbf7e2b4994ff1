/-
  Ideal states: values with named blocks and frozen memory; how they stand for the model's values and worlds.
-/
import Derived.WalkKit
namespace Go.Idl
open Go

/-- An ideal value. 'ptr n off', 'sl n off len cap esz': into the named block n; 'fp', 'fz': into memory that does not change; their Bool: it is new since the call began. -/
inductive IV where
  | any
  | sc (v : Value)
  | agg (cs : List IV)
  | tup (cs : List IV)
  | ptr (n off : Nat)
  | mp (n : Nat)
  | fp (new : Bool) (cells : List IV) (off : Nat)
  | sl (n off len cap esz : Nat)
  | fz (new : Bool) (cells : List IV) (len : Nat)
  | fn (f : Fn) (first captured : List IV)
  deriving Inhabited

/-- What a named block holds. -/
inductive HO where
  | arr (new : Bool) (cells : List IV)
  | box (cells : List IV)
  | dead
  | mp (es : Array MapEntry) (clock : Nat)
  | it (m since : Nat) (seen : Array Nat) (last : Nat)
  deriving Inhabited

/-- What ties names to blocks, and which memory stands still. -/
structure Fix where
  base : Nat
  rd : Addr → Option Value
  blk : Nat → Nat
  bsz : Nat → Nat
  N : Nat

def Rdl (rd : Addr → Option Value) (b o : Nat) (vs : List Value) : Prop := ∀ j v, vs[j]? = some v → rd ⟨b, o + j, none⟩ = some v

mutual
/-- An ideal value stands for a value. -/
inductive R : Fix → IV → Value → Prop
  | any {F : Fix} (v : Value) : R F .any v
  | sc {F : Fix} (v : Value) : R F (.sc v) v
  | agg {F : Fix} {cs : List IV} {vs : List Value} (h : RL F cs vs) : R F (.agg cs) (.agg ⟨vs⟩)
  | tup {F : Fix} {cs : List IV} {vs : List Value} (h : RL F cs vs) : R F (.tup cs) (.tuple ⟨vs⟩)
  | ptr {F : Fix} {n off : Nat} (hn : n < F.N) : R F (.ptr n off) (.pointer (some ⟨F.blk n, off, none⟩))
  | mp {F : Fix} {n : Nat} (hn : n < F.N) : R F (.mp n) (.map (some (F.blk n)))
  | fp {F : Fix} {new : Bool} {cells : List IV} {off b o : Nat} {vs : List Value} (hb : new = true → vs ≠ [] → F.base ≤ b) (hr : Rdl F.rd b o vs) (h : RL { F with N := 0 } cells vs) :
      R F (.fp new cells off) (.pointer (some ⟨b, o + off, none⟩))
  | sl {F : Fix} {n off len cap esz cap' o : Nat} (hn : n < F.N) (hl : len ≤ cap) (hc : cap ≤ cap') (ho : 0 < cap' → o = off) (hs : off + cap' * esz ≤ F.bsz n) :
      R F (.sl n off len cap esz) (.slice (some ⟨F.blk n, o, none⟩) len cap')
  | slnil {F : Fix} {n off esz : Nat} (hn : n < F.N) : R F (.sl n off 0 0 esz) (.slice none 0 0)
  | fz {F : Fix} {new : Bool} {cells : List IV} {len cap' b o : Nat} {vs : List Value} (hb : new = true → vs ≠ [] → F.base ≤ b) (hr : Rdl F.rd b o vs) (h : RL { F with N := 0 } cells vs) (hl : len ≤ cap') :
      R F (.fz new cells len) (.slice (some ⟨b, o, none⟩) len cap')
  | fznil {F : Fix} {new : Bool} : R F (.fz new [] 0) (.slice none 0 0)
  | fz0 {F : Fix} {new : Bool} {a : Addr} {cap : Nat} : R F (.fz new [] 0) (.slice (some a) 0 cap)
  | fn {F : Fix} {f : Fn} {first captured : List IV} {fs cs : List Value} (h1 : RL F first fs) (h2 : RL F captured cs) : R F (.fn f first captured) (.func f ⟨fs⟩ ⟨cs⟩)
inductive RL : Fix → List IV → List Value → Prop
  | nil {F : Fix} : RL F [] []
  | cons {F : Fix} {c : IV} {v : Value} {cs : List IV} {vs : List Value} (h : R F c v) (t : RL F cs vs) : RL F (c :: cs) (v :: vs)
end

theorem RL.length {F : Fix} : ∀ {cs : List IV} {vs : List Value}, RL F cs vs → cs.length = vs.length
  | _, _, .nil => rfl
  | _, _, .cons _ t => by simp [RL.length t]

theorem RL.get {F : Fix} : ∀ {cs : List IV} {vs : List Value}, RL F cs vs → ∀ (i : Nat) (c : IV), cs[i]? = some c → ∃ v, vs[i]? = some v ∧ R F c v
  | _, _, .nil, i, c, h => by simp at h
  | _, _, .cons (v := v) hv t, 0, c, h => by simp at h; subst h; exact ⟨v, rfl, hv⟩
  | _, _, .cons hv t, i + 1, c, h => by simp at h; obtain ⟨v, h1, h2⟩ := RL.get t i c h; exact ⟨v, by simpa using h1, h2⟩

theorem RL.getv {F : Fix} : ∀ {cs : List IV} {vs : List Value}, RL F cs vs → ∀ (i : Nat) (v : Value), vs[i]? = some v → ∃ c, cs[i]? = some c ∧ R F c v
  | _, _, .nil, i, c, h => by simp at h
  | _, _, .cons (c := c) hv t, 0, v, h => by simp at h; subst h; exact ⟨c, rfl, hv⟩
  | _, _, .cons hv t, i + 1, c, h => by simp at h; obtain ⟨v, h1, h2⟩ := RL.getv t i c h; exact ⟨v, by simpa using h1, h2⟩

theorem RL.of_get {F : Fix} : ∀ {cs : List IV} {vs : List Value}, cs.length = vs.length → (∀ (i : Nat) (c : IV) (v : Value), cs[i]? = some c → vs[i]? = some v → R F c v) → RL F cs vs
  | [], [], _, _ => .nil
  | c :: cs, v :: vs, h, k => .cons (k 0 c v rfl rfl) (RL.of_get (by simpa using h) fun i c v h1 h2 => k (i + 1) c v (by simpa using h1) (by simpa using h2))
  | [], _ :: _, h, _ => by simp at h
  | _ :: _, [], h, _ => by simp at h

theorem RL.append {F : Fix} : ∀ {cs ds : List IV} {vs us : List Value}, RL F cs vs → RL F ds us → RL F (cs ++ ds) (vs ++ us)
  | _, _, _, _, .nil, k => k
  | _, _, _, _, .cons h t, k => .cons h (RL.append t k)

theorem RL.take {F : Fix} : ∀ {cs : List IV} {vs : List Value} (n : Nat), RL F cs vs → RL F (cs.take n) (vs.take n)
  | _, _, 0, _ => by simpa using RL.nil
  | _, _, _ + 1, .nil => .nil
  | _, _, n + 1, .cons h t => .cons h (RL.take n t)

theorem RL.drop {F : Fix} : ∀ {cs : List IV} {vs : List Value} (n : Nat), RL F cs vs → RL F (cs.drop n) (vs.drop n)
  | _, _, 0, h => h
  | _, _, _ + 1, .nil => .nil
  | _, _, n + 1, .cons _ t => RL.drop n t

theorem RL.set {F : Fix} : ∀ {cs : List IV} {vs : List Value} (n : Nat) {c : IV} {v : Value}, RL F cs vs → R F c v → RL F (cs.set n c) (vs.set n v)
  | _, _, _, _, _, .nil, _ => .nil
  | _, _, 0, _, _, .cons _ t, k => .cons k t
  | _, _, n + 1, _, _, .cons h t, k => .cons h (RL.set n t k)

theorem RL.map_sc {F : Fix} : ∀ vs : List Value, RL F (vs.map .sc) vs
  | [] => .nil
  | v :: vs => .cons (.sc v) (RL.map_sc vs)

theorem Rdl.take {rd : Addr → Option Value} {b o : Nat} {vs : List Value} (h : Rdl rd b o vs) (n : Nat) : Rdl rd b o (vs.take n) := fun j v hj => by
  refine h j v ?_
  rw [List.getElem?_take] at hj
  split at hj
  · exact hj
  · cases hj

theorem Rdl.drop {rd : Addr → Option Value} {b o : Nat} {vs : List Value} (h : Rdl rd b o vs) (n : Nat) : Rdl rd b (o + n) (vs.drop n) := fun j v hj => by
  rw [List.getElem?_drop] at hj
  have := h (n + j) v hj
  rwa [← Nat.add_assoc] at this

/-- One tie goes on as another one: names keep their blocks, frozen memory stays. -/
structure Ext (F G : Fix) : Prop where
  base : G.base = F.base
  N : F.N ≤ G.N
  rd : ∀ a v, F.rd a = some v → G.rd a = some v
  blk : ∀ n, n < F.N → G.blk n = F.blk n
  bsz : ∀ n, n < F.N → G.bsz n = F.bsz n

theorem Ext.refl (F : Fix) : Ext F F := ⟨rfl, Nat.le_refl _, fun _ _ h => h, fun _ _ => rfl, fun _ _ => rfl⟩
theorem Ext.trans {F G H : Fix} (h : Ext F G) (k : Ext G H) : Ext F H :=
  ⟨k.base.trans h.base, Nat.le_trans h.N k.N, fun a v e => k.rd a v (h.rd a v e), fun n hn => (k.blk n (Nat.lt_of_lt_of_le hn h.N)).trans (h.blk n hn),
   fun n hn => (k.bsz n (Nat.lt_of_lt_of_le hn h.N)).trans (h.bsz n hn)⟩

/-- A weaker demand: what R asks of a tie. The base may sink, where no part is new. -/
structure Ext0 (F G : Fix) : Prop where
  base : G.base ≤ F.base
  N : F.N ≤ G.N
  rd : ∀ a v, F.rd a = some v → G.rd a = some v
  blk : ∀ n, n < F.N → G.blk n = F.blk n
  bsz : ∀ n, n < F.N → G.bsz n = F.bsz n

theorem Ext.weak {F G : Fix} (h : Ext F G) : Ext0 F G := ⟨Nat.le_of_eq h.base, h.N, h.rd, h.blk, h.bsz⟩
theorem Ext0.zero {F G : Fix} (h : Ext0 F G) : Ext0 { F with N := 0 } { G with N := 0 } := ⟨h.base, Nat.le_refl _, h.rd, fun n hn => absurd hn (Nat.not_lt_zero n), fun n hn => absurd hn (Nat.not_lt_zero n)⟩

mutual
theorem R.mono : ∀ {F G : Fix} {c : IV} {v : Value}, Ext0 F G → R F c v → R G c v
  | _, _, _, _, _, .any v => .any v
  | _, _, _, _, _, .sc v => .sc v
  | _, _, _, _, h, .agg k => .agg (RL.mono h k)
  | _, _, _, _, h, .tup k => .tup (RL.mono h k)
  | _, _, _, _, h, .ptr hn => by rw [← h.blk _ hn]; exact .ptr (Nat.lt_of_lt_of_le hn h.N)
  | _, _, _, _, h, .mp hn => by rw [← h.blk _ hn]; exact .mp (Nat.lt_of_lt_of_le hn h.N)
  | _, _, _, _, h, .fp hb hr k => .fp (fun e e' => Nat.le_trans h.base (hb e e')) (fun j v e => h.rd _ _ (hr j v e)) (RL.mono h.zero k)
  | _, _, _, _, h, .sl hn hl hc ho hs => by rw [← h.blk _ hn]; exact .sl (Nat.lt_of_lt_of_le hn h.N) hl hc ho (by rw [h.bsz _ hn]; exact hs)
  | _, _, _, _, h, .slnil hn => .slnil (Nat.lt_of_lt_of_le hn h.N)
  | _, _, _, _, h, .fz hb hr k hl => .fz (fun e e' => Nat.le_trans h.base (hb e e')) (fun j v e => h.rd _ _ (hr j v e)) (RL.mono h.zero k) hl
  | _, _, _, _, _, .fznil => .fznil
  | _, _, _, _, _, .fz0 => .fz0
  | _, _, _, _, h, .fn h1 h2 => .fn (RL.mono h h1) (RL.mono h h2)
theorem RL.mono : ∀ {F G : Fix} {cs : List IV} {vs : List Value}, Ext0 F G → RL F cs vs → RL G cs vs
  | _, _, _, _, _, .nil => .nil
  | _, _, _, _, h, .cons k t => .cons (R.mono h k) (RL.mono h t)
end

/-! ### Forms -/
mutual
/-- No name in it. -/
def IV.closed : IV → Bool
  | .any | .sc _ | .fp .. | .fz .. => true
  | .agg cs | .tup cs => IV.closedL cs
  | .ptr .. | .sl .. | .mp _ => false
  | .fn _ a b => IV.closedL a && IV.closedL b
def IV.closedL : List IV → Bool
  | [] => true
  | c :: cs => c.closed && IV.closedL cs
end

mutual
theorem R.shut : ∀ {F : Fix} {c : IV} {v : Value}, c.closed = true → R F c v → R { F with N := 0 } c v
  | _, _, _, _, .any v => .any v
  | _, _, _, _, .sc v => .sc v
  | _, _, _, h, .agg k => .agg (RL.shut (by simpa [IV.closed] using h) k)
  | _, _, _, h, .tup k => .tup (RL.shut (by simpa [IV.closed] using h) k)
  | _, _, _, h, .ptr _ => by simp [IV.closed] at h
  | _, _, _, h, .mp _ => by simp [IV.closed] at h
  | _, _, _, _, .fp hb hr k => .fp hb hr k
  | _, _, _, h, .sl .. => by simp [IV.closed] at h
  | _, _, _, h, .slnil _ => by simp [IV.closed] at h
  | _, _, _, _, .fz hb hr k hl => .fz hb hr k hl
  | _, _, _, _, .fznil => .fznil
  | _, _, _, _, .fz0 => .fz0
  | _, _, _, h, .fn h1 h2 => by
    simp only [IV.closed, Bool.and_eq_true] at h
    exact .fn (RL.shut h.1 h1) (RL.shut h.2 h2)
theorem RL.shut : ∀ {F : Fix} {cs : List IV} {vs : List Value}, IV.closedL cs = true → RL F cs vs → RL { F with N := 0 } cs vs
  | _, _, _, _, .nil => .nil
  | _, _, _, h, .cons k t => by
    simp only [IV.closedL, Bool.and_eq_true] at h
    exact .cons (R.shut h.1 k) (RL.shut h.2 t)
end

theorem Ext0.open0 (F : Fix) : Ext0 { F with N := 0 } F := ⟨Nat.le_refl _, Nat.zero_le _, fun _ _ h => h, fun n hn => absurd hn (Nat.not_lt_zero n), fun n hn => absurd hn (Nat.not_lt_zero n)⟩
theorem RL.opened {F : Fix} {cs : List IV} {vs : List Value} (h : RL { F with N := 0 } cs vs) : RL F cs vs := h.mono (Ext0.open0 F)
theorem R.opened {F : Fix} {c : IV} {v : Value} (h : R { F with N := 0 } c v) : R F c v := h.mono (Ext0.open0 F)

def IV.one : IV → Bool
  | .sc v => v.oneCell'
  | .ptr .. | .mp _ | .fp .. | .sl .. | .fz .. | .fn .. => true
  | .any | .agg _ | .tup _ => false
def IV.ones (cs : List IV) : Bool := cs.all IV.one

theorem R.one {F : Fix} {c : IV} {v : Value} (h : R F c v) (k : c.one = true) : v.oneCell' = true := by
  cases h <;> first | exact k | rfl | (simp [IV.one] at k)

theorem RL.ones {F : Fix} {cs : List IV} {vs : List Value} (h : RL F cs vs) (k : IV.ones cs = true) : ∀ v ∈ vs, v.oneCell' = true := by
  intro v hv
  obtain ⟨i, hi⟩ := List.getElem?_of_mem hv
  obtain ⟨c, hc, hr⟩ := h.getv i v hi
  exact hr.one (List.all_eq_true.1 k c (List.mem_of_getElem? hc))

def ofV : Value → IV
  | .agg cs => .agg (cs.toList.map .sc)
  | .tuple cs => .tup (cs.toList.map .sc)
  | .func f a b => .fn f (a.toList.map .sc) (b.toList.map .sc)
  | v => .sc v

theorem R.ofV {F : Fix} (v : Value) : R F (Idl.ofV v) v := by
  cases v with
  | agg cs => exact .agg (RL.map_sc cs.toList)
  | tuple cs => exact .tup (RL.map_sc cs.toList)
  | func f a b => exact .fn (RL.map_sc a.toList) (RL.map_sc b.toList)
  | _ => exact .sc _

def IV.cells : IV → List IV
  | .agg cs => cs
  | c => [c]

theorem R.cells {F : Fix} {c : IV} {v : Value} (h : R F c v) (hc : c ≠ .any) (hs : ∀ u, c = .sc u → u.oneCell' = true) : RL F c.cells v.cells.toList := by
  cases h with
  | any => exact absurd rfl hc
  | sc v => have := hs v rfl; cases v <;> first | exact .cons (.sc _) .nil | simp [Value.oneCell'] at this
  | agg k => exact k
  | tup k => exact .cons (.tup k) .nil
  | ptr hn => exact .cons (.ptr hn) .nil
  | mp hn => exact .cons (.mp hn) .nil
  | fp a b c => exact .cons (.fp a b c) .nil
  | sl a b c d e => exact .cons (.sl a b c d e) .nil
  | slnil a => exact .cons (.slnil a) .nil
  | fz a b c d => exact .cons (.fz a b c d) .nil
  | fznil => exact .cons .fznil .nil
  | fz0 => exact .cons .fz0 .nil
  | fn a b => exact .cons (.fn a b) .nil

end Go.Idl
