/-
  Ideal heaps: how named blocks lie in a world; what a step may change; reading, writing, new blocks.
-/
import Derived.Test.YtmgcoopmbohkoaaIdlA
namespace Go.Idl
open Go

def OIn (F : Fix) (w : World) (n : Nat) : HO → Prop
  | .arr new cells => (F.bsz n = 0 ∧ cells = []) ∨ ∃ vs ty lo hi, w.heap[F.blk n]? = some (.cells vs ty (lo, hi)) ∧ vs.size = F.bsz n ∧ (∀ o, o < vs.size → ¬(lo ≤ o ∧ o < hi)) ∧
      (new = true → F.base ≤ F.blk n) ∧ ∃ pre suf, vs.toList = pre ++ suf ∧ RL { F with N := 0 } cells pre
  | .box cells => (F.bsz n = 0 ∧ cells = []) ∨ ∃ vs ty lo hi, w.heap[F.blk n]? = some (.cells vs ty (lo, hi)) ∧ vs.size = F.bsz n ∧ (∀ o, o < vs.size → ¬(lo ≤ o ∧ o < hi)) ∧ ∃ pre suf, vs.toList = pre ++ suf ∧ RL F cells pre
  | .dead => True
  | .mp es clock => F.bsz n = 1 ∧ w.heap[F.blk n]? = some (.map es clock)
  | .it m since seen last => F.bsz n = 1 ∧ m < F.N ∧ w.heap[F.blk n]? = some (.mapIter (some (F.blk m)) since seen last)

def live (h : List HO) (n : Nat) : Prop := ∃ o, h[n]? = some o ∧ o ≠ .dead

structure HIn (F : Fix) (h : List HO) (w : World) : Prop where
  N : F.N = h.length
  rd : ∀ a v, F.rd a = some v → w.cell? a = some v
  obj : ∀ n o, h[n]? = some o → OIn F w n o
  inj : ∀ m n, live h m → live h n → F.bsz m ≠ 0 → F.bsz n ≠ 0 → F.blk m = F.blk n → m = n
  dis : ∀ n, live h n → F.bsz n ≠ 0 → ∀ a v, F.rd a = some v → a.block ≠ F.blk n

/-- Only blocks of E may have turned. -/
structure Fr (E : Nat → Prop) (w w' : World) : Prop where
  os : w'.os = w.os
  tape : w'.tape = w.tape
  output : w'.output = w.output
  size : w.heap.size ≤ w'.heap.size
  block : ∀ k, k < w.heap.size → ¬E k → w'.heap[k]? = w.heap[k]?

theorem Fr.refl (E : Nat → Prop) (w : World) : Fr E w w := ⟨rfl, rfl, rfl, Nat.le_refl _, fun _ _ _ => rfl⟩
theorem Fr.drew {E : Nat → Prop} {w w' : World} (h : Fr E w w') : Fr E w w'.drew := ⟨h.os, h.tape, h.output, h.size, h.block⟩

def Nm (F : Fix) (h : List HO) (b : Nat) : Prop := ∃ n, live h n ∧ F.bsz n ≠ 0 ∧ F.blk n = b

/-- A step from a heap to a heap. -/
structure HStep (F G : Fix) (h h' : List HO) (w w' : World) : Prop where
  ext : Ext F G
  hin : HIn G h' w'
  fr : Fr (Nm F h) w w'
  own : ∀ n, live h' n → G.bsz n ≠ 0 → w.heap.size ≤ G.blk n ∨ Nm F h (G.blk n)
  rdn : ∀ a v, G.rd a = some v → F.rd a = some v ∨ F.base ≤ a.block

theorem HStep.refl {F : Fix} {h : List HO} {w : World} (hi : HIn F h w) : HStep F F h h w w :=
  ⟨Ext.refl F, hi, Fr.refl _ w, fun n hl hb => .inr ⟨n, hl, hb, rfl⟩, fun _ _ h => .inl h⟩

theorem HIn.drew {F : Fix} {h : List HO} {w : World} (hi : HIn F h w) : HIn F h w.drew := ⟨hi.N, hi.rd, hi.obj, hi.inj, hi.dis⟩
theorem HStep.drew {F G : Fix} {h h' : List HO} {w w' : World} (s : HStep F G h h' w w') : HStep F G h h' w w'.drew :=
  ⟨s.ext, s.hin.drew, s.fr.drew, s.own, s.rdn⟩
theorem HStep.drewL {F G : Fix} {h h' : List HO} {w w' : World} (s : HStep F G h h' w.drew w') : HStep F G h h' w w' :=
  ⟨s.ext, s.hin, ⟨s.fr.os, s.fr.tape, s.fr.output, s.fr.size, s.fr.block⟩, s.own, s.rdn⟩

theorem HStep.trans {F G K : Fix} {h h' h'' : List HO} {w w' w'' : World} (s : HStep F G h h' w w') (t : HStep G K h' h'' w' w'') : HStep F K h h'' w w'' where
  ext := s.ext.trans t.ext
  hin := t.hin
  fr := ⟨t.fr.os.trans s.fr.os, t.fr.tape.trans s.fr.tape, t.fr.output.trans s.fr.output, Nat.le_trans s.fr.size t.fr.size, fun k hk hE => by
    rw [t.fr.block k (Nat.lt_of_lt_of_le hk s.fr.size) ?_, s.fr.block k hk hE]
    rintro ⟨n, hl, hb, e⟩
    rcases s.own n hl hb with h1 | h1
    · rw [e] at h1; omega
    · rw [e] at h1; exact hE h1⟩
  own := fun n hl hb => by
    rcases t.own n hl hb with h1 | ⟨m, hm, hm', e⟩
    · exact .inl (Nat.le_trans s.fr.size h1)
    · rw [← e]; exact s.own m hm hm'
  rdn := fun a v e => by
    rcases t.rdn a v e with h1 | h1
    · exact s.rdn a v h1
    · exact .inr (by rw [s.ext.base] at h1; exact h1)

/-! ### Reading -/
theorem lt_of_get {α : Type} {l : List α} {n : Nat} {x : α} (e : l[n]? = some x) : n < l.length := by
  rcases Nat.lt_or_ge n l.length with h | h
  · exact h
  · rw [List.getElem?_eq_none h] at e; cases e

def HO.cells : HO → Option (List IV)
  | .arr _ cs | .box cs => some cs
  | _ => none

def hcells (h : List HO) (n : Nat) : Option (List IV) :=
  match h[n]? with
  | some (.arr _ cs) | some (.box cs) => some cs
  | _ => none

theorem cell_of_heap {w : World} {b : Nat} {vs : Array Value} {ty : TypeId} {fr : Nat × Nat} (h : w.heap[b]? = some (.cells vs ty fr)) (o : Nat) : w.cell? ⟨b, o, none⟩ = vs[o]? := by
  simp [World.cell?, h]

theorem hcells_get {h : List HO} {n : Nat} {cs : List IV} (e : hcells h n = some cs) : ∃ o, h[n]? = some o ∧ (o = .box cs ∨ ∃ b, o = .arr b cs) := by
  unfold hcells at e
  split at e <;> simp at e
  · subst e; exact ⟨_, by assumption, .inr ⟨_, rfl⟩⟩
  · subst e; exact ⟨_, by assumption, .inl rfl⟩

theorem HIn.read {F : Fix} {h : List HO} {w : World} (hi : HIn F h w) {n : Nat} {cs : List IV} (e : hcells h n = some cs) :
    (F.bsz n = 0 ∧ cs = []) ∨ ∃ vs ty lo hi' pre suf, w.heap[F.blk n]? = some (.cells vs ty (lo, hi')) ∧ vs.size = F.bsz n ∧ (∀ o, o < vs.size → ¬(lo ≤ o ∧ o < hi')) ∧ vs.toList = pre ++ suf ∧ RL F cs pre := by
  obtain ⟨o, ho, h1 | ⟨b, h1⟩⟩ := hcells_get e
  · subst h1
    rcases hi.obj n _ ho with h2 | ⟨vs, ty, lo, hi', h2, h3, h4, pre, suf, h5, h6⟩
    · exact .inl h2
    · exact .inr ⟨vs, ty, lo, hi', pre, suf, h2, h3, h4, h5, h6⟩
  · subst h1
    rcases hi.obj n _ ho with h2 | ⟨vs, ty, lo, hi', h2, h3, h4, h5, pre, suf, h6, h7⟩
    · exact .inl h2
    · exact .inr ⟨vs, ty, lo, hi', pre, suf, h2, h3, h4, h6, h7.opened⟩

theorem HIn.cell {F : Fix} {h : List HO} {w : World} (hi : HIn F h w) {n : Nat} {cs : List IV} (e : hcells h n = some cs) {o : Nat} {c : IV} (hc : cs[o]? = some c) :
    ∃ v, w.cell? ⟨F.blk n, o, none⟩ = some v ∧ R F c v := by
  rcases hi.read e with ⟨_, h2⟩ | ⟨vs, ty, lo, hi', pre, suf, h2, h3, h4, h5, h6⟩
  · subst h2; simp at hc
  · obtain ⟨v, hv, hr⟩ := h6.get o c hc
    refine ⟨v, ?_, hr⟩
    rw [cell_of_heap h2, ← Array.getElem?_toList, h5, List.getElem?_append_left (lt_of_get hv), hv]

theorem HIn.cells {F : Fix} {h : List HO} {w : World} (hi : HIn F h w) {n : Nat} {cs : List IV} (e : hcells h n = some cs) (o k : Nat) (hk : o + k ≤ cs.length) :
    ∃ us, us.length = k ∧ RL F ((cs.drop o).take k) us ∧ ∀ j v, us[j]? = some v → w.cell? ⟨F.blk n, o + j, none⟩ = some v := by
  rcases hi.read e with ⟨_, h2⟩ | ⟨vs, ty, lo, hi', pre, suf, h2, h3, h4, h5, h6⟩
  · subst h2
    have : k = 0 := by simp at hk; omega
    subst this
    exact ⟨[], rfl, by simpa using RL.nil, fun j v hj => by simp at hj⟩
  · refine ⟨(pre.drop o).take k, ?_, (h6.drop o).take k, fun j v hj => ?_⟩
    · have := h6.length; simp; omega
    · rw [List.getElem?_take] at hj
      split at hj
      · rw [List.getElem?_drop] at hj
        rw [cell_of_heap h2, ← Array.getElem?_toList, h5, List.getElem?_append_left (lt_of_get hj), hj]
      · cases hj

theorem HIn.blk_lt {F : Fix} {h : List HO} {w : World} (hi : HIn F h w) {n : Nat} (hl : live h n) (hb : F.bsz n ≠ 0) : F.blk n < w.heap.size := by
  obtain ⟨o, ho, hd⟩ := hl
  have key : ∀ {x : Obj}, w.heap[F.blk n]? = some x → F.blk n < w.heap.size := fun {x} e => by
    rcases Nat.lt_or_ge (F.blk n) w.heap.size with h' | h'
    · exact h'
    · rw [Array.getElem?_eq_none h'] at e; cases e
  cases o with
  | dead => exact absurd rfl hd
  | arr b cs =>
    rcases hi.obj n _ ho with ⟨h2, _⟩ | ⟨vs, ty, lo, hi', h2, _⟩
    · exact absurd h2 hb
    · exact key h2
  | box cs =>
    rcases hi.obj n _ ho with ⟨h2, _⟩ | ⟨vs, ty, lo, hi', h2, _⟩
    · exact absurd h2 hb
    · exact key h2
  | mp es c => exact key (hi.obj n _ ho).2
  | it m a b c => exact key (hi.obj n _ ho).2.2

end Go.Idl
