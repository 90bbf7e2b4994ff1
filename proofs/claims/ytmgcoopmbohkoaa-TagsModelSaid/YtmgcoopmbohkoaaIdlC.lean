/-
  Ideal heaps: writing cells of a named block; a new block.
-/
import Derived.Test.YtmgcoopmbohkoaaIdlB
namespace Go.Idl
open Go

def splice {α : Type} (l : List α) (o : Nat) (us : List α) : List α := l.take o ++ (us ++ l.drop (o + us.length))

theorem set_same {α : Type} : ∀ {l : List α} {n : Nat} {x : α}, l[n]? = some x → l.set n x = l
  | [], _, _, h => by simp at h
  | a :: l, 0, x, h => by simp at h; simp [h]
  | a :: l, n + 1, x, h => by simp at h; simp [set_same h]

theorem splice_nil {α : Type} (l : List α) (o : Nat) : splice l o [] = l := by simp [splice]
theorem splice_length {α : Type} (l : List α) (o : Nat) (us : List α) (h : o + us.length ≤ l.length) : (splice l o us).length = l.length := by
  simp [splice]; omega
theorem splice_cons {α : Type} (l : List α) (o : Nat) (u : α) (us : List α) (h : o + (us.length + 1) ≤ l.length) : splice (l.set o u) (o + 1) us = splice l o (u :: us) := by
  have h0 : o < l.length := by omega
  unfold splice
  rw [List.take_add_one, List.take_set_of_le (Nat.le_refl o), List.getElem?_set_self h0]
  simp only [Option.toList_some, List.append_assoc, List.length_cons, List.cons_append, List.nil_append]
  rw [List.drop_set_of_lt (by omega), show o + 1 + us.length = o + (us.length + 1) by omega]

theorem run_storeCells_at {P : Program} {b : Nat} {ty : TypeId} {lo hi : Nat} : ∀ (us : List Value) (o i : Nat) (w : World) (vs : Array Value), w.heap[b]? = some (.cells vs ty (lo, hi)) →
    o + i + us.length ≤ vs.size → (∀ k, k < vs.size → ¬(lo ≤ k ∧ k < hi)) → (∀ u ∈ us, u.oneCell' = true) →
    ∃ w', (storeCells ⟨b, o, none⟩ us i).run P w = .ok () w' ∧ w'.heap[b]? = some (.cells ⟨splice vs.toList (o + i) us⟩ ty (lo, hi)) ∧ (∀ k, k ≠ b → w'.heap[k]? = w.heap[k]?) ∧
      w'.heap.size = w.heap.size ∧ w'.os = w.os ∧ w'.tape = w.tape ∧ w'.output = w.output
  | [], o, i, w, vs, hb, _, _, _ => ⟨w, rfl, by rw [splice_nil]; exact hb, fun _ _ => rfl, rfl, rfl, rfl, rfl⟩
  | u :: us, o, i, w, vs, hb, hl, hf, hu => by
    simp only [List.length_cons] at hl
    have ha : (⟨b, o, none⟩ : Addr).add i = ⟨b, o + i, none⟩ := Addr.add_lit b o i
    have hc : w.cell? ⟨b, o + i, none⟩ = some (vs[o + i]'(by omega)) := by rw [cell_of_heap hb, Array.getElem?_eq_getElem]
    have hz : w.frozen? ⟨b, o + i, none⟩ = false := by
      simp only [World.frozen?, hb]
      have := hf (o + i) (by omega)
      simp only [Bool.and_eq_false_iff, decide_eq_false_iff_not]
      omega
    have hb' : (w.setCell ⟨b, o + i, none⟩ u).heap[b]? = some (.cells (vs.setIfInBounds (o + i) u) ty (lo, hi)) := by
      simp [World.setCell, Array.getElem?_modify, hb]
    obtain ⟨w', h1, h2, h3, h4, h5, h6, h7⟩ := run_storeCells_at (P := P) us o (i + 1) (w.setCell ⟨b, o + i, none⟩ u) (vs.setIfInBounds (o + i) u) hb' (by simp; omega) (by simpa using hf) (fun x hx => hu x (List.mem_cons_of_mem _ hx))
    refine ⟨w', ?_, ?_, fun k hk => ?_, ?_, h5, h6, h7⟩
    · show (storeCells ⟨b, o, none⟩ (u :: us) i).run P w = _
      unfold storeCells
      rw [Sem.run_bind, ha, run_store P w _ u .plain (hu u (List.mem_cons_self ..)), hc]
      simp only [hz, Bool.false_eq_true, if_false, Result.andThen]
      exact h1
    · rw [h2, Array.toList_setIfInBounds, ← Nat.add_assoc, splice_cons _ _ _ _ (by simp; omega)]
    · rw [h3 k hk]; exact RowKit.Below.heap_setCell _ _ _ _ hk
    · rw [h4]; simp [World.setCell]

def hset (h : List HO) (n : Nat) (cells : List IV) : List HO :=
  match h[n]? with
  | some (.arr b _) => h.set n (.arr b cells)
  | some (.box _) => h.set n (.box cells)
  | _ => h

theorem hset_get {h : List HO} {n : Nat} {cs cs' : List IV} (e : hcells h n = some cs) :
    (h[n]? = some (.box cs) ∧ hset h n cs' = h.set n (.box cs')) ∨ ∃ b, h[n]? = some (.arr b cs) ∧ hset h n cs' = h.set n (.arr b cs') := by
  obtain ⟨o, ho, h1 | ⟨b, h1⟩⟩ := hcells_get e
  · subst h1; exact .inl ⟨ho, by simp [hset, ho]⟩
  · subst h1; exact .inr ⟨b, ho, by simp [hset, ho]⟩

def hclosed (h : List HO) (n : Nat) (ds : List IV) : Bool :=
  match h[n]? with
  | some (.arr _ _) => IV.closedL ds
  | _ => true

theorem RL.splice {F : Fix} {cs ds : List IV} {vs us : List Value} (h : RL F cs vs) (k : RL F ds us) (o : Nat) : RL F (Idl.splice cs o ds) (Idl.splice vs o us) := by
  unfold Idl.splice
  rw [k.length]
  exact (h.take o).append (k.append (h.drop _))

theorem splice_prefix {α : Type} {pre suf us : List α} {o : Nat} (h : o + us.length ≤ pre.length) : splice (pre ++ suf) o us = splice pre o us ++ suf := by
  unfold splice
  rw [List.take_append_of_le_length (by omega), List.drop_append_of_le_length (by omega)]
  simp [List.append_assoc]

theorem HIn.write {F : Fix} {h : List HO} {w w' : World} (hi : HIn F h w) {n : Nat} {cs : List IV} (e : hcells h n = some cs) {o : Nat} {ds : List IV} {us : List Value}
    (hl : o + ds.length ≤ cs.length) (hr : RL F ds us) (hc : hclosed h n ds = true ∨ RL { F with N := 0 } ds us)
    (hw : ∀ vs ty lo hi', w.heap[F.blk n]? = some (.cells vs ty (lo, hi')) → o + us.length ≤ vs.size → (∀ k, k < vs.size → ¬(lo ≤ k ∧ k < hi')) →
      w'.heap[F.blk n]? = some (.cells ⟨Idl.splice vs.toList o us⟩ ty (lo, hi')) ∧ (∀ k, k ≠ F.blk n → w'.heap[k]? = w.heap[k]?) ∧ w'.heap.size = w.heap.size ∧ w'.os = w.os ∧ w'.tape = w.tape ∧ w'.output = w.output)
    (h0 : us = [] → w' = w) : HStep F F h (hset h n (Idl.splice cs o ds)) w w' := by
  have hlen := hr.length
  rcases hi.read e with ⟨hb, hcs⟩ | ⟨vs, ty, lo, hi', pre, suf, h2, h3, h4, h5, h6⟩
  · subst hcs
    have : ds = [] := by cases ds with | nil => rfl | cons => simp at hl
    subst this
    have : us = [] := by cases us with | nil => rfl | cons => simp at hlen
    rw [h0 this, splice_nil]
    have : hset h n [] = h := by
      rcases hset_get (cs' := []) e with ⟨h1, h2⟩ | ⟨b, h1, h2⟩ <;> rw [h2] <;> exact set_same h1
    rw [this]; exact HStep.refl hi
  have hpl : cs.length = pre.length := h6.length
  have hvl : pre.length ≤ vs.size := by have := congrArg List.length h5; simp at this; omega
  obtain ⟨w1, w2, w3, w4, w5, w6⟩ := hw vs ty lo hi' h2 (by omega) h4
  have hlen2 : (hset h n (Idl.splice cs o ds)).length = h.length := by
    rcases hset_get (cs' := Idl.splice cs o ds) e with ⟨_, h1⟩ | ⟨b, _, h1⟩ <;> rw [h1] <;> simp
  have hlive : ∀ m, live (hset h n (Idl.splice cs o ds)) m → live h m := by
    rintro m ⟨x, hx, hd⟩
    rcases hset_get (cs' := Idl.splice cs o ds) e with ⟨h1, h2⟩ | ⟨b, h1, h2⟩ <;> rw [h2] at hx <;> (by_cases hm : n = m)
    · subst hm; exact ⟨_, h1, by simp⟩
    · rw [List.getElem?_set_ne hm] at hx; exact ⟨x, hx, hd⟩
    · subst hm; exact ⟨_, h1, by simp⟩
    · rw [List.getElem?_set_ne hm] at hx; exact ⟨x, hx, hd⟩
  have hnl : live h n := by
    rcases hset_get (cs' := cs) e with ⟨h1, _⟩ | ⟨b, h1, _⟩ <;> exact ⟨_, h1, by simp⟩
  have hnb : F.bsz n ≠ 0 ∨ vs.size = 0 := by omega
  have hsize : F.bsz n = (Idl.splice vs.toList o us).length := by rw [splice_length _ _ _ (by simp; omega)]; simp [h3]
  -- the other names' blocks stand as they did
  have hother : ∀ m, m ≠ n → live h m → F.bsz m ≠ 0 → w'.heap[F.blk m]? = w.heap[F.blk m]? := fun m hm hl' hb' => by
    by_cases hz : F.bsz n = 0
    · -- nothing was written: the block n has no cells
      by_cases hb2 : F.blk m = F.blk n
      · rw [hb2, w1, h2]
        have hv0 : vs.toList = [] := List.length_eq_zero_iff.1 (by rw [Array.length_toList]; omega)
        have hu0 : us = [] := List.length_eq_zero_iff.1 (by omega)
        rw [hu0, splice_nil]
      · exact w2 _ hb2
    · exact w2 _ fun e' => hm (hi.inj m n hl' hnl hb' hz e')
  refine ⟨Ext.refl F, ⟨by rw [hlen2]; exact hi.N, fun a v ha => ?_, fun m x hx => ?_, fun a b ha hb => hi.inj a b (hlive a ha) (hlive b hb), fun a ha => hi.dis a (hlive a ha)⟩, ⟨w4, w5, w6, by omega, fun k hk hE => ?_⟩, fun m hm hb => .inr ⟨m, hlive m hm, hb, rfl⟩, fun a v ha => .inl ha⟩
  · have h7 := hi.rd a v ha
    by_cases hab : a.block = F.blk n
    · by_cases hz : F.bsz n = 0
      · have hu0 : us = [] := List.length_eq_zero_iff.1 (by have := congrArg Array.size (rfl : vs = vs); omega)
        rw [h0 hu0]; exact h7
      · exact absurd hab (hi.dis n hnl hz a v ha)
    · rw [← h7]; simp only [World.cell?]; rw [w2 _ hab]
  · -- what each name holds
    by_cases hm : n = m
    · subst hm
      have hrs := hr
      rcases hset_get (cs' := Idl.splice cs o ds) e with ⟨h1, h8⟩ | ⟨b, h1, h8⟩
      · rw [h8, List.getElem?_set_self (lt_of_get h1)] at hx
        cases hx
        rcases hi.obj n _ h1 with ⟨hz, hcs⟩ | ⟨vs', ty', lo', hi'', k2, k3, k4, p, s, k6, k7⟩
        · left; refine ⟨hz, ?_⟩; subst hcs; have : ds = [] := by cases ds with | nil => rfl | cons => simp at hl
          subst this; simp [Idl.splice]
        · rw [h2] at k2; cases k2
          refine .inr ⟨_, _, _, _, w1, by rw [← h3]; simp [← hsize, h3], fun q hq => h4 q (by have : (⟨Idl.splice vs.toList o us⟩ : Array Value).size = (Idl.splice vs.toList o us).length := rfl; omega), Idl.splice p o us, s, ?_, k7.splice hr o⟩
          have := k7.length
          rw [← splice_prefix (by omega), ← k6]
      · rw [h8, List.getElem?_set_self (lt_of_get h1)] at hx
        cases hx
        rcases hi.obj n _ h1 with ⟨hz, hcs⟩ | ⟨vs', ty', lo', hi'', k2, k3, k4, k5, p, s, k6, k7⟩
        · left; refine ⟨hz, ?_⟩; subst hcs; have : ds = [] := by cases ds with | nil => rfl | cons => simp at hl
          subst this; simp [Idl.splice]
        · rw [h2] at k2; cases k2
          have hcl : RL { F with N := 0 } ds us := by
            rcases hc with hc | hc
            · exact RL.shut (by simpa [hclosed, h1] using hc) hr
            · exact hc
          refine .inr ⟨_, _, _, _, w1, by rw [← h3]; simp [← hsize, h3], fun q hq => h4 q (by have : (⟨Idl.splice vs.toList o us⟩ : Array Value).size = (Idl.splice vs.toList o us).length := rfl; omega), k5, Idl.splice p o us, s, ?_, k7.splice hcl o⟩
          have := k7.length
          rw [← splice_prefix (by omega), ← k6]
    · have hx' : h[m]? = some x := by
        rcases hset_get (cs' := Idl.splice cs o ds) e with ⟨_, h8⟩ | ⟨b, _, h8⟩ <;> rw [h8, List.getElem?_set_ne hm] at hx <;> exact hx
      have ho := hi.obj m x hx'
      cases x with
      | dead => trivial
      | arr nw cells =>
        rcases ho with h7 | ⟨vs', ty', lo', hi'', k2, k3⟩
        · exact .inl h7
        · by_cases hz : F.bsz m = 0
          · left; refine ⟨hz, ?_⟩
            obtain ⟨k3, _, _, p, s, k6, k7⟩ := k3
            have h9 : p = [] := by have := congrArg List.length k6; simp at this; cases p with | nil => rfl | cons => simp at this; omega
            subst h9; cases k7; rfl
          · exact .inr ⟨vs', ty', lo', hi'', by rw [hother m (Ne.symm hm) ⟨_, hx', by simp⟩ hz]; exact k2, k3⟩
      | box cells =>
        rcases ho with h7 | ⟨vs', ty', lo', hi'', k2, k3⟩
        · exact .inl h7
        · by_cases hz : F.bsz m = 0
          · left; refine ⟨hz, ?_⟩
            obtain ⟨k3, _, p, s, k6, k7⟩ := k3
            have h9 : p = [] := by have := congrArg List.length k6; simp at this; cases p with | nil => rfl | cons => simp at this; omega
            subst h9; cases k7; rfl
          · exact .inr ⟨vs', ty', lo', hi'', by rw [hother m (Ne.symm hm) ⟨_, hx', by simp⟩ hz]; exact k2, k3⟩
      | mp es c => exact ⟨ho.1, by rw [hother m (Ne.symm hm) ⟨_, hx', by simp⟩ (by rw [ho.1]; decide)]; exact ho.2⟩
      | it q a b c => exact ⟨ho.1, ho.2.1, by rw [hother m (Ne.symm hm) ⟨_, hx', by simp⟩ (by rw [ho.1]; decide)]; exact ho.2.2⟩
  · -- the frame
    by_cases hb : k = F.blk n
    · by_cases hz : F.bsz n = 0
      · have hu0 : us = [] := List.length_eq_zero_iff.1 (by omega)
        rw [h0 hu0]
      · exact absurd ⟨n, hnl, hz, hb.symm⟩ hE
    · exact w2 k hb

end Go.Idl
