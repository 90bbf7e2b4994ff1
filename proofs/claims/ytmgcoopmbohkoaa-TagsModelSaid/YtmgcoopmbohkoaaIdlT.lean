/-
  Ideal states: a call, by what its callee does.
-/
import Derived.Test.YtmgcoopmbohkoaaIdlS
namespace Go.Idl
open Go

def vwHO (H : List HO) (π : List Nat) : HO → Option (List Prop × HO)
  | .arr _ cs => some ([], .arr false (IV.relabL cs))
  | .box cs => match vwL H π cs with | some (p, ds) => some (p, .box ds) | none => none
  | .mp es c => some ([], .mp es c)
  | _ => none
def vwHs (H : List HO) (π : List Nat) : List Nat → Option (List Prop × List HO)
  | [] => some ([], [])
  | n :: r =>
    match H[n]? with
    | some o => match vwHO H π o, vwHs H π r with | some (p, x), some (q, xs) => some (p ++ q, x :: xs) | _, _ => none
    | none => none

theorem vwHs_length {H : List HO} {π : List Nat} : ∀ {r : List Nat} {ps : List Prop} {h : List HO}, vwHs H π r = some (ps, h) → h.length = r.length
  | [], _, _, e => by cases e; rfl
  | n :: r, _, _, e => by
    unfold vwHs at e
    split at e
    · split at e
      · rename_i hr; cases e; simp [vwHs_length hr]
      · cases e
    · cases e

theorem vwHs_get {H : List HO} {π : List Nat} : ∀ {r : List Nat} {ps : List Prop} {h : List HO}, vwHs H π r = some (ps, h) → AllP ps → ∀ (j n : Nat), r[j]? = some n →
    ∃ o p x, H[n]? = some o ∧ vwHO H π o = some (p, x) ∧ AllP p ∧ h[j]? = some x
  | [], _, _, _, _, j, n, hj => by simp at hj
  | m :: r, _, _, e, hp, j, n, hj => by
    unfold vwHs at e
    split at e
    · rename_i o ho
      split at e
      · rename_i p x q xs h1 h2
        cases e
        cases j with
        | zero => simp at hj; subst hj; exact ⟨o, p, x, ho, h1, (AllP.append hp).1, rfl⟩
        | succ j =>
          obtain ⟨o', p', x', k1, k2, k3, k4⟩ := vwHs_get h2 (AllP.append hp).2 j n (by simpa using hj)
          exact ⟨o', p', x', k1, k2, k3, by simpa using k4⟩
      · cases e
    · cases e

def callee (H : List HO) (π : List Nat) (n : Nat) : Option Nat :=
  match π[n]? with
  | some m => some m
  | none => some (H.length + (n - π.length))

def reflag (b : Bool) : HO → HO
  | .arr b' cs => .arr (b || b') cs
  | o => o

def putBack (σ : Nat → Option Nat) : List HO → List Nat → List HO → List HO
  | H, n :: π, o :: h => putBack σ (H.set n (reflag (flagOf H n) (o.ren σ))) π h
  | H, _, _ => H

def renHs (σ : Nat → Option Nat) : List HO → List HO
  | [] => []
  | o :: r => o.ren σ :: renHs σ r

def mergeH (H : List HO) (π : List Nat) (h' : List HO) : List HO := putBack (callee H π) H π h' ++ renHs (callee H π) (h'.drop π.length)

theorem renHs_get {σ : Nat → Option Nat} : ∀ {h : List HO} {i : Nat}, (renHs σ h)[i]? = (h[i]?).map (HO.ren σ)
  | [], _ => by simp [renHs]
  | _ :: _, 0 => by simp [renHs]
  | _ :: h, i + 1 => by simp [renHs, renHs_get (h := h)]
theorem renHs_length {σ : Nat → Option Nat} : ∀ h : List HO, (renHs σ h).length = h.length
  | [] => rfl
  | _ :: h => by simp [renHs, renHs_length h]

theorem putBack_length {σ : Nat → Option Nat} : ∀ {H : List HO} {π : List Nat} {h : List HO}, (putBack σ H π h).length = H.length
  | H, [], h => by cases h <;> rfl
  | H, n :: π, [] => rfl
  | H, n :: π, o :: h => by unfold putBack; rw [putBack_length]; simp

theorem putBack_other {σ : Nat → Option Nat} : ∀ {H : List HO} {π : List Nat} {h : List HO} {m : Nat}, m ∉ π → (putBack σ H π h)[m]? = H[m]?
  | H, [], h, m, _ => by cases h <;> rfl
  | H, n :: π, [], m, _ => rfl
  | H, n :: π, o :: h, m, hm => by
    unfold putBack
    rw [putBack_other (fun h => hm (List.mem_cons_of_mem _ h)), List.getElem?_set_ne (fun e => hm (by rw [e]; exact List.mem_cons_self ..))]

theorem flagOf_set {H : List HO} {n m : Nat} {o : HO} (h : n ≠ m) : flagOf (H.set n o) m = flagOf H m := by
  unfold flagOf; rw [List.getElem?_set_ne h]

theorem putBack_at {σ : Nat → Option Nat} : ∀ {H : List HO} {π : List Nat} {h : List HO} {j n : Nat} {o : HO}, π.Nodup → π[j]? = some n → n < H.length → h[j]? = some o →
    (putBack σ H π h)[n]? = some (reflag (flagOf H n) (o.ren σ))
  | H, [], h, j, n, o, _, hj, _, _ => by simp at hj
  | H, m :: π, [], j, n, o, _, _, _, ho => by simp at ho
  | H, m :: π, x :: h, 0, n, o, hn, hj, hl, ho => by
    simp at hj ho; subst hj ho
    unfold putBack
    rw [putBack_other (List.nodup_cons.1 hn).1, List.getElem?_set_self hl]
  | H, m :: π, x :: h, j + 1, n, o, hn, hj, hl, ho => by
    simp at hj ho
    have hne : m ≠ n := fun e => (List.nodup_cons.1 hn).1 (by rw [e]; exact List.mem_of_getElem? hj)
    unfold putBack
    rw [putBack_at (List.nodup_cons.1 hn).2 hj (by simpa using hl) ho, flagOf_set hne]

theorem OIn.reflag {F : Fix} {w : World} {n : Nat} {x : HO} {b : Bool} (h : OIn F w n x) (hb : F.bsz n ≠ 0 → b = true → F.base ≤ F.blk n) : OIn F w n (Idl.reflag b x) := by
  cases x with
  | arr nw cells =>
    rcases h with h | ⟨vs, ty, lo, hi, k1, k2, k3, k4, p, s, k5, k6⟩
    · exact .inl h
    · by_cases hz : F.bsz n = 0
      · left
        have h9 : p = [] := by have := congrArg List.length k5; simp at this; cases p with | nil => rfl | cons => simp at this; omega
        subst h9; cases k6; exact ⟨hz, rfl⟩
      · exact .inr ⟨vs, ty, lo, hi, k1, k2, k3, fun h => by
          simp only [Bool.or_eq_true] at h
          rcases h with h | h
          · exact hb hz h
          · exact k4 h, p, s, k5, k6⟩
  | box cells => exact h
  | mp es c => exact h
  | it m a b' c => exact h
  | dead => trivial

theorem reflag_dead {b : Bool} {x : HO} (h : reflag b x ≠ .dead) : x ≠ .dead := by rintro rfl; exact h rfl

section
variable {P : Program} {k : Nat} {s : St} {ops : Array Oper} {rest : List Oper} {o : Oper} {K : St → Prop}

open Classical in
noncomputable def Fix.small (F : Fix) (π : List Nat) (w : World) : Fix :=
  { base := w.heap.size, N := π.length, blk := fun j => F.blk (π.getD j 0), bsz := fun j => F.bsz (π.getD j 0),
    rd := fun a => if (∃ n ∈ π, F.bsz n ≠ 0 ∧ a.block = F.blk n) then none else w.cell? a }

theorem Fix.small_ok {F : Fix} {H : List HO} {w : World} (hi : HIn F H w) {π : List Nat} (hl : ∀ n ∈ π, live H n) : Small F (F.small π w) H π w where
  hin := hi
  N := rfl
  blk := fun j n hj => by simp [Fix.small, List.getD, hj]
  rd := fun a v ha hb => by
    show (if _ then _ else _) = _
    rw [if_neg (by rintro ⟨n, h1, h2, h3⟩; exact hb n h1 h2 h3)]; exact ha
  lv := hl
  lt := fun n hn => by obtain ⟨o, ho, _⟩ := hl n hn; rw [hi.N]; exact lt_of_get ho

theorem Fix.small_hin {F : Fix} {H : List HO} {w : World} (hi : HIn F H w) {π : List Nat} (hn : π.Nodup) {ps : List Prop} {h : List HO} (e : vwHs H π π = some (ps, h)) (hp : AllP ps) (hl : ∀ n ∈ π, live H n) : HIn (F.small π w) h w := by
  have hs := Fix.small_ok hi hl
  have hlen := vwHs_length e
  have hget : ∀ {j : Nat}, live h j → ∃ n, π[j]? = some n := by
    rintro j ⟨x, hx, _⟩
    have := lt_of_get hx
    rw [hlen] at this
    exact ⟨_, List.getElem?_eq_getElem this⟩
  refine ⟨by rw [hs.N, hlen], fun a v ha => ?_, fun j x hx => ?_, fun a b ha hb h1 h2 e' => ?_, fun j hj hb a v ha => ?_⟩
  · have ha' : (if (∃ n ∈ π, F.bsz n ≠ 0 ∧ a.block = F.blk n) then none else w.cell? a) = some v := ha
    split at ha'
    · cases ha'
    · exact ha'
  · have hj : j < π.length := by have := lt_of_get hx; omega
    obtain ⟨o, p, x', k1, k2, k3, k4⟩ := vwHs_get e hp j _ (List.getElem?_eq_getElem hj)
    rw [k4] at hx; cases hx
    obtain ⟨b1, b2⟩ := hs.blk j _ (List.getElem?_eq_getElem hj)
    have ho := hi.obj _ _ k1
    cases o with
    | dead => cases k2
    | arr nw cells =>
      cases k2
      rcases ho with ho | ⟨vs, ty, lo, hi', q1, q2, q3, q4, p, s, q5, q6⟩
      · left; rw [b2]; refine ⟨ho.1, ?_⟩; rw [ho.2]; rfl
      · exact .inr ⟨vs, ty, lo, hi', by rw [b1]; exact q1, by rw [b2]; exact q2, q3, (fun h => by cases h), p, s, q5, RL.relab hs.ext0 q6⟩
    | box cells =>
      simp only [vwHO] at k2
      split at k2
      · rename_i p' ds hv
        cases k2
        rcases ho with ho | ⟨vs, ty, lo, hi', q1, q2, q3, p, s, q5, q6⟩
        · left; rw [b2]; refine ⟨ho.1, ?_⟩; rw [ho.2] at hv; simp only [vwL] at hv; cases hv; rfl
        · exact .inr ⟨vs, ty, lo, hi', by rw [b1]; exact q1, by rw [b2]; exact q2, q3, p, s, q5, vwL_sound hs q6 hv k3⟩
      · cases k2
    | mp es c => cases k2; exact ⟨by rw [b2]; exact ho.1, by rw [b1]; exact ho.2⟩
    | it m a b c => cases k2
  · obtain ⟨n1, p1⟩ := hget ha
    obtain ⟨n2, p2⟩ := hget hb
    rw [(hs.blk a n1 p1).1, (hs.blk b n2 p2).1] at e'
    rw [(hs.blk a n1 p1).2] at h1; rw [(hs.blk b n2 p2).2] at h2
    have := hi.inj n1 n2 (hl n1 (List.mem_of_getElem? p1)) (hl n2 (List.mem_of_getElem? p2)) h1 h2 e'
    subst this
    have q1 := get_inv hn p1
    have q2 := get_inv hn p2
    rw [q1] at q2; exact Option.some.inj q2
  · obtain ⟨n1, p1⟩ := hget hj
    have ha' : (if (∃ n ∈ π, F.bsz n ≠ 0 ∧ a.block = F.blk n) then none else w.cell? a) = some v := ha
    split at ha'
    · cases ha'
    · rename_i hno
      rw [(hs.blk j n1 p1).1]; rw [(hs.blk j n1 p1).2] at hb
      exact fun e => hno ⟨n1, List.mem_of_getElem? p1, hb, e⟩

theorem wp_call_enter {P : Program} {o : Oper} {a : Act} {w : World} {next : Act → World → Prop} {Q : Exit → Act → World → Prop} {f : FuncId} {args : Array Value} {R : Ending → World → Prop}
    (hrun : (execOp a.eval o).run P w = .ok (.enter f args) w) (hc : Calls P f args w R) (hR : ∀ e w', R e w' → ∃ v, e = .returned v ∧ next (a.put o.dst v) w') : o.wp P a w next Q := by
  unfold Oper.wp
  rw [hrun]
  refine Calls.mono hc fun e w' h => ?_
  obtain ⟨v, he, hk⟩ := hR e w' h
  subst he
  exact hk

def Fix.big (F G : Fix) (π : List Nat) : Fix :=
  { base := F.base, N := F.N + (G.N - π.length), blk := fun n => if n < F.N then F.blk n else G.blk (π.length + (n - F.N)), bsz := fun n => if n < F.N then F.bsz n else G.bsz (π.length + (n - F.N)),
    rd := fun a => match F.rd a with | some v => some v | none => G.news.rd a }

theorem call_step {F G : Fix} {H h h' : List HO} {w w' : World} (hi : HIn F H w) (hbase : F.base ≤ w.heap.size) {π : List Nat} (hn : π.Nodup) (hl : ∀ n ∈ π, live H n) (hlen : h.length = π.length)
    (st : HStep (F.small π w) G h h' w w') (hf : h'.all HO.fresh = true) : HStep F (F.big G π) H (mergeH H π h') w w' ∧ Ren G.news (F.big G π) (callee H π) := by
  have hs := Fix.small_ok hi hl
  have hN := hi.N
  have gN := st.hin.N
  have gb : G.base = w.heap.size := st.ext.base
  have gk : π.length ≤ G.N := by have := st.ext.N; rwa [hs.N] at this
  have gblk : ∀ {j n : Nat}, π[j]? = some n → G.blk j = F.blk n ∧ G.bsz j = F.bsz n := fun {j n} hj => by
    have hlt : j < (F.small π w).N := by rw [hs.N]; exact lt_of_get hj
    rw [st.ext.blk j hlt, st.ext.bsz j hlt]; exact hs.blk j n hj
  have hnm : ∀ b, Nm (F.small π w) h b → ∃ n ∈ π, live H n ∧ F.bsz n ≠ 0 ∧ F.blk n = b := by
    rintro b ⟨j, ⟨x, hx, _⟩, h2, h3⟩
    have hj : j < π.length := by have := lt_of_get hx; omega
    have hp := List.getElem?_eq_getElem hj
    obtain ⟨b1, b2⟩ := hs.blk j _ hp
    exact ⟨π[j], List.getElem_mem hj, hl _ (List.getElem_mem hj), by rw [← b2]; exact h2, by rw [← b1]; exact h3⟩
  have hnm' : ∀ b, Nm (F.small π w) h b → Nm F H b := fun b hb => by
    obtain ⟨n, _, h1, h2, h3⟩ := hnm b hb; exact ⟨n, h1, h2, h3⟩
  have σj : ∀ {j n : Nat}, π[j]? = some n → callee H π j = some n := fun {j n} hj => by simp [callee, hj]
  have σn : ∀ {j : Nat}, π.length ≤ j → callee H π j = some (H.length + (j - π.length)) := fun {j} hj => by simp [callee, List.getElem?_eq_none hj]
  -- a callee's name, in the caller
  have name : ∀ n m, n < G.N → callee H π n = some m → m < (F.big G π).N ∧ (F.big G π).blk m = G.blk n ∧ (F.big G π).bsz m = G.bsz n := by
    intro n m hn' hm
    by_cases hk : n < π.length
    · have hp := List.getElem?_eq_getElem hk
      rw [σj hp] at hm; cases hm
      have hlt := hs.lt _ (List.getElem_mem hk)
      refine ⟨by show _ < F.N + _; omega, ?_, ?_⟩
      · show (if _ then _ else _) = _; rw [if_pos hlt]; exact (gblk hp).1.symm
      · show (if _ then _ else _) = _; rw [if_pos hlt]; exact (gblk hp).2.symm
    · rw [σn (by omega)] at hm; cases hm
      refine ⟨by show _ < F.N + (G.N - π.length); omega, ?_, ?_⟩
      · show (if _ then _ else _) = _; rw [if_neg (by omega)]; congr 1; omega
      · show (if _ then _ else _) = _; rw [if_neg (by omega)]; congr 1; omega
  have blkF : ∀ n, n < F.N → (F.big G π).blk n = F.blk n ∧ (F.big G π).bsz n = F.bsz n := fun n hn' => ⟨if_pos hn', if_pos hn'⟩
  have ext : Ext F (F.big G π) := ⟨rfl, Nat.le_add_right _ _, fun a v ha => by show (match F.rd a with | some v => some v | none => _) = _; rw [ha], fun n hn' => (blkF n hn').1, fun n hn' => (blkF n hn').2⟩
  have newrd : ∀ a v, G.news.rd a = some v → w.heap.size ≤ a.block ∧ G.rd a = some v := fun a v ha => by
    have ha' : (if G.base ≤ a.block then G.rd a else none) = some v := ha
    split at ha'
    · rename_i hle; exact ⟨by rw [← gb]; exact hle, ha'⟩
    · cases ha'
  have oldrd : ∀ a v, F.rd a = some v → a.block < w.heap.size := fun a v ha => World.block_lt_of_cell? _ _ (hi.rd a v ha)
  have ren : Ren G.news (F.big G π) (callee H π) := ⟨by show F.base ≤ G.base; rw [gb]; exact hbase, fun a v ha => by
    obtain ⟨h1, _⟩ := newrd a v ha
    have : F.rd a = none := by
      cases hF : F.rd a with
      | none => rfl
      | some u => have := oldrd a u hF; omega
    show (match F.rd a with | some v => some v | none => G.news.rd a) = _
    rw [this]; exact ha, name⟩
  have hkh : π.length ≤ h'.length := by omega
  -- each name of the caller's is an old one, or the callee's
  have part : ∀ m x, (mergeH H π h')[m]? = some x → (m < F.N ∧ m ∉ π ∧ H[m]? = some x) ∨ ∃ j o, j < G.N ∧ callee H π j = some m ∧ h'[j]? = some o ∧ ∃ b, x = reflag b (o.ren (callee H π)) ∧ (b = true → m < F.N ∧ m ∈ π ∧ flagOf H m = true) := by
    intro m x hx
    by_cases hm : m < H.length
    · unfold mergeH at hx
      rw [List.getElem?_append_left (by rw [putBack_length]; exact hm)] at hx
      by_cases hp : m ∈ π
      · obtain ⟨j, hj⟩ := List.getElem?_of_mem hp
        have hjl := lt_of_get hj
        have ho := List.getElem?_eq_getElem (l := h') (i := j) (by omega)
        rw [putBack_at hn hj hm ho] at hx
        cases hx
        exact .inr ⟨j, h'[j], by omega, σj hj, ho, flagOf H m, rfl, fun hb => ⟨by omega, hp, hb⟩⟩
      · rw [putBack_other hp] at hx
        exact .inl ⟨by omega, hp, hx⟩
    · unfold mergeH at hx
      rw [List.getElem?_append_right (by rw [putBack_length]; omega), putBack_length, renHs_get, List.getElem?_drop] at hx
      obtain ⟨o, h1, h2⟩ := Option.map_eq_some_iff.1 hx
      refine .inr ⟨π.length + (m - H.length), o, by have := lt_of_get h1; omega, ?_, h1, false, ?_, fun h => by cases h⟩
      · rw [σn (by omega)]; congr 1; omega
      · rw [← h2]
        cases o with
        | it q a b c => simp only [HO.ren]; cases callee H π q <;> rfl
        | _ => simp [reflag, HO.ren]
  have partL : ∀ m, live (mergeH H π h') m → (m < F.N ∧ m ∉ π ∧ live H m) ∨ ∃ j, j < G.N ∧ callee H π j = some m ∧ live h' j := by
    rintro m ⟨x, hx, hd⟩
    rcases part m x hx with ⟨h1, h2, h3⟩ | ⟨j, o, h1, h2, h3, b, h4, _⟩
    · exact .inl ⟨h1, h2, x, h3, hd⟩
    · exact .inr ⟨j, h1, h2, o, h3, by rw [h4] at hd; exact HO.ren_dead (reflag_dead hd)⟩
  have where_ : ∀ j, live h' j → G.bsz j ≠ 0 → w.heap.size ≤ G.blk j ∨ ∃ n ∈ π, live H n ∧ F.bsz n ≠ 0 ∧ F.blk n = G.blk j := fun j hj hb => by
    rcases st.own j hj hb with h1 | h1
    · exact .inl h1
    · exact .inr (hnm _ h1)
  have apart : ∀ m j, m < F.N → m ∉ π → live H m → F.bsz m ≠ 0 → live h' j → G.bsz j ≠ 0 → F.blk m ≠ G.blk j := fun m j hm hp hlm hbm hj hbj e => by
    rcases where_ j hj hbj with h1 | ⟨n, h1, h2, h3, h4⟩
    · have := hi.blk_lt hlm hbm; omega
    · exact hp (by rw [hi.inj m n hlm h2 hbm h3 (by rw [h4, e])]; exact h1)
  have hold : ∀ m, m < F.N → m ∉ π → live H m → F.bsz m ≠ 0 → w'.heap[F.blk m]? = w.heap[F.blk m]? := fun m hm hp hlm hbm =>
    st.fr.block _ (hi.blk_lt hlm hbm) fun hnmm => by
      obtain ⟨n, h1, h2, h3, h4⟩ := hnm _ hnmm
      exact hp (by rw [hi.inj m n hlm h2 hbm h3 h4.symm]; exact h1)
  refine ⟨⟨ext, ⟨?_, fun a v ha => ?_, fun m x hx => ?_, fun a b ha hb h1 h2 e => ?_, fun m hm hb a v ha => ?_⟩, ⟨st.fr.os, st.fr.tape, st.fr.output, st.fr.size, fun q hq hE => st.fr.block q hq fun h1 => hE (hnm' q h1)⟩, fun m hm hb => ?_, fun a v ha => ?_⟩, ren⟩
  · show F.N + (G.N - π.length) = _
    unfold mergeH
    rw [List.length_append, putBack_length, renHs_length, List.length_drop]; omega
  · have ha' : (match F.rd a with | some v => some v | none => G.news.rd a) = some v := ha
    split at ha'
    · rename_i u hu
      cases ha'
      have h1 := hi.rd a v hu
      rw [← h1]
      simp only [World.cell?]
      rw [st.fr.block _ (oldrd a v hu) fun hnmm => by
        obtain ⟨n, h1, h2, h3, h4⟩ := hnm _ hnmm
        exact hi.dis n h2 h3 a v hu h4.symm]
    · exact st.hin.rd a v (newrd a v ha').2
  · rcases part m x hx with ⟨h1, h2, h3⟩ | ⟨j, o, h1, h2, h3, b, h4, h5⟩
    · exact (hi.obj m x h3).mono ext h1 fun hz hd => hold m h1 h2 ⟨x, h3, hd⟩ hz
    · rw [h4]
      have hfr : o.fresh = true := List.all_eq_true.1 hf o (List.mem_of_getElem? h3)
      have ho := ((st.hin.obj j o h3).news hfr).ren (w' := w') ren h1 h2 fun _ _ => rfl
      refine ho.reflag fun hz hb => ?_
      obtain ⟨q1, q2, q3⟩ := h5 hb
      rw [(blkF m q1).1]
      rw [(blkF m q1).2] at hz
      show F.base ≤ F.blk m
      unfold flagOf at q3
      split at q3
      · rename_i b' cs hH
        subst q3
        rcases hi.obj m _ hH with ⟨k1, _⟩ | ⟨vs, ty, lo, hi', k1, k2, k3, k4, _⟩
        · exact absurd k1 hz
        · exact k4 rfl
      · cases q3
  · rcases partL a ha with ⟨a1, a2, a3⟩ | ⟨j1, a1, a2, a3⟩ <;> rcases partL b hb with ⟨b1, b2, b3⟩ | ⟨j2, b1, b2, b3⟩
    · rw [(blkF a a1).1, (blkF b b1).1] at e; rw [(blkF a a1).2] at h1; rw [(blkF b b1).2] at h2
      exact hi.inj a b a3 b3 h1 h2 e
    · obtain ⟨_, c1, c2⟩ := name j2 b b1 b2
      rw [(blkF a a1).1, c1] at e; rw [(blkF a a1).2] at h1; rw [c2] at h2
      exact absurd e (apart a j2 a1 a2 a3 h1 b3 h2)
    · obtain ⟨_, c1, c2⟩ := name j1 a a1 a2
      rw [(blkF b b1).1, c1] at e; rw [(blkF b b1).2] at h2; rw [c2] at h1
      exact absurd e.symm (apart b j1 b1 b2 b3 h2 a3 h1)
    · obtain ⟨_, c1, c2⟩ := name j1 a a1 a2
      obtain ⟨_, d1, d2⟩ := name j2 b b1 b2
      rw [c1, d1] at e; rw [c2] at h1; rw [d2] at h2
      have := st.hin.inj j1 j2 a3 b3 h1 h2 e
      subst this
      rw [a2] at b2; exact Option.some.inj b2
  · have ha' : (match F.rd a with | some v => some v | none => G.news.rd a) = some v := ha
    rcases partL m hm with ⟨m1, m2, m3⟩ | ⟨j, m1, m2, m3⟩
    · rw [(blkF m m1).1]; rw [(blkF m m1).2] at hb
      split at ha'
      · rename_i u hu; cases ha'; exact hi.dis m m3 hb a v hu
      · have := (newrd a v ha').1; have := hi.blk_lt m3 hb; omega
    · obtain ⟨_, c1, c2⟩ := name j m m1 m2
      rw [c1]; rw [c2] at hb
      split at ha'
      · rename_i u hu; cases ha'
        rcases where_ j m3 hb with q | ⟨n, q1, q2, q3, q4⟩
        · have := oldrd a v hu; omega
        · rw [← q4]; exact hi.dis n q2 q3 a v hu
      · exact st.hin.dis j m3 hb a v (newrd a v ha').2
  · rcases partL m hm with ⟨m1, m2, m3⟩ | ⟨j, m1, m2, m3⟩
    · right; rw [(blkF m m1).1]; rw [(blkF m m1).2] at hb; exact ⟨m, m3, hb, rfl⟩
    · obtain ⟨_, c1, c2⟩ := name j m m1 m2
      rw [c1]; rw [c2] at hb
      rcases where_ j m3 hb with q | ⟨n, q1, q2, q3, q4⟩
      · exact .inl q
      · exact .inr ⟨n, q2, q3, q4⟩
  · have ha' : (match F.rd a with | some v => some v | none => G.news.rd a) = some v := ha
    split at ha'
    · rename_i u hu; cases ha'; exact .inl hu
    · right; have := (newrd a v ha').1; omega

def St.after (s : St) (π : List Nat) (d : Option Tmp) (y : IV) (h' : List HO) : St := s.next d (y.ren (callee s.h π)) (mergeH s.h π h')

def liveB (H : List HO) (n : Nat) : Bool := match H[n]? with | some (.arr _ _) | some (.box _) => true | _ => false
theorem liveB_spec {H : List HO} {n : Nat} (h : liveB H n = true) : live H n := by
  unfold liveB at h
  split at h
  · exact ⟨_, by assumption, by simp⟩
  · exact ⟨_, by assumption, by simp⟩
  · cases h

end
end Go.Idl
