/-
  Ideal states: a call whose answer may hold memory that its arguments held: nothing of the caller's freezes for it.
-/
import Derived.Test.YtmgcoopmbohkoaaIdlMo
import Derived.Test.YtmgcoopmbohkoaaIdlTr
namespace Go.Idl
open Go
set_option linter.unusedVariables false

def liveM (H : List HO) (n : Nat) : Bool := match H[n]? with | some (.arr _ _) | some (.box _) | some (.mp _ _) => true | _ => false
theorem liveM_spec {H : List HO} {n : Nat} (h : liveM H n = true) : live H n := by
  unfold liveM at h
  split at h
  · exact ⟨_, by assumption, by simp⟩
  · exact ⟨_, by assumption, by simp⟩
  · exact ⟨_, by assumption, by simp⟩
  · cases h
/-- What a call does, of any ties of its arguments. -/
structure SpecA (P : Program) (f : FuncId) (xs : List IV) (h : List HO) (K : IV → List HO → Prop) : Prop where
  call : ∀ args w, (callFunc f args).run P w = .ok (.enter f args) w
  runs : ∀ F w vs, F.base ≤ w.heap.size → HIn F h w → RL F xs vs → Calls P f ⟨vs⟩ w fun e w' => ∃ v G y h', e = .returned v ∧ K y h' ∧ HStep F G h h' w w' ∧ R G y v

theorem Spec.al {P : Program} {f : FuncId} {xs : List IV} {h : List HO} {K : IV → List HO → Prop} (s : Spec P f xs h K) : SpecA P f xs h K := ⟨s.call, s.runs⟩
theorem SpecA.mono {P : Program} {f : FuncId} {xs : List IV} {h : List HO} {K K' : IV → List HO → Prop} (s : SpecA P f xs h K) (hk : ∀ y h', K y h' → K' y h') : SpecA P f xs h K' :=
  ⟨s.call, fun F w vs a b c => (s.runs F w vs a b c).mono fun _ _ ⟨v, G, y, h', h1, h2, h3, h4⟩ => ⟨v, G, y, h', h1, hk y h' h2, h3, h4⟩⟩

def vaO (σ : Nat → Option Nat) : HO → HO
  | .arr _ cs => .arr false (IV.relabL cs)
  | .box cs => .box (IV.renL σ (IV.relabL cs))
  | .mp es c => .mp es c
  | _ => .dead
def vaH (H : List HO) (σ : Nat → Option Nat) : List Nat → List HO
  | [] => []
  | n :: r => (match H[n]? with | some o => vaO σ o | none => .dead) :: vaH H σ r
theorem vaH_length {H : List HO} {σ : Nat → Option Nat} : ∀ π : List Nat, (vaH H σ π).length = π.length
  | [] => rfl
  | _ :: r => by simp [vaH, vaH_length r]
theorem vaH_get {H : List HO} {σ : Nat → Option Nat} : ∀ {π : List Nat} {j n : Nat}, π[j]? = some n → (vaH H σ π)[j]? = some (match H[n]? with | some o => vaO σ o | none => .dead)
  | [], j, n, h => by simp at h
  | m :: r, 0, n, h => by simp at h; subst h; rfl
  | m :: r, j + 1, n, h => by
    have := vaH_get (H := H) (σ := σ) (π := r) (j := j) (n := n) (by simpa using h)
    simpa [vaH] using this

def Fix.smallA (F : Fix) (π : List Nat) (w : World) : Fix :=
  { base := w.heap.size, N := π.length, blk := fun j => F.blk (π.getD j 0), bsz := fun j => F.bsz (π.getD j 0), rd := F.rd }
theorem smallA_at {F : Fix} {π : List Nat} {w : World} {j n : Nat} (h : π[j]? = some n) : (F.smallA π w).blk j = F.blk n ∧ (F.smallA π w).bsz j = F.bsz n := by simp [Fix.smallA, List.getD, h]
theorem smallA_extN {F : Fix} {π : List Nat} {w : World} : ExtN { F with N := 0 } { F.smallA π w with N := 0 } := ⟨Nat.le_refl _, fun _ _ h => h, fun n hn => absurd hn (Nat.not_lt_zero n), fun n hn => absurd hn (Nat.not_lt_zero n)⟩
theorem smallA_ren {F : Fix} {π : List Nat} {w : World} : Ren { F with base := w.heap.size } (F.smallA π w) (inv π) :=
  ⟨Nat.le_refl _, fun _ _ h => h, fun n m hn hm => by
    have hg := inv_get hm
    obtain ⟨h1, h2⟩ := smallA_at (F := F) (w := w) hg
    exact ⟨lt_of_get hg, h1, h2⟩⟩
theorem RL.seen {F : Fix} {π : List Nat} {w : World} {cs : List IV} {vs : List Value} (h : RL F cs vs) : RL (F.smallA π w) (IV.renL (inv π) (IV.relabL cs)) vs :=
  RL.ren smallA_ren (RL.relab (F := F) (G := { F with base := w.heap.size }) (show ExtN F { F with base := w.heap.size } from ⟨Nat.le_refl _, fun _ _ h => h, fun _ _ => rfl, fun _ _ => rfl⟩) h)

theorem smallA_hin {F : Fix} {H : List HO} {w : World} (hi : HIn F H w) {π : List Nat} (hn : π.Nodup) (hl : ∀ n ∈ π, live H n) : HIn (F.smallA π w) (vaH H (inv π) π) w := by
  have hget : ∀ {j : Nat}, live (vaH H (inv π) π) j → ∃ n, π[j]? = some n := by
    rintro j ⟨x, hx, _⟩
    have := lt_of_get hx
    rw [vaH_length] at this
    exact ⟨_, List.getElem?_eq_getElem this⟩
  refine ⟨(vaH_length π).symm, hi.rd, fun j x hx => ?_, fun a b ha hb h1 h2 e' => ?_, fun j hj hb a v ha => ?_⟩
  · have hj : j < π.length := by have := lt_of_get hx; rwa [vaH_length] at this
    have hp := List.getElem?_eq_getElem hj
    rw [vaH_get hp] at hx
    obtain ⟨b1, b2⟩ := smallA_at (F := F) (w := w) hp
    cases hx
    obtain ⟨o, ho', hd⟩ := hl _ (List.getElem_mem hj)
    rw [ho']
    have ho := hi.obj _ _ ho'
    cases o with
    | dead => exact absurd rfl hd
    | arr nw cells =>
      rcases ho with ho | ⟨vs, ty, lo, hi', q1, q2, q3, q4, p, s, q5, q6⟩
      · left; rw [b2]; refine ⟨ho.1, ?_⟩; rw [ho.2]; rfl
      · exact .inr ⟨vs, ty, lo, hi', by rw [b1]; exact q1, by rw [b2]; exact q2, q3, (fun h => by cases h), p, s, q5, RL.relab smallA_extN q6⟩
    | box cells =>
      rcases ho with ho | ⟨vs, ty, lo, hi', q1, q2, q3, p, s, q5, q6⟩
      · left; rw [b2]; refine ⟨ho.1, ?_⟩; rw [ho.2]; rfl
      · exact .inr ⟨vs, ty, lo, hi', by rw [b1]; exact q1, by rw [b2]; exact q2, q3, p, s, q5, RL.seen q6⟩
    | mp es c => exact ⟨by rw [b2]; exact ho.1, by rw [b1]; exact ho.2⟩
    | it m a b c => trivial
  · obtain ⟨n1, p1⟩ := hget ha
    obtain ⟨n2, p2⟩ := hget hb
    rw [(smallA_at p1).1, (smallA_at p2).1] at e'
    rw [(smallA_at p1).2] at h1; rw [(smallA_at p2).2] at h2
    have := hi.inj n1 n2 (hl n1 (List.mem_of_getElem? p1)) (hl n2 (List.mem_of_getElem? p2)) h1 h2 e'
    subst this
    have q1 := get_inv hn p1
    have q2 := get_inv hn p2
    rw [q1] at q2; exact Option.some.inj q2
  · obtain ⟨n1, p1⟩ := hget hj
    rw [(smallA_at p1).1]; rw [(smallA_at p1).2] at hb
    exact hi.dis n1 (hl n1 (List.mem_of_getElem? p1)) hb a v ha

def Fix.bigA (F G : Fix) (π : List Nat) : Fix :=
  { base := F.base, N := F.N + (G.N - π.length), blk := fun n => if n < F.N then F.blk n else G.blk (π.length + (n - F.N)), bsz := fun n => if n < F.N then F.bsz n else G.bsz (π.length + (n - F.N)), rd := G.rd }

theorem call_stepA {F G : Fix} {H h h' : List HO} {w w' : World} (hi : HIn F H w) (hbase : F.base ≤ w.heap.size) {π : List Nat} (hn : π.Nodup) (hl : ∀ n ∈ π, live H n) (hlen : h.length = π.length)
    (st : HStep (F.smallA π w) G h h' w w') : HStep F (F.bigA G π) H (mergeH H π h') w w' ∧ Ren G (F.bigA G π) (callee H π) := by
  have hN := hi.N
  have gN := st.hin.N
  have gb : G.base = w.heap.size := st.ext.base
  have gk : π.length ≤ G.N := st.ext.N
  have hlt : ∀ n, n ∈ π → n < F.N := fun n hm => by obtain ⟨o, ho, _⟩ := hl n hm; rw [hi.N]; exact lt_of_get ho
  have gblk : ∀ {j n : Nat}, π[j]? = some n → G.blk j = F.blk n ∧ G.bsz j = F.bsz n := fun {j n} hj => by
    have hlt : j < (F.smallA π w).N := lt_of_get hj
    rw [st.ext.blk j hlt, st.ext.bsz j hlt]; exact smallA_at hj
  have hnm : ∀ b, Nm (F.smallA π w) h b → ∃ n ∈ π, live H n ∧ F.bsz n ≠ 0 ∧ F.blk n = b := by
    rintro b ⟨j, ⟨x, hx, _⟩, h2, h3⟩
    have hj : j < π.length := by have := lt_of_get hx; omega
    have hp := List.getElem?_eq_getElem hj
    obtain ⟨b1, b2⟩ := smallA_at (F := F) (w := w) hp
    exact ⟨π[j], List.getElem_mem hj, hl _ (List.getElem_mem hj), by rw [← b2]; exact h2, by rw [← b1]; exact h3⟩
  have hnm' : ∀ b, Nm (F.smallA π w) h b → Nm F H b := fun b hb => by
    obtain ⟨n, _, h1, h2, h3⟩ := hnm b hb; exact ⟨n, h1, h2, h3⟩
  have σj : ∀ {j n : Nat}, π[j]? = some n → callee H π j = some n := fun {j n} hj => by simp [callee, hj]
  have σn : ∀ {j : Nat}, π.length ≤ j → callee H π j = some (H.length + (j - π.length)) := fun {j} hj => by simp [callee, List.getElem?_eq_none hj]
  have name : ∀ n m, n < G.N → callee H π n = some m → m < (F.bigA G π).N ∧ (F.bigA G π).blk m = G.blk n ∧ (F.bigA G π).bsz m = G.bsz n := by
    intro n m hn' hm
    by_cases hk : n < π.length
    · have hp := List.getElem?_eq_getElem hk
      rw [σj hp] at hm; cases hm
      have hlt := hlt _ (List.getElem_mem hk)
      refine ⟨by show _ < F.N + _; omega, ?_, ?_⟩
      · show (if _ then _ else _) = _; rw [if_pos hlt]; exact (gblk hp).1.symm
      · show (if _ then _ else _) = _; rw [if_pos hlt]; exact (gblk hp).2.symm
    · rw [σn (by omega)] at hm; cases hm
      refine ⟨by show _ < F.N + (G.N - π.length); omega, ?_, ?_⟩
      · show (if _ then _ else _) = _; rw [if_neg (by omega)]; congr 1; omega
      · show (if _ then _ else _) = _; rw [if_neg (by omega)]; congr 1; omega
  have blkF : ∀ n, n < F.N → (F.bigA G π).blk n = F.blk n ∧ (F.bigA G π).bsz n = F.bsz n := fun n hn' => ⟨if_pos hn', if_pos hn'⟩
  have ext : Ext F (F.bigA G π) := ⟨rfl, Nat.le_add_right _ _, fun a v ha => st.ext.rd a v ha, fun n hn' => (blkF n hn').1, fun n hn' => (blkF n hn').2⟩
  have grd : ∀ a v, G.rd a = some v → F.rd a = some v ∨ w.heap.size ≤ a.block := fun a v ha => st.rdn a v ha
  have oldrd : ∀ a v, F.rd a = some v → a.block < w.heap.size := fun a v ha => World.block_lt_of_cell? _ _ (hi.rd a v ha)
  have ren : Ren G (F.bigA G π) (callee H π) := ⟨by show F.base ≤ G.base; rw [gb]; exact hbase, fun a v ha => ha, name⟩
  have hkh : π.length ≤ h'.length := by omega
  have part : ∀ m x, (mergeH H π h')[m]? = some x → (m < F.N ∧ m ∉ π ∧ H[m]? = some x) ∨ ∃ j o, j < G.N ∧ callee H π j = some m ∧ h'[j]? = some o ∧ ∃ b, x = reflag b (o.ren (callee H π)) ∧ (b = true → m < F.N ∧ m ∈ π ∧ flagOf H m = true) := by
    intro m x hx
    by_cases hm : m < H.length
    · unfold mergeH at hx
      rw [List.getElem?_append_left (by rw [putBack_length]; exact hm)] at hx
      by_cases hp : m ∈ π
      · obtain ⟨j, hj⟩ := List.getElem?_of_mem hp
        have hjl := lt_of_get hj
        have ho := List.getElem?_eq_getElem (l := h') (i := j) (by omega)
        rw [putBack_at hn hj hm ho] at hx
        cases hx
        exact .inr ⟨j, h'[j], by omega, σj hj, ho, flagOf H m, rfl, fun hb => ⟨by omega, hp, hb⟩⟩
      · rw [putBack_other hp] at hx
        exact .inl ⟨by omega, hp, hx⟩
    · unfold mergeH at hx
      rw [List.getElem?_append_right (by rw [putBack_length]; omega), putBack_length, renHs_get, List.getElem?_drop] at hx
      obtain ⟨o, h1, h2⟩ := Option.map_eq_some_iff.1 hx
      refine .inr ⟨π.length + (m - H.length), o, by have := lt_of_get h1; omega, ?_, h1, false, ?_, fun h => by cases h⟩
      · rw [σn (by omega)]; congr 1; omega
      · rw [← h2]
        cases o with
        | it q a b c => simp only [HO.ren]; cases callee H π q <;> rfl
        | _ => simp [reflag, HO.ren]
  have partL : ∀ m, live (mergeH H π h') m → (m < F.N ∧ m ∉ π ∧ live H m) ∨ ∃ j, j < G.N ∧ callee H π j = some m ∧ live h' j := by
    rintro m ⟨x, hx, hd⟩
    rcases part m x hx with ⟨h1, h2, h3⟩ | ⟨j, o, h1, h2, h3, b, h4, _⟩
    · exact .inl ⟨h1, h2, x, h3, hd⟩
    · exact .inr ⟨j, h1, h2, o, h3, by rw [h4] at hd; exact HO.ren_dead (reflag_dead hd)⟩
  have where_ : ∀ j, live h' j → G.bsz j ≠ 0 → w.heap.size ≤ G.blk j ∨ ∃ n ∈ π, live H n ∧ F.bsz n ≠ 0 ∧ F.blk n = G.blk j := fun j hj hb => by
    rcases st.own j hj hb with h1 | h1
    · exact .inl h1
    · exact .inr (hnm _ h1)
  have apart : ∀ m j, m < F.N → m ∉ π → live H m → F.bsz m ≠ 0 → live h' j → G.bsz j ≠ 0 → F.blk m ≠ G.blk j := fun m j hm hp hlm hbm hj hbj e => by
    rcases where_ j hj hbj with h1 | ⟨n, h1, h2, h3, h4⟩
    · have := hi.blk_lt hlm hbm; omega
    · exact hp (by rw [hi.inj m n hlm h2 hbm h3 (by rw [h4, e])]; exact h1)
  have hold : ∀ m, m < F.N → m ∉ π → live H m → F.bsz m ≠ 0 → w'.heap[F.blk m]? = w.heap[F.blk m]? := fun m hm hp hlm hbm =>
    st.fr.block _ (hi.blk_lt hlm hbm) fun hnmm => by
      obtain ⟨n, h1, h2, h3, h4⟩ := hnm _ hnmm
      exact hp (by rw [hi.inj m n hlm h2 hbm h3 h4.symm]; exact h1)
  refine ⟨⟨ext, ⟨?_, fun a v ha => st.hin.rd a v ha, fun m x hx => ?_, fun a b ha hb h1 h2 e => ?_, fun m hm hb a v ha => ?_⟩, ⟨st.fr.os, st.fr.tape, st.fr.output, st.fr.size, fun q hq hE => st.fr.block q hq fun h1 => hE (hnm' q h1)⟩, fun m hm hb => ?_, fun a v ha => ?_⟩, ren⟩
  · show F.N + (G.N - π.length) = _
    unfold mergeH
    rw [List.length_append, putBack_length, renHs_length, List.length_drop]; omega
  · rcases part m x hx with ⟨h1, h2, h3⟩ | ⟨j, o, h1, h2, h3, b, h4, h5⟩
    · exact (hi.obj m x h3).mono ext h1 fun hz hd => hold m h1 h2 ⟨x, h3, hd⟩ hz
    · rw [h4]
      have ho := (st.hin.obj j o h3).ren (w' := w') ren h1 h2 fun _ _ => rfl
      refine ho.reflag fun hz hb => ?_
      obtain ⟨q1, q2, q3⟩ := h5 hb
      rw [(blkF m q1).1]
      rw [(blkF m q1).2] at hz
      show F.base ≤ F.blk m
      unfold flagOf at q3
      split at q3
      · rename_i b' cs hH
        subst q3
        rcases hi.obj m _ hH with ⟨k1, _⟩ | ⟨vs, ty, lo, hi', k1, k2, k3, k4, _⟩
        · exact absurd k1 hz
        · exact k4 rfl
      · cases q3
  · rcases partL a ha with ⟨a1, a2, a3⟩ | ⟨j1, a1, a2, a3⟩ <;> rcases partL b hb with ⟨b1, b2, b3⟩ | ⟨j2, b1, b2, b3⟩
    · rw [(blkF a a1).1, (blkF b b1).1] at e; rw [(blkF a a1).2] at h1; rw [(blkF b b1).2] at h2
      exact hi.inj a b a3 b3 h1 h2 e
    · obtain ⟨_, c1, c2⟩ := name j2 b b1 b2
      rw [(blkF a a1).1, c1] at e; rw [(blkF a a1).2] at h1; rw [c2] at h2
      exact absurd e (apart a j2 a1 a2 a3 h1 b3 h2)
    · obtain ⟨_, c1, c2⟩ := name j1 a a1 a2
      rw [(blkF b b1).1, c1] at e; rw [(blkF b b1).2] at h2; rw [c2] at h1
      exact absurd e.symm (apart b j1 b1 b2 b3 h2 a3 h1)
    · obtain ⟨_, c1, c2⟩ := name j1 a a1 a2
      obtain ⟨_, d1, d2⟩ := name j2 b b1 b2
      rw [c1, d1] at e; rw [c2] at h1; rw [d2] at h2
      have := st.hin.inj j1 j2 a3 b3 h1 h2 e
      subst this
      rw [a2] at b2; exact Option.some.inj b2
  · rcases partL m hm with ⟨m1, m2, m3⟩ | ⟨j, m1, m2, m3⟩
    · rw [(blkF m m1).1]; rw [(blkF m m1).2] at hb
      rcases grd a v ha with hu | hu
      · exact hi.dis m m3 hb a v hu
      · have := hi.blk_lt m3 hb; omega
    · obtain ⟨_, c1, c2⟩ := name j m m1 m2
      rw [c1]; rw [c2] at hb
      exact st.hin.dis j m3 hb a v ha
  · rcases partL m hm with ⟨m1, m2, m3⟩ | ⟨j, m1, m2, m3⟩
    · right; rw [(blkF m m1).1]; rw [(blkF m m1).2] at hb; exact ⟨m, m3, hb, rfl⟩
    · obtain ⟨_, c1, c2⟩ := name j m m1 m2
      rw [c1]; rw [c2] at hb
      rcases where_ j m3 hb with q | ⟨n, q1, q2, q3, q4⟩
      · exact .inl q
      · exact .inr ⟨n, q2, q3, q4⟩
  · rcases grd a v ha with hu | hu
    · exact .inl hu
    · right; omega

section
variable {P : Program} {T : TT} {k : Nat} {s : St} {ops : Array Oper} {rest : List Oper} {o : Oper} {K : St → Prop}
theorem call_wpA {c : Call} {fo : Operand} (hop : o.op = .call c) (hcal : c.callee = .value fo) {f : FuncId} {first captured : List IV} (hev : s.ev fo = .fn (.func f) first captured) (π : List Nat) (hn : nodupB π = true)
    (hl : π.all (liveM s.h) = true) {K' : IV → List HO → Prop} (hs : SpecA P f (IV.renL (inv π) (IV.relabL (first ++ c.args.toList.map s.ev ++ captured))) (vaH s.h (inv π) π) K')
    {a : Act} {w : World} {F : Fix} (hb : F.base ≤ w.heap.size) (hi : HIn F s.h w) (he : ∀ i, R F (lk s.env i) (a.tmps.getD i undef))
    {K : Act → World → Prop} {Q : Exit → Act → World → Prop} (hK : ∀ y h', K' y h' → ∀ v G w', HStep F G s.h (mergeH s.h π h') w w' → R G (y.ren (callee s.h π)) v → K (a.put o.dst v) w') : o.wp P a w K Q := by
  have hn' := nodupB_spec hn
  have hl' : ∀ n ∈ π, live s.h n := fun n hm => liveM_spec (List.all_eq_true.1 hl n hm)
  have hfn := evOf he fo
  rw [hev] at hfn
  generalize hv : a.eval fo = vf at hfn
  cases hfn with
  | fn h1 h2 =>
  rename_i fs cs
  have hargs : RL F (first ++ c.args.toList.map s.ev ++ captured) (fs ++ c.args.toList.map a.eval ++ cs) := (h1.append (RLmap (evOf he) c.args.toList)).append h2
  have hrl := hargs.seen (π := π) (w := w)
  have hin := smallA_hin hi hn' hl'
  have hrun : (execOp a.eval o).run P w = .ok (.enter f ⟨fs ++ c.args.toList.map a.eval ++ cs⟩) w := by
    obtain ⟨dst, op, type, pos, after, guard⟩ := o
    simp only at hop
    subst hop
    obtain ⟨cal, args, types⟩ := c
    simp only at hcal
    subst hcal
    have e1 : (⟨fs⟩ : Array Value) ++ args.map a.eval ++ ⟨cs⟩ = ⟨fs ++ args.toList.map a.eval ++ cs⟩ := by apply Array.ext'; simp
    simp only [execOp, resolve, hv, Deferred.ofValue, pure_bind, invoke, e1]
    exact hs.call _ w
  refine wp_call_enter hrun (hs.runs (F.smallA π w) w _ (Nat.le_refl _) hin hrl) fun e w' hR => ?_
  obtain ⟨v, G, y, h', rfl, hKK, st, hr⟩ := hR
  obtain ⟨q1, q2⟩ := call_stepA hi hb hn' hl' (vaH_length π) st
  exact ⟨v, rfl, hK y h' hKK v _ w' q1 (hr.ren q2)⟩

theorem IOps_callAK (hr : runsB ops o s = some true) {f : FuncId} {as : List IV} (hc : icall s o.op = some (f, as)) (π : List Nat) (hn : nodupB π = true) (hl : π.all (liveM s.h) = true)
    {K' : IV → List HO → Prop} (hs : SpecA P f (IV.renL (inv π) (IV.relabL as)) (vaH s.h (inv π) π) K') (hd : s.dstOk o.dst = true)
    (hnext : ∀ y h', K' y h' → IOps P k ops rest K (s.after π o.dst y h')) : IOps P k ops (o :: rest) K s := by
  obtain ⟨c, fo, first, captured, h1, h2, h3, rfl⟩ := icall_spec hc
  rintro cx a w ⟨F, hF⟩ Q hQ
  unfold wpList
  rw [if_pos (runs_wanted hr hF.env hF.size)]
  exact .inl (call_wpA h1 h2 h3 π hn hl hs hF.hbase hF.step.hin hF.env fun y h' hKK v G w' q1 q2 => hnext y h' hKK cx _ w' ⟨G, hF.next hd q1 q2⟩ Q hQ)

theorem SpecA.of_body (hT : TOk P T) {f : FuncId} {fn : Func} {c : Code} {nt : Nat} {xs : List IV} {h : List HO} {K : IV → List HO → Prop} (hf : P.funcs[f]? = some fn) (hb : fn.body = some c) (hnt : fn.ntmps = nt) (hname : (fn.name == "runtime.NumGoroutine") = false)
    (hlen : Nat.ble xs.length nt = true) (hw : IWP P h.length c (Post T fn h.length fun y h' => K y.relab (relabHs h')) ⟨nt, initEnv 0 xs, h⟩) : SpecA P f xs h K := by
  refine ⟨fun args w => ?_, fun F w vs hbase hi hr => ?_⟩
  · simp only [callFunc, Sem.run_bind, run_program, Result.andThen_ok, hf]
    simp only [hname, hb, Option.isNone_some, Bool.false_eq_true, if_false, Sem.run_pure]
  · have hvl := hr.length
    have hle := Nat.le_of_ble_eq_true hlen
    refine calls_of_wp hf hb ?_
    have hsim : Sim ⟨F, h, w⟩ h.length ⟨nt, initEnv 0 xs, h⟩ { tmps := ⟨vs⟩ ++ Array.replicate (fn.ntmps - (⟨vs⟩ : Array Value).size) undef, defers := [] } w := by
      refine ⟨F, rfl, ?_, HStep.refl hi, fun j => ?_, hbase, rfl, hi.N⟩
      · simp [hnt]; omega
      · refine lk_init hr j (fun j => (⟨vs⟩ ++ Array.replicate (fn.ntmps - (⟨vs⟩ : Array Value).size) undef : Array Value).getD j undef) fun m hm => ?_
        rw [Nat.zero_add]
        have h1 : m < (⟨vs⟩ ++ Array.replicate (fn.ntmps - (⟨vs⟩ : Array Value).size) undef : Array Value).size := by simp; omega
        simp only [Array.getD, h1, dif_pos]
        show (⟨vs⟩ ++ Array.replicate (fn.ntmps - (⟨vs⟩ : Array Value).size) undef : Array Value)[m] = _
        rw [Array.getElem_append_left (by simpa using hm)]
        simp [List.getD, hm]
    refine wp_mono (hw ⟨F, h, w⟩ _ w hsim) ?_
    rintro e a' w' ⟨s', ⟨he, ps, ys, π, h1, h2, h3, h4, h5, h6⟩, G, hG⟩
    obtain ⟨us, k1, k2⟩ := iresults_sound (P := P) hT hG.step.hin hG.env h1 h2
    obtain ⟨G2, st, ren⟩ := hG.step.pick hG.names hG.n0 π (nodupB_spec h3) h4 fun n hm => Nat.blt_eq.mp (List.all_eq_true.1 h5 n hm)
    have hres : ∃ v, (results fn a'.tmps).run P w' = .ok v w' ∧ R G (oneOf ys) v := by
      have hml : (fn.results.mapM (resVar a'.tmps)).run P w' = .ok ⟨us⟩ w' := by
        rw [Array.mapM_eq_mapM_toList, Sem.run_map, k1]; rfl
      have hsz := k2.length
      rw [results_eq, Sem.run_bind, hml]
      simp only [Result.andThen_ok, Sem.run_pure]
      match ys, us, k2 with
      | [], _, .nil => exact ⟨_, rfl, .tup .nil⟩
      | [y], _, .cons hy .nil => exact ⟨_, rfl, hy⟩
      | y1 :: y2 :: r, _, .cons q1 (.cons q2 q3) => exact ⟨_, rfl, .tup (.cons q1 (.cons q2 q3))⟩
    obtain ⟨v, r1, r2⟩ := hres
    have hrr := R.relab (ExtN.refl G2) (r2.ren ren)
    have hst := st.trans st.hin.relab
    rcases he with rfl | rfl
    · exact ⟨hG.defers, v, r1, v, G2, _, _, rfl, h6, hst, hrr⟩
    · exact ⟨hG.defers, v, r1, v, G2, _, _, rfl, h6, hst, hrr⟩
end
end Go.Idl
