/-
  Ideal states: arrays whose cells name blocks: append; a slice held against nil.
-/
import Derived.Test.YtmgcoopmbohkoaaIdlAm
import Derived.Lib.SliceRun
namespace Go.Idl
open Go
set_option linter.unusedVariables false
section
variable {P : Program} {T : TT} {F : Fix} {h : List HO} {w : World}
theorem HIn.virtB (hi : HIn F h w) : HStep F (F.more 0 0) h (h ++ [.box []]) w w := by
  have e := F.ext_more 0 0
  have hbsz : (F.more 0 0).bsz F.N = 0 := by simp [Fix.more]
  refine ⟨e, hi.more (.inl ⟨hbsz, rfl⟩) hi.rd (fun _ _ _ => rfl) (fun h => absurd rfl h), Fr.refl _ w, fun n hl hb => ?_, fun a v ha => .inl ha⟩
  rcases live_append hl with ⟨n1, n2⟩ | n1
  · right
    have : n ≠ F.N := by have := hi.N; omega
    exact ⟨n, n2, by simpa [Fix.more, this] using hb, by simp [Fix.more, this]⟩
  · subst n1; rw [← hi.N] at hb; exact absurd hbsz hb
theorem HIn.unarr (hi : HIn F h w) {n : Nat} {nw : Bool} {cs : List IV} (e : h[n]? = some (.arr nw cs)) : HStep F F h (h.set n (.box cs)) w w := by
  have hlt := lt_of_get e
  have hlive : ∀ m, live (h.set n (.box cs)) m → live h m := by
    rintro m ⟨x, hx, hd⟩
    by_cases hm : n = m
    · subst hm; exact ⟨_, e, by simp⟩
    · rw [List.getElem?_set_ne hm] at hx; exact ⟨x, hx, hd⟩
  refine ⟨Ext.refl F, ⟨by simp [hi.N], hi.rd, fun m x hx => ?_, fun a b ha hb => hi.inj a b (hlive a ha) (hlive b hb), fun a ha => hi.dis a (hlive a ha)⟩, Fr.refl _ w, fun m hm hb => .inr ⟨m, hlive m hm, hb, rfl⟩, fun a v ha => .inl ha⟩
  by_cases hm : n = m
  · subst hm; rw [List.getElem?_set] at hx; simp [hlt] at hx; rw [← hx]
    rcases hi.obj n _ e with h1 | ⟨vs, ty, lo, hi', k1, k2, k3, k4, p, sx, hps, k5⟩
    · exact .inl h1
    · exact .inr ⟨vs, ty, lo, hi', k1, k2, k3, p, sx, hps, k5.opened⟩
  · rw [List.getElem?_set_ne hm] at hx; exact hi.obj m x hx
theorem HIn.killAllocB (hi : HIn F h w) (hbase : F.base ≤ w.heap.size) (n : Nat) (vs : Array Value) (ty : TypeId) {cs : List IV} {pre suf : List Value} (h1 : vs.toList = pre ++ suf) (h2 : RL F cs pre) :
    HStep F (F.more w.heap.size vs.size) h (h.set n .dead ++ [.box cs]) w (w.alloc (.cells vs ty)) := by
  have hk := hi.kill n
  have hi := hk.hin
  have e := F.ext_more w.heap.size vs.size
  have hblk : (F.more w.heap.size vs.size).blk F.N = w.heap.size := by simp [Fix.more]
  have hbsz : (F.more w.heap.size vs.size).bsz F.N = vs.size := by simp [Fix.more]
  have w1 : ∀ k, k < w.heap.size → (w.alloc (.cells vs ty)).heap[k]? = w.heap[k]? := fun k hk => heap_alloc_lt _ _ hk
  refine hk.trans ⟨e, hi.more (.inr ⟨vs, ty, 0, 0, by rw [hblk]; exact heap_alloc_new _ _, hbsz.symm, fun o _ => by omega, pre, suf, h1, h2.mono e.weak⟩) (fun a v ha => ?_) (fun n hl hb => w1 _ (hi.blk_lt hl hb)) fun _ => ⟨fun n hl hb => Nat.ne_of_lt (hi.blk_lt hl hb), fun a v ha => ?_⟩, ⟨rfl, rfl, rfl, by simp, fun k hk _ => w1 _ hk⟩, fun n hl hb => ?_, fun a v ha => .inl ha⟩
  · have := hi.rd a v ha
    rw [← this]; simp only [World.cell?]; rw [w1 _ (World.block_lt_of_cell? _ _ this)]
  · exact Nat.ne_of_lt (World.block_lt_of_cell? _ _ (hi.rd a v ha))
  · rcases live_append hl with ⟨n1, n2⟩ | n1
    · right
      have : n ≠ F.N := by have := hi.N; omega
      refine ⟨n, n2, by simpa [Fix.more, this] using hb, by simp [Fix.more, this]⟩
    · left; subst n1; rw [← hi.N, hblk]; exact Nat.le_refl _
theorem iappendB_sound (hT : TOk P T) (hi : HIn F h w) (hbase : F.base ≤ w.heap.size) {t t2 ty n len cap el m sz by' : Nat} {zz : List Zv} {ti : TI} {x : IV} {v u : Value} {p : List Prop} {cs ds : List IV} (hs : R F (.sl n 0 len cap ti.size) v) (hx : R F x u)
    (ht : T.get t = some ⟨sz, by', zz, .slc el⟩) (hti : T.get el = some ti) (hsrc : isrc T h t2 x ti.size = some (p, ds, m)) (hp1 : AllP p) (hxo : h[n]? = some (.box cs))
    (q1 : (len + m) * ti.bytes ≤ 140737488355328) (q2 : len + m ≤ 140737488355328) (q3 : cs.length = len * ti.size) (q4 : IV.ones ds = true) :
    ∃ v' G w', (Builtin.append_ #[t, t2] ty #[v, u]).run P w = .ok v' w' ∧ HStep F G h (h.set n .dead ++ [.box (cs ++ ds)]) w w' ∧ R G (.sl h.length 0 (len + m) (len + m) ti.size) v' := by
  obtain ⟨inf, d, hf⟩ := hT t _ ht
  have hu := hf.slc rfl
  obtain ⟨inf2, d2, hf2⟩ := hT el ti hti
  obtain ⟨z, hz1, hz2, hz3⟩ := hf2.zcells
  obtain ⟨news, src, hr⟩ := isrc_sound hT hi hx hsrc hp1
  have hcount := src.count
  have hcs : hcells h n = some cs := by simp [hcells, hxo]
  have hnl : live h n := ⟨_, hxo, by simp⟩
  have hk := hi.kill n
  cases hs with
  | slnil hn =>
    -- nil: as above, the name dies besides
    have hcs0 : cs = [] := List.length_eq_zero_iff.1 (by omega)
    subst hcs0
    rw [Nat.zero_add]
    by_cases hm : m = 0
    · subst hm
      have h0 : news = [] := List.length_eq_zero_iff.1 (by omega)
      subst h0
      cases hr
      refine ⟨.slice none 0 0, F.more 0 0, w, ?_, hk.trans (by simpa using hk.hin.virtB), ?_⟩
      · rw [append_room_run hu hf2.info hf2.size src (Nat.le_refl _)]; rfl
      · exact .slnil (by rw [← hi.N]; exact Nat.lt_succ_self _)
    · have hrun := append_grow_run (ty := ty) hu hf2.info hf2.size hz1 src (a := none) (sLen := 0) (sCap := 0) (olds := []) (firstCells_all (by simp) (by simp) (fun _ => rfl)) (by omega) (by rw [Nat.zero_add, hf2.bytes]; rw [Nat.zero_add] at q1; exact q1) (by omega)
      rw [Nat.zero_add] at hrun
      have hge := grownCap_ge w m 0 el
      have hsz := grown_size (len := 0) (olds := []) hz3 (by simp) hcount (by rw [Nat.zero_add]; exact hge)
      rw [Nat.zero_add] at hsz
      refine ⟨_, _, _, hrun, (HIn.killAllocB hi.drew hbase n _ el (pre := news) (suf := (Builtin.zeroCells z.cells (grownCap w m 0 el - m)).toList) (by simp) (by simpa using hr.opened)).drewL, ?_⟩
      exact more_sl hi.N hge (Nat.le_of_eq hsz.symm) (fun _ => rfl)
  | sl hn hl' hc ho hss =>
    rename_i cap' o
    by_cases hroom : len + m ≤ cap'
    · -- there is room: in place
      have hrun : (Builtin.append_ #[t, t2] ty #[.slice (some ⟨F.blk n, o, none⟩) len cap', u]).run P w =
          ((storeCells ⟨F.blk n, o + len * ti.size, none⟩ news).run P w).andThen fun _ w' => .ok (.slice (some ⟨F.blk n, o, none⟩) (len + m) cap') w' := by
        rw [append_room_run (ty := ty) (a := some ⟨F.blk n, o, none⟩) hu hf2.info hf2.size src hroom]
        simp only [Addr.add_lit]
      by_cases hbz : F.bsz n = 0
      · -- a block of no cells
        have hz0 : (len + m) * ti.size = 0 := by have := Nat.mul_le_mul_right ti.size hroom; omega
        rw [Nat.add_mul] at hz0
        have h0 : news = [] := List.length_eq_zero_iff.1 (by omega)
        have hc0 : cs = [] := List.length_eq_zero_iff.1 (by omega)
        subst h0 hc0
        cases hr
        refine ⟨.slice (some ⟨F.blk n, o, none⟩) (len + m) cap', F.more (F.blk n) 0, w, ?_, hk.trans ⟨F.ext_more _ _, ?_, Fr.refl _ _, fun k hl hb => ?_, fun a v ha => .inl ha⟩, more_sl hi.N hroom (by omega) ho⟩
        · rw [hrun]; rfl
        · exact hk.hin.more (.inl ⟨by simp [Fix.more], rfl⟩) hi.rd (fun _ _ _ => rfl) (fun h => absurd rfl h)
        · rcases live_append hl with ⟨n1, n2⟩ | n1
          · right
            have : k ≠ F.N := by have := hi.N; simp at n1; omega
            exact ⟨k, n2, by simpa [Fix.more, this] using hb, by simp [Fix.more, this]⟩
          · exfalso; subst n1; apply hb; simp [Fix.more, hi.N]
      · rcases hi.obj n _ hxo with ⟨h1, _⟩ | ⟨vs, tyb, lo, hi', k1, k2, k3, pp, ss, k5, k6⟩
        · exact absurd h1 hbz
        have hpl := k6.length
        have hnl2 : len * ti.size + news.length ≤ vs.size := by
          rw [hcount, ← Nat.add_mul, k2]
          have := Nat.mul_le_mul_right ti.size hroom; omega
        have hst : ∃ w', (storeCells ⟨F.blk n, o + len * ti.size, none⟩ news).run P w = .ok () w' ∧ w'.heap[F.blk n]? = some (.cells ⟨splice vs.toList (len * ti.size) news⟩ tyb (lo, hi')) ∧ (∀ k, k ≠ F.blk n → w'.heap[k]? = w.heap[k]?) ∧
            w'.heap.size = w.heap.size ∧ w'.os = w.os ∧ w'.tape = w.tape ∧ w'.output = w.output := by
          by_cases hc0 : 0 < cap'
          · have ho' := ho hc0
            subst ho'
            have := run_storeCells_at (P := P) news (0 + len * ti.size) 0 w vs k1 (by omega) k3 (hr.opened.ones q4)
            simpa only [Nat.add_zero, Nat.zero_add] using this
          · have hm0 : m = 0 := by omega
            have h0 : news = [] := List.length_eq_zero_iff.1 (by rw [hcount, hm0, Nat.zero_mul])
            subst h0
            exact ⟨w, rfl, by rw [splice_nil]; exact k1, fun _ _ => rfl, rfl, rfl, rfl, rfl⟩
        obtain ⟨w', s1, s2, s3, s4, s5, s6, s7⟩ := hst
        have hNb : (F.more (F.blk n) (F.bsz n)).blk F.N = F.blk n := by simp [Fix.more]
        have hNs : (F.more (F.blk n) (F.bsz n)).bsz F.N = F.bsz n := by simp [Fix.more]
        have hkl : ∀ k, live (h.set n .dead) k → live h k ∧ k ≠ n := by
          rintro k ⟨x, hx, hd⟩
          by_cases hm : n = k
          · subst hm; rw [List.getElem?_set] at hx; simp at hx; exact absurd hx.2.symm hd
          · rw [List.getElem?_set_ne hm] at hx; exact ⟨⟨x, hx, hd⟩, Ne.symm hm⟩
        have hpre : (len * ti.size) = pp.length := by omega
        refine ⟨.slice (some ⟨F.blk n, o, none⟩) (len + m) cap', F.more (F.blk n) (F.bsz n), w', ?_, ⟨F.ext_more _ _, ?_, ⟨s5, s6, s7, by omega, fun k hk' hE => ?_⟩, fun k hl hb => ?_, fun a v ha => .inl ha⟩, more_sl hi.N hroom (by omega) ho⟩
        · rw [hrun, s1]; rfl
        · refine hk.hin.more (.inr ⟨⟨splice vs.toList (len * ti.size) news⟩, tyb, lo, hi', by rw [hNb]; exact s2, ?_, ?_, pp ++ news, vs.toList.drop (len * ti.size + news.length), ?_, ?_⟩) (fun a v ha => ?_) (fun k hl hb => ?_) fun _ => ⟨fun k hl hb e => ?_, fun a v ha => hi.dis n hnl hbz a v ha⟩
          · rw [hNs]; show (splice vs.toList (len * ti.size) news).length = _; rw [splice_length _ _ _ (by simpa using hnl2)]; simpa using k2
          · intro q hq
            have h6 : (⟨splice vs.toList (len * ti.size) news⟩ : Array Value).size = (splice vs.toList (len * ti.size) news).length := rfl
            rw [splice_length _ _ _ (by simpa using hnl2), Array.length_toList] at h6
            exact k3 q (by omega)
          · show splice vs.toList _ _ = _
            unfold splice
            rw [k5, hpre, List.take_left, List.append_assoc]
          · exact (k6.mono (F.ext_more _ _).weak).append (hr.opened.mono (F.ext_more _ _).weak)
          · have := hi.rd a v ha
            rw [← this]; simp only [World.cell?]; rw [s3 _ (hi.dis n hnl hbz a v ha)]
          · exact s3 _ fun e => (hkl k hl).2 (hi.inj k n (hkl k hl).1 hnl hb hbz e)
          · exact (hkl k hl).2 (hi.inj k n (hkl k hl).1 hnl hb hbz e)
        · exact s3 k fun e => hE ⟨n, hnl, hbz, e.symm⟩
        · rcases live_append hl with ⟨n1, n2⟩ | n1
          · right
            have : k ≠ F.N := by have := hi.N; simp at n1; omega
            exact ⟨k, (hkl k n2).1, by simpa [Fix.more, this] using hb, by simp [Fix.more, this]⟩
          · right
            refine ⟨n, hnl, hbz, ?_⟩
            subst n1
            have : (h.set n HO.dead).length = F.N := by simp [hi.N]
            rw [this, hNb]
    · -- it grows: a new block
      have hold : ∃ olds, olds.length = len * ti.size ∧ RL F cs olds ∧ ∀ j v, olds[j]? = some v → w.cell? ((⟨F.blk n, o, none⟩ : Addr).add j) = some v := by
        obtain ⟨us, u1, u2, u3⟩ := hi.cells hcs 0 (len * ti.size) (by omega)
        have h5 : (cs.drop 0).take (len * ti.size) = cs := by rw [List.drop_zero, ← q3, List.take_length]
        rw [h5] at u2
        refine ⟨us, u1, u2, fun j v hj => ?_⟩
        rw [Addr.add_lit]
        by_cases hc0 : 0 < cap'
        · rw [ho hc0]; exact u3 j v hj
        · have : len = 0 := by omega
          rw [this, Nat.zero_mul] at u1
          have := lt_of_get hj; omega
      obtain ⟨olds, o1, o2, o3⟩ := hold
      have hrun := append_grow_run (ty := ty) hu hf2.info hf2.size hz1 src (a := some ⟨F.blk n, o, none⟩) (sLen := len) (sCap := cap') (olds := olds) (firstCells_all o1 (fun b hb => by cases hb; exact o3) (fun h => by cases h)) (by omega) (by rw [hf2.bytes]; exact q1) q2
      have hge := grownCap_ge w (len + m) cap' el
      have hsz := grown_size hz3 o1 hcount hge
      refine ⟨_, _, _, hrun, (HIn.killAllocB hi.drew hbase n _ el (pre := olds ++ news) (suf := (Builtin.zeroCells z.cells (grownCap w (len + m) cap' el - (len + m))).toList) (by simp) (o2.append hr.opened)).drewL, more_sl hi.N hge (Nat.le_of_eq hsz.symm) (fun _ => rfl)⟩
end
def iexecB (T : TT) (s : St) (op : Op) : Option (List Prop × IV × List HO) :=
  match op with
  | .call { callee := .builtin .append, args := args, argTypes := types } =>
    match types.toList, args.toList.map s.ev with
    | [t, t2], [.sl n off len _ esz, x] =>
      match T.get t with
      | some ⟨_, _, _, .slc e⟩ =>
        match T.get e with
        | some ti =>
          match isrc T s.h t2 x ti.size with
          | some (p, ds, m) =>
            match s.h[n]? with
            | some (.box cs) =>
              if Nat.beq off 0 && Nat.beq esz ti.size then
                some (p ++ [(len + m) * ti.bytes ≤ 140737488355328, len + m ≤ 140737488355328, cs.length = len * esz, IV.ones ds = true], .sl s.h.length 0 (len + m) (len + m) esz, s.h.set n .dead ++ [.box (cs ++ ds)])
              else none
            | _ => none
          | none => none
        | none => none
      | _ => none
    | _, _ => none
  | _ => none
section
variable {P : Program} {T : TT}
theorem iexecB_sound {F : Fix} {w : World} (hT : TOk P T) {s : St} (hi : HIn F s.h w) (hbase : F.base ≤ w.heap.size) {ρ : Operand → Value} (hρ : ∀ x, R F (s.ev x) (ρ x)) {o : Oper} {ps : List Prop} {y : IV} {h' : List HO}
    (e : iexecB T s o.op = some (ps, y, h')) (hp : AllP ps) :
    ∃ v' G w', (execOp ρ o).run P w = .ok (.value v') w' ∧ HStep F G s.h h' w w' ∧ R G y v' := by
  obtain ⟨dst, op, type, pos, after, guard⟩ := o
  simp only at e
  unfold iexecB at e
  split at e
  case h_2 => cases e
  rename_i op' args types
  have hargs : RL F (args.toList.map s.ev) (args.map ρ).toList := by simpa using RLmap hρ args.toList
  split at e
  case h_2 => cases e
  rename_i t t2 n off len cap esz x ht hx
  rw [hx] at hargs
  split at e
  case h_2 => cases e
  rename_i sz by' zz el htt
  split at e
  case h_2 => cases e
  rename_i ti hti
  split at e
  case h_2 => cases e
  rename_i p ds m hsrc
  split at e
  case h_2 => cases e
  rename_i cs hxo
  split at e
  case isFalse => cases e
  rename_i hb
  simp only [Bool.and_eq_true] at hb
  obtain ⟨hb1, hb2⟩ := hb
  have hoff : off = 0 := Nat.eq_of_beq_eq_true hb1
  have hesz : esz = ti.size := Nat.eq_of_beq_eq_true hb2
  subst hoff hesz
  cases e
  obtain ⟨hp1, q1, q2, q3, q4, _⟩ := AllP.append hp
  generalize hv : args.map ρ = va at hargs
  obtain ⟨vl⟩ := va
  cases hargs with
  | cons h1 hr =>
  cases hr with
  | cons h2 hr =>
  cases hr
  rename_i v u
  obtain ⟨v', G, w', k1, k2, k3⟩ := iappendB_sound (P := P) (ty := type) hT hi hbase h1 h2 htt hti hsrc hp1 hxo q1 q2 q3 q4
  refine ⟨v', G, w', ?_, k2, k3⟩
  obtain ⟨tl⟩ := types
  simp only at ht
  subst ht
  simp only [execOp, resolve, invoke, Sem.run_bind, Sem.run_pure, Result.andThen_ok, hv, builtin]
  erw [k1]; rfl
variable {k : Nat} {s : St} {ops : Array Oper} {rest : List Oper} {o : Oper} {K : St → Prop}
theorem OpG_b (hT : TOk P T) (hr : runsB ops o s = some true) {ps : List Prop} {y : IV} {h' : List HO} (e : iexecB T s o.op = some (ps, y, h')) (hp : AllP ps) : OpG P ops o s y h' := by
  intro a w F hb hi he hz K Q hK
  rw [if_pos (runs_wanted hr he hz)]
  obtain ⟨v', G, w', h1, h2, h3⟩ := iexecB_sound (P := P) hT hi hb (evOf he) e hp
  unfold Oper.wp
  rw [h1]
  exact hK _ _ _ h2 h3
end
/-! ### A slice held against nil; a key that goes -/
section
variable {P : Program} {k nt : Nat} {env : List (Nat × IV)} {h h' : List HO} {ops : Array Oper} {rest : List Oper} {K : St → Prop} {pos : String} {after : Array Edge} {g : Option (Nat × Bool)}
theorem IOps_nq {d t t2 e ty len : Nat} {b : Bool} {cs : List IV} {x : Operand} (hr : runsB ops ⟨some d, .binOp .eql t x (.const (.slice none 0 0)) t2, ty, pos, after, g⟩ ⟨nt, env, h⟩ = some true) (hd : Nat.blt d nt = true) (hu : P.underlying t = some (.slice e))
    (hx : (⟨nt, env, h⟩ : St).ev x = .fz b cs len) (h1 : len = 0 → cs = [] → IOps P k ops rest K ⟨nt, (d, .sc (.bool true)) :: env, h⟩) (h2 : IOps P k ops rest K ⟨nt, (d, .sc (.bool false)) :: env, h⟩) :
    IOps P k ops (⟨some d, .binOp .eql t x (.const (.slice none 0 0)) t2, ty, pos, after, g⟩ :: rest) K ⟨nt, env, h⟩ := by
  refine IOps_r hr (fun y h' => h' = h ∧ ((y = .sc (.bool true) ∧ len = 0 ∧ cs = []) ∨ y = .sc (.bool false))) (fun ρ w F hb hi hρ => ?_) hd ?_
  · have ex := hρ x; rw [hx] at ex
    generalize hvx : ρ x = v at ex
    have hrun : ∀ (a : Option Addr) (l c : Nat), v = .slice a l c → (execOp ρ ⟨some d, .binOp .eql t x (.const (.slice none 0 0)) t2, ty, pos, after, g⟩).run P w = .ok (.value (.bool a.isNone)) w := fun a l c hv => by
      have e1 : ρ (.const (.slice none 0 0)) = .slice none 0 0 := by
        have := hρ (.const (.slice none 0 0))
        change R F (.sc (.slice none 0 0)) _ at this
        generalize ρ (.const (.slice none 0 0)) = u at this
        cases this; rfl
      have e2 : ρ x = .slice a l c := hvx.trans hv
      have e3 : (eqGuard .eql t x (.const (.slice none 0 0)) (.slice a l c) (.slice none 0 0)).run P w = .ok () w := by simp [eqGuard]
      simp only [execOp, Sem.run_bind, e1, e2, e3, Result.andThen_ok, Lib.run_eql_slice_nil w t e a l c 0 0 hu, Sem.run_pure]
    cases ex with
    | fz h1 h2 h3 h4 => exact ⟨_, .bool false, F, w, _, h, hrun _ _ _ rfl, .inl rfl, HStep.refl hi, .sc _, rfl, .inr rfl⟩
    | fznil => exact ⟨_, .bool true, F, w, _, h, hrun _ _ _ rfl, .inl rfl, HStep.refl hi, .sc _, rfl, .inl ⟨rfl, rfl, rfl⟩⟩
    | fz0 => exact ⟨_, .bool false, F, w, _, h, hrun _ _ _ rfl, .inl rfl, HStep.refl hi, .sc _, rfl, .inr rfl⟩
  · rintro y h' ⟨rfl, ⟨rfl, hl, hc⟩ | rfl⟩
    · exact h1 hl hc
    · exact h2
theorem IOps_md0 {t kt kt' et ty n clock : Nat} {m kx : Operand} {pos : String} {after : Array Edge} {g : Option (Nat × Bool)} {kv : Value} {es : Array MapEntry} {lk : Lit} (hr : runsB ops ⟨none, .call ⟨.builtin .delete, #[m, kx], #[t, kt']⟩, ty, pos, after, g⟩ ⟨nt, env, h⟩ = some true)
    (hu : P.underlying t = some (.map kt et)) (KL : Maps.Keyed P kt) (hm : (⟨nt, env, h⟩ : St).ev m = .mp n) (hk : ((⟨nt, env, h⟩ : St).ev kx).val = some kv) (hn : h[n]? = some (.mp es clock))
    (hlk : keyOf P kt kv = some lk) (hall : ∀ e ∈ es.toList, ∃ l, keyOf P kt e.key = some l)
    (h1 : (∀ e ∈ es.toList, e.key ≠ kv) → IOps P k ops rest K ⟨nt, env, h⟩)
    (h2 : ∀ j e, es.toList[j]? = some e → e.key = kv → IOps P k ops rest K ⟨nt, env, h.set n (.mp (mpDel es j) clock)⟩) :
    IOps P k ops (⟨none, .call ⟨.builtin .delete, #[m, kx], #[t, kt']⟩, ty, pos, after, g⟩ :: rest) K ⟨nt, env, h⟩ := by
  have hself : h.set n (.mp es clock) = h := by
    have hlt := lt_of_get hn
    rw [List.getElem?_eq_getElem hlt] at hn
    have := Option.some.inj hn
    rw [← this, List.set_getElem_self]
  refine IOps_r hr (fun y h' => y = .tup [] ∧ ((h' = h ∧ ∀ e ∈ es.toList, e.key ≠ kv) ∨ ∃ j e, h' = h.set n (.mp (mpDel es j) clock) ∧ es.toList[j]? = some e ∧ e.key = kv)) (fun ρ w F hb hi hρ => ?_) rfl ?_
  · have em := hρ m; rw [hm] at em
    have ek := val_of (hρ kx) hk
    obtain ⟨b1, b2⟩ := mp_obj hi hn
    generalize hvm : ρ m = vm at em
    cases em
    have hrun : ∀ (es' : Array MapEntry) (clock' : Nat), (setObj (F.blk n) (.map es' clock')).run P w = .ok () { w with heap := w.heap.setIfInBounds (F.blk n) (.map es' clock') } := fun es' clock' => MapKept.run_setObj_map _ b2
    rcases KL.find w hlk es.toList hall with ⟨f1, f2⟩ | ⟨j, e, f1, f2, f3⟩
    · refine ⟨.value (.tuple #[]), _, F, _, .tup [], h, ?_, .inl rfl, hself ▸ mp_set (es' := es) (clock' := clock) hi hn, .tup .nil, rfl, .inl ⟨rfl, f2⟩⟩
      simp [execOp, resolve, invoke, builtin, Builtin.delete_, hvm, ek, run_underlying hu, MapKept.run_getObj_map b2, KL.check w es.isEmpty hlk, f1, hrun]
    · refine ⟨.value (.tuple #[]), _, F, _, .tup [], _, ?_, .inl rfl, mp_set (es' := mpDel es j) (clock' := clock) hi hn, .tup .nil, rfl, .inr ⟨j, e, rfl, f2, f3⟩⟩
      simp [execOp, resolve, invoke, builtin, Builtin.delete_, hvm, ek, run_underlying hu, MapKept.run_getObj_map b2, KL.check w es.isEmpty hlk, f1, hrun, mpDel]
  · rintro y h' ⟨rfl, ⟨rfl, hh⟩ | ⟨j, e, rfl, hj, he⟩⟩
    · exact h1 hh
    · exact h2 j e hj he
end
end Go.Idl
