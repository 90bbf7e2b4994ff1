/-
  Ideal states: maps, and iterators over them: exactly as the model keeps them (entries with their stamps, and the clock).
-/
import Derived.Test.YtmgcoopmbohkoaaIdlTr
import Derived.Maps.Keyed
import Derived.Laws.IdiomRangeMap
import Derived.Maps.RangeRun
namespace Go.Idl
open Go
set_option linter.unusedVariables false
set_option linter.unusedSimpArgs false

/-! ### Worlds -/
theorem HIn.allocM {F : Fix} {h : List HO} {w : World} (hi : HIn F h w) (hbase : F.base ≤ w.heap.size) (o : Obj) {x : HO} (hx : OIn (F.more w.heap.size 1) (w.alloc o) F.N x) :
    HStep F (F.more w.heap.size 1) h (h ++ [x]) w (w.alloc o) := by
  have e := F.ext_more w.heap.size 1
  have hblk : (F.more w.heap.size 1).blk F.N = w.heap.size := by simp [Fix.more]
  have w1 : ∀ k, k < w.heap.size → (w.alloc o).heap[k]? = w.heap[k]? := fun k hk => heap_alloc_lt w o hk
  refine ⟨e, hi.more hx (fun a v ha => ?_) (fun n hl hb => w1 _ (hi.blk_lt hl hb)) fun _ => ⟨fun n hl hb => Nat.ne_of_lt (hi.blk_lt hl hb), fun a v ha => ?_⟩, ⟨rfl, rfl, rfl, by show w.heap.size ≤ (w.heap.push o).size; simp, fun k hk _ => w1 _ hk⟩, fun n hl hb => ?_, fun a v ha => .inl ha⟩
  · have := hi.rd a v ha
    rw [← this]; simp only [World.cell?]; rw [w1 _ (World.block_lt_of_cell? _ _ this)]
  · exact Nat.ne_of_lt (World.block_lt_of_cell? _ _ (hi.rd a v ha))
  · rcases live_append hl with ⟨n1, n2⟩ | n1
    · right
      have : n ≠ F.N := by have := hi.N; omega
      refine ⟨n, n2, by simpa [Fix.more, this] using hb, by simp [Fix.more, this]⟩
    · left; subst n1; rw [← hi.N, hblk]; exact Nat.le_refl _

theorem setBlk_at {w : World} {b : Nat} {o o' : Obj} (h : w.heap[b]? = some o) : (w.heap.setIfInBounds b o')[b]? = some o' := by
  have hb : b < w.heap.size := by
    rcases Nat.lt_or_ge b w.heap.size with h' | h'
    · exact h'
    · rw [Array.getElem?_eq_none h'] at h; cases h
  simp [hb]
theorem setBlk_off {w : World} {b k : Nat} {o' : Obj} (h : k ≠ b) : (w.heap.setIfInBounds b o')[k]? = w.heap[k]? := by
  rw [Array.getElem?_setIfInBounds_ne (Ne.symm h)]

theorem HIn.setM {F : Fix} {h : List HO} {w : World} (hi : HIn F h w) {n : Nat} {y : HO} {o : Obj} (e : h[n]? = some y) (hy : y ≠ .dead) (hbz : F.bsz n = 1) (ho : w.heap[F.blk n]? = some o) (o' : Obj) {x : HO} (hxd : x ≠ .dead)
    (hx : OIn F { w with heap := w.heap.setIfInBounds (F.blk n) o' } n x) : HStep F F h (h.set n x) w { w with heap := w.heap.setIfInBounds (F.blk n) o' } := by
  have hlt := lt_of_get e
  have hnl : live h n := ⟨_, e, hy⟩
  have hlive : ∀ m, live (h.set n x) m → live h m := by
    rintro m ⟨z, hz, hd⟩
    by_cases hm : n = m
    · subst hm; exact hnl
    · rw [List.getElem?_set_ne hm] at hz; exact ⟨z, hz, hd⟩
  have hoth : ∀ m, m ≠ n → live h m → F.bsz m ≠ 0 → F.blk m ≠ F.blk n := fun m hm hl hb e' => hm (hi.inj m n hl hnl hb (by rw [hbz]; decide) e')
  refine ⟨Ext.refl F, ⟨by simp [hi.N], fun a v ha => ?_, fun m z hz => ?_, fun a b ha hb => hi.inj a b (hlive a ha) (hlive b hb), fun a ha => hi.dis a (hlive a ha)⟩, ⟨rfl, rfl, rfl, by simp, fun k hk hE => ?_⟩, fun m hm hb => .inr ⟨m, hlive m hm, hb, rfl⟩, fun a v ha => .inl ha⟩
  · have hab := hi.dis n hnl (by rw [hbz]; decide) a v ha
    rw [← hi.rd a v ha]; simp only [World.cell?]; rw [setBlk_off hab]
  · by_cases hm : n = m
    · subst hm; rw [List.getElem?_set_self hlt] at hz; cases hz; exact hx
    · rw [List.getElem?_set_ne hm] at hz
      by_cases hzd : z = .dead
      · subst hzd; trivial
      · exact (hi.obj m z hz).mono (Ext.refl F) (by rw [hi.N]; exact lt_of_get hz) fun hb _ => setBlk_off (hoth m (Ne.symm hm) ⟨z, hz, hzd⟩ hb)
  · exact setBlk_off fun e' => hE ⟨n, hnl, by rw [hbz]; decide, e'.symm⟩

/-! ### One operation, that comes to one of many -/
section
variable {P : Program} {T : TT} {k : Nat} {s : St} {ops : Array Oper} {rest : List Oper} {o : Oper} {K : St → Prop}
theorem IOps_r (hr : runsB ops o s = some true) (Out : IV → List HO → Prop)
    (hstep : ∀ (ρ : Operand → Value) (w : World) (F : Fix), F.base ≤ w.heap.size → HIn F s.h w → (∀ x, R F (s.ev x) (ρ x)) → ∃ nx v' G w' y h', (execOp ρ o).run P w = .ok nx w' ∧ (nx = .value v' ∨ (nx = .skip ∧ v' = undef)) ∧ HStep F G s.h h' w w' ∧ R G y v' ∧ Out y h')
    (hd : s.dstOk o.dst = true) (hnext : ∀ y h', Out y h' → IOps P k ops rest K (s.next o.dst y h')) : IOps P k ops (o :: rest) K s := by
  rintro cx a w ⟨F, hF⟩ Q hQ
  unfold wpList
  rw [if_pos (runs_wanted hr hF.env hF.size)]
  obtain ⟨nx, v', G, w', y, h', h1, h2, h3, h4, h5⟩ := hstep a.eval w F hF.hbase hF.step.hin (evOf hF.env)
  refine .inl ?_
  unfold Oper.wp
  rw [h1]
  rcases h2 with rfl | ⟨rfl, rfl⟩
  · exact hnext y h' h5 cx _ w' ⟨G, hF.next hd h3 h4⟩ Q hQ
  · exact hnext y h' h5 cx _ w' ⟨G, hF.next hd h3 h4⟩ Q hQ
end

/-! ### Exact values -/
mutual
/-- The value that an ideal one stands for, if there is just one. -/
def IV.val : IV → Option Value
  | .sc v => some v
  | .agg cs => match IV.valL cs with | some vs => some (.agg ⟨vs⟩) | none => none
  | _ => none
def IV.valL : List IV → Option (List Value)
  | [] => some []
  | c :: cs => match c.val, IV.valL cs with | some v, some vs => some (v :: vs) | _, _ => none
end
mutual
theorem R.val : ∀ {F : Fix} {c : IV} {v u : Value}, R F c v → c.val = some u → v = u
  | _, .sc _, _, _, .sc v, e => by simp only [IV.val] at e; cases e; rfl
  | _, .agg cs, _, _, .agg k, e => by
    simp only [IV.val] at e
    split at e
    · rename_i vs hvs; cases e; rw [RL.val k hvs]
    · cases e
theorem RL.val : ∀ {F : Fix} {cs : List IV} {vs us : List Value}, RL F cs vs → IV.valL cs = some us → vs = us
  | _, [], _, _, .nil, e => by simp only [IV.valL] at e; cases e; rfl
  | _, c :: cs, _, _, .cons k t, e => by
    simp only [IV.valL] at e
    split at e
    · rename_i v us h1 h2; cases e; rw [R.val k h1, RL.val t h2]
    · cases e
end

/-! ### The operations -/
section
variable {P : Program} {k nt : Nat} {env : List (Nat × IV)} {h : List HO} {ops : Array Oper} {rest : List Oper} {K : St → Prop}
theorem IOps_mk {d t ty : Nat} {pos : String} {after : Array Edge} {g : Option (Nat × Bool)} (hr : runsB ops ⟨some d, .makeMap t none, ty, pos, after, g⟩ ⟨nt, env, h⟩ = some true) (hd : Nat.blt d nt = true)
    (hn : IOps P k ops rest K ⟨nt, (d, .mp h.length) :: env, h ++ [.mp #[] 0]⟩) : IOps P k ops (⟨some d, .makeMap t none, ty, pos, after, g⟩ :: rest) K ⟨nt, env, h⟩ := by
  refine IOps_r hr (fun y h' => y = .mp h.length ∧ h' = h ++ [.mp #[] 0]) (fun ρ w F hb hi hρ => ?_) hd (by rintro y h' ⟨rfl, rfl⟩; exact hn)
  have hst := hi.allocM hb (.map #[] 0) (x := .mp #[] 0) ⟨by simp [Fix.more], by simp only [Fix.more, if_true]; exact heap_alloc_new w _⟩
  refine ⟨.value (.map (some w.heap.size)), _, F.more w.heap.size 1, w.alloc (.map #[] 0), _, _, ?_, .inl rfl, hst, ?_, rfl, rfl⟩
  · simp only [execOp, Option.map_none]
    rw [Sem.run_bind]; rfl
  · have hN := hi.N
    have : (F.more w.heap.size 1).blk F.N = w.heap.size := by simp [Fix.more]
    have hlt : F.N < (F.more w.heap.size 1).N := Nat.lt_succ_self _
    have hm := R.mp hlt
    rw [this, hN] at hm
    exact hm

theorem val_of {F : Fix} {c : IV} {v u : Value} (h : R F c v) (e : c.val = some u) : v = u := R.val h e
def mpNew (es : Array MapEntry) (k v : Value) (clock : Nat) : Array MapEntry := es.push { key := k, val := v, born := clock }
def mpOld (es : Array MapEntry) (j : Nat) (k v : Value) : Array MapEntry := es.modify j fun e => { e with key := k, val := v }
theorem mp_obj {F : Fix} {h : List HO} {w : World} (hi : HIn F h w) {n : Nat} {es : Array MapEntry} {clock : Nat} (e : h[n]? = some (.mp es clock)) : F.bsz n = 1 ∧ w.heap[F.blk n]? = some (.map es clock) := hi.obj n _ e
theorem mp_set {F : Fix} {h : List HO} {w : World} (hi : HIn F h w) {n : Nat} {es es' : Array MapEntry} {clock clock' : Nat} (e : h[n]? = some (.mp es clock)) :
    HStep F F h (h.set n (.mp es' clock')) w { w with heap := w.heap.setIfInBounds (F.blk n) (.map es' clock') } := by
  obtain ⟨h1, h2⟩ := mp_obj hi e
  exact hi.setM e (by simp) h1 h2 _ (by simp) ⟨h1, setBlk_at h2⟩
theorem IOps_mu {t kt et ty n clock : Nat} {m kx x : Operand} {pos : String} {after : Array Edge} {g : Option (Nat × Bool)} {kv xv : Value} {es : Array MapEntry} {lk : Lit} (hr : runsB ops ⟨none, .mapUpdate t m kx x, ty, pos, after, g⟩ ⟨nt, env, h⟩ = some true)
    (hu : P.underlying t = some (.map kt et)) (KL : Maps.Keyed P kt) (hm : (⟨nt, env, h⟩ : St).ev m = .mp n) (hk : ((⟨nt, env, h⟩ : St).ev kx).val = some kv) (hx : ((⟨nt, env, h⟩ : St).ev x).val = some xv) (hn : h[n]? = some (.mp es clock))
    (hlk : keyOf P kt kv = some lk) (hall : ∀ e ∈ es.toList, ∃ l, keyOf P kt e.key = some l)
    (h1 : (∀ e ∈ es.toList, e.key ≠ kv) → IOps P k ops rest K ⟨nt, env, h.set n (.mp (mpNew es kv xv clock) (clock + 1))⟩)
    (h2 : ∀ j e, es.toList[j]? = some e → e.key = kv → IOps P k ops rest K ⟨nt, env, h.set n (.mp (mpOld es j kv xv) clock)⟩) :
    IOps P k ops (⟨none, .mapUpdate t m kx x, ty, pos, after, g⟩ :: rest) K ⟨nt, env, h⟩ := by
  refine IOps_r hr (fun _ h' => (h' = h.set n (.mp (mpNew es kv xv clock) (clock + 1)) ∧ ∀ e ∈ es.toList, e.key ≠ kv) ∨ ∃ j e, h' = h.set n (.mp (mpOld es j kv xv) clock) ∧ es.toList[j]? = some e ∧ e.key = kv) (fun ρ w F hb hi hρ => ?_) rfl ?_
  · have em := hρ m; rw [hm] at em
    have ek := val_of (hρ kx) hk
    have ex := val_of (hρ x) hx
    obtain ⟨b1, b2⟩ := mp_obj hi hn
    generalize hvm : ρ m = vm at em
    cases em
    have hrun : ∀ (es' : Array MapEntry) (clock' : Nat), (setObj (F.blk n) (.map es' clock')).run P w = .ok () { w with heap := w.heap.setIfInBounds (F.blk n) (.map es' clock') } := fun es' clock' => MapKept.run_setObj_map _ b2
    rcases KL.find w hlk es.toList hall with ⟨f1, f2⟩ | ⟨j, e, f1, f2, f3⟩
    · refine ⟨.skip, undef, F, _, .sc undef, _, ?_, .inr ⟨rfl, rfl⟩, mp_set (es' := mpNew es kv xv clock) (clock' := clock + 1) hi hn, .sc _, .inl ⟨rfl, f2⟩⟩
      simp only [execOp, hvm, ek, ex, Instr.mapUpdate, Sem.run_bind, run_underlying hu, Result.andThen_ok, MapKept.run_getObj_map b2, KL.check w false hlk, f1, hrun, mpNew, Sem.run_pure]
    · refine ⟨.skip, undef, F, _, .sc undef, _, ?_, .inr ⟨rfl, rfl⟩, mp_set (es' := mpOld es j kv xv) (clock' := clock) hi hn, .sc _, .inr ⟨j, e, rfl, f2, f3⟩⟩
      have hj : es[j]? = some e := by rw [← Array.getElem?_toList]; exact f2
      simp only [execOp, hvm, ek, ex, Instr.mapUpdate, Sem.run_bind, run_underlying hu, Result.andThen_ok, MapKept.run_getObj_map b2, KL.check w false hlk, f1, hj, Option.map_some, Option.getD_some, f3, KL.stays w hlk, hrun, mpOld, Sem.run_pure]
  · rintro y h' (⟨rfl, hh⟩ | ⟨j, e, rfl, hj, he⟩)
    · exact h1 hh
    · exact h2 j e hj he
theorem IOps_ml {d t kt et ty n clock : Nat} {m : Operand} {pos : String} {after : Array Edge} {g : Option (Nat × Bool)} {es : Array MapEntry} (hr : runsB ops ⟨some d, .call ⟨.builtin .len, #[m], #[t]⟩, ty, pos, after, g⟩ ⟨nt, env, h⟩ = some true)
    (hd : Nat.blt d nt = true) (hu : P.underlying t = some (.map kt et)) (hm : (⟨nt, env, h⟩ : St).ev m = .mp n) (hn : h[n]? = some (.mp es clock))
    (h1 : IOps P k ops rest K ⟨nt, (d, .sc (.int .i64 es.size)) :: env, h⟩) : IOps P k ops (⟨some d, .call ⟨.builtin .len, #[m], #[t]⟩, ty, pos, after, g⟩ :: rest) K ⟨nt, env, h⟩ := by
  refine IOps_r hr (fun y h' => y = .sc (.int .i64 es.size) ∧ h' = h) (fun ρ w F hb hi hρ => ?_) hd (by rintro y h' ⟨rfl, rfl⟩; exact h1)
  have em := hρ m; rw [hm] at em
  obtain ⟨b1, b2⟩ := mp_obj hi hn
  generalize hvm : ρ m = vm at em
  cases em
  refine ⟨.value (.int .i64 es.size), _, F, w, _, _, ?_, .inl rfl, HStep.refl hi, .sc _, rfl, rfl⟩
  simp [execOp, resolve, invoke, builtin, Builtin.len_, hvm, run_underlying hu, MapKept.run_getObj_map b2, goInt]
theorem IOps_mr {d t kt et ty n clock : Nat} {m : Operand} {pos : String} {after : Array Edge} {g : Option (Nat × Bool)} {es : Array MapEntry} (hr : runsB ops ⟨some d, .range t m, ty, pos, after, g⟩ ⟨nt, env, h⟩ = some true)
    (hd : Nat.blt d nt = true) (hu : P.underlying t = some (.map kt et)) (hm : (⟨nt, env, h⟩ : St).ev m = .mp n) (hn : h[n]? = some (.mp es clock))
    (h1 : IOps P k ops rest K ⟨nt, (d, .ptr h.length 0) :: env, h ++ [.it n clock #[] clock]⟩) : IOps P k ops (⟨some d, .range t m, ty, pos, after, g⟩ :: rest) K ⟨nt, env, h⟩ := by
  refine IOps_r hr (fun y h' => y = .ptr h.length 0 ∧ h' = h ++ [.it n clock #[] clock]) (fun ρ w F hb hi hρ => ?_) hd (by rintro y h' ⟨rfl, rfl⟩; exact h1)
  have em := hρ m; rw [hm] at em
  obtain ⟨b1, b2⟩ := mp_obj hi hn
  have hnN : n < F.N := by rw [hi.N]; exact lt_of_get hn
  generalize hvm : ρ m = vm at em
  cases em
  have hne : n ≠ F.N := by omega
  have hst := hi.allocM hb (.mapIter (some (F.blk n)) clock #[] clock) (x := .it n clock #[] clock) ⟨by simp [Fix.more], show n < F.N + 1 by omega, by simp only [Fix.more, if_true, hne, if_false]; exact heap_alloc_new w _⟩
  refine ⟨.value (.pointer (some ⟨w.heap.size, 0, none⟩)), _, F.more w.heap.size 1, _, _, _, ?_, .inl rfl, hst, ?_, rfl, rfl⟩
  · simp only [execOp, hvm, Sem.run_bind, run_range_map w t kt et _ es clock hu b2, Result.andThen_ok, Sem.run_pure]
  · have : (F.more w.heap.size 1).blk F.N = w.heap.size := by simp [Fix.more]
    have hlt : F.N < (F.more w.heap.size 1).N := Nat.lt_succ_self _
    have hm := R.ptr (off := 0) hlt
    rw [this, hi.N] at hm
    exact hm
def mpDel (es : Array MapEntry) (j : Nat) : Array MapEntry := es.eraseIdxIfInBounds j
theorem IOps_mn {d ty n it since c0 clock : Nat} {x : Operand} {seen : Array Nat} {pos : String} {after : Array Edge} {g : Option (Nat × Bool)} {es : Array MapEntry} (hr : runsB ops ⟨some d, .next x false, ty, pos, after, g⟩ ⟨nt, env, h⟩ = some true)
    (hd : Nat.blt d nt = true) (hx : (⟨nt, env, h⟩ : St).ev x = .ptr it 0) (hit : h[it]? = some (.it n since seen c0)) (hn : h[n]? = some (.mp es clock)) (hold : ∀ e ∈ es.toList, e.born < since) (hsc : since ≤ c0)
    (h1 : (∀ e ∈ es.toList, e.born ∈ seen) → IOps P k ops rest K ⟨nt, (d, .tup [.sc (.bool false)]) :: env, h⟩)
    (h2 : ∀ e ∈ es.toList, e.born ∉ seen → IOps P k ops rest K ⟨nt, (d, .tup [.sc (.bool true), ofV e.key, ofV e.val]) :: env, h.set it (.it n since (seen.push e.born) clock)⟩) :
    IOps P k ops (⟨some d, .next x false, ty, pos, after, g⟩ :: rest) K ⟨nt, env, h⟩ := by
  have hleft : ∀ e, e ∈ (leftOf es seen).toList ↔ e ∈ es.toList ∧ e.born ∉ seen := fun e => by
    unfold leftOf; simp
  refine IOps_r hr (fun y h' => (y = .tup [.sc (.bool false)] ∧ h' = h ∧ ∀ e ∈ es.toList, e.born ∈ seen) ∨ ∃ e, y = .tup [.sc (.bool true), ofV e.key, ofV e.val] ∧ h' = h.set it (.it n since (seen.push e.born) clock) ∧ e ∈ es.toList ∧ e.born ∉ seen) (fun ρ w F hb hi hρ => ?_) hd ?_
  · have ex := hρ x; rw [hx] at ex
    obtain ⟨b1, b2⟩ := mp_obj hi hn
    obtain ⟨i1, i2, i3⟩ : F.bsz it = 1 ∧ n < F.N ∧ w.heap[F.blk it]? = some (.mapIter (some (F.blk n)) since seen c0) := hi.obj it _ hit
    generalize hvx : ρ x = vx at ex
    cases ex
    rcases Go.run_next_at (P := P) w ty (F.blk it) (F.blk n) since c0 seen es clock i3 b2 hold hsc with ⟨f1, f2⟩ | ⟨e, f1, w1, f2, f3⟩
    · refine ⟨.value (.tuple #[.bool false]), _, F, w, _, h, ?_, .inl rfl, HStep.refl hi, .tup (.cons (.sc _) .nil), .inl ⟨rfl, rfl, fun e he => ?_⟩⟩
      · simp only [execOp, hvx, Sem.run_bind, f2, Result.andThen_ok, Sem.run_pure]
      · by_cases hs : e.born ∈ seen
        · exact hs
        · have : e ∈ (leftOf es seen).toList := (hleft e).2 ⟨he, hs⟩
          have h0 : leftOf es seen = #[] := Array.eq_empty_of_size_eq_zero f1
          rw [h0] at this; simp at this
    · obtain ⟨g1, g2⟩ := (hleft e).1 f1
      have hi1 : HIn F h w1 := by
        rcases f2 with rfl | rfl
        · exact hi
        · exact hi.drew
      have i31 : w1.heap[F.blk it]? = some (.mapIter (some (F.blk n)) since seen c0) := by rcases f2 with rfl | rfl <;> exact i3
      have st := hi1.setM hit (by simp) i1 i31 (.mapIter (some (F.blk n)) since (seen.push e.born) clock) (x := .it n since (seen.push e.born) clock) (by simp) ⟨i1, i2, setBlk_at i31⟩
      refine ⟨.value (.tuple #[.bool true, e.key, e.val]), _, F, { w1 with heap := w1.heap.setIfInBounds (F.blk it) (.mapIter (some (F.blk n)) since (seen.push e.born) clock) }, _, _, ?_, .inl rfl, ?_, .tup (.cons (.sc _) (.cons (R.ofV _) (.cons (R.ofV _) .nil))), .inr ⟨e, rfl, rfl, g1, g2⟩⟩
      · simp only [execOp, hvx, Sem.run_bind, f3, Result.andThen_ok, Sem.run_pure]; rfl
      · rcases f2 with rfl | rfl
        · exact st
        · exact st.drewL
  · rintro y h' (⟨rfl, rfl, hh⟩ | ⟨e, rfl, rfl, he, hs⟩)
    · exact h1 hh
    · exact h2 e he hs
theorem IOps_me {d ty n it since clock : Nat} {x : Operand} {seen : Array Nat} {pos : String} {after : Array Edge} {g : Option (Nat × Bool)} {es : Array MapEntry} {e : MapEntry} (hr : runsB ops ⟨some d, .entry x, ty, pos, after, g⟩ ⟨nt, env, h⟩ = some true)
    (hd : Nat.blt d nt = true) (hx : (⟨nt, env, h⟩ : St).ev x = .ptr it 0) (hit : h[it]? = some (.it n since (seen.push e.born) clock)) (hn : h[n]? = some (.mp es clock)) (he : e ∈ es.toList) (hnd : (es.toList.map (·.born)).Nodup)
    (h1 : IOps P k ops rest K ⟨nt, (d, .tup [ofV e.key, ofV e.val]) :: env, h⟩) : IOps P k ops (⟨some d, .entry x, ty, pos, after, g⟩ :: rest) K ⟨nt, env, h⟩ := by
  refine IOps_r hr (fun y h' => y = .tup [ofV e.key, ofV e.val] ∧ h' = h) (fun ρ w F hb hi hρ => ?_) hd (by rintro y h' ⟨rfl, rfl⟩; exact h1)
  have ex := hρ x; rw [hx] at ex
  obtain ⟨b1, b2⟩ := mp_obj hi hn
  obtain ⟨i1, i2, i3⟩ : F.bsz it = 1 ∧ n < F.N ∧ w.heap[F.blk it]? = some (.mapIter (some (F.blk n)) since (seen.push e.born) clock) := hi.obj it _ hit
  generalize hvx : ρ x = vx at ex
  cases ex
  refine ⟨.value (.tuple #[e.key, e.val]), _, F, w, _, h, ?_, .inl rfl, HStep.refl hi, .tup (.cons (R.ofV _) (.cons (R.ofV _) .nil)), rfl, rfl⟩
  simp only [execOp, hvx, Sem.run_bind, run_entry_at w (F.blk it) (F.blk n) since seen es clock e i3 b2 he hnd, Result.andThen_ok, Sem.run_pure]
end
end Go.Idl
