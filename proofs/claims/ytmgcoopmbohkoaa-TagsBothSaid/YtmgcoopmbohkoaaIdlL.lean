/-
  Ideal states: append: as the model has it.
-/
import Derived.Test.YtmgcoopmbohkoaaIdlK
namespace Go.Idl
open Go

section
variable {P : Program} {T : TT} {F : Fix} {h : List HO} {w : World}

theorem TFact.zcells {t : Nat} {i : TI} {inf : TypeInfo} {d : TypeDesc} (hf : TFact P t i inf d) : ∃ z : Value, inf.zero = some z ∧ z.cells = ⟨i.zero.map Zv.val⟩ ∧ z.cells.size = i.size := by
  obtain ⟨z, h1, h2⟩ := hf.zero
  refine ⟨z, h1, Array.ext' h2, ?_⟩
  rw [← Array.length_toList, h2, List.length_map, hf.zlen]

theorem HIn.killAlloc (hi : HIn F h w) (hbase : F.base ≤ w.heap.size) (n : Nat) (vs : Array Value) (ty : TypeId) {nw : Bool} {cs : List IV} {pre suf : List Value} (h1 : vs.toList = pre ++ suf) (h2 : RL { F with N := 0 } cs pre) :
    HStep F (F.more w.heap.size vs.size) h (h.set n .dead ++ [.arr nw cs]) w (w.alloc (.cells vs ty)) :=
  (hi.kill n).trans ((hi.kill n).hin.alloc hbase vs ty (.inr ⟨nw, cs, pre, suf, rfl, h1, h2⟩))

theorem firstCells_all {size len cap : Nat} {a : Option Addr} {olds : List Value} (hlen : olds.length = len * size) (h : ∀ b, a = some b → ∀ j v, olds[j]? = some v → w.cell? (b.add j) = some v) (h0 : a = none → len = 0) :
    (Builtin.firstCells size len (.slice a len cap)).run P w.drew = .ok ⟨olds⟩ w.drew := by
  cases a with
  | none =>
    have := h0 rfl
    subst this
    have : olds = [] := List.length_eq_zero_iff.1 (by omega)
    subst this
    simp [Builtin.firstCells]
  | some b => exact run_firstCells_some w.drew size len b len cap olds hlen (h b rfl)

theorem grown_size {z : Value} {sz : Nat} (hz : z.cells.size = sz) {olds news : List Value} {len m c : Nat} (ho : olds.length = len * sz) (hn : news.length = m * sz) (hc : len + m ≤ c) :
    (olds.toArray ++ news.toArray ++ Builtin.zeroCells z.cells (c - (len + m))).size = c * sz := by
  simp only [Array.size_append, List.size_toArray, size_zeroCells, hz, ho, hn]
  rw [← Nat.add_mul, ← Nat.add_mul]
  congr 1
  omega

theorem more_sl {b sz len cap' esz o : Nat} (hN : F.N = h.length) (hl : len ≤ cap') (hs : cap' * esz ≤ sz) (ho : 0 < cap' → o = 0) : R (F.more b sz) (.sl h.length 0 len len esz) (.slice (some ⟨b, o, none⟩) len cap') := by
  have h1 : (F.more b sz).blk h.length = b := by simp [Fix.more, hN]
  have h2 : (F.more b sz).bsz h.length = sz := by simp [Fix.more, hN]
  have := R.sl (F := F.more b sz) (n := h.length) (off := 0) (len := len) (cap := len) (esz := esz) (cap' := cap') (o := o) (by simp [Fix.more, hN]) (Nat.le_refl _) hl ho (by rw [h2]; omega)
  rwa [h1] at this

theorem iappend_sound (hT : TOk P T) (hi : HIn F h w) (hbase : F.base ≤ w.heap.size) {t t2 ty : Nat} {s x : IV} {v u : Value} {ps : List Prop} {y : IV} {h' : List HO} (hs : R F s v) (hx : R F x u)
    (e : iappend T h [t, t2] [s, x] = some (ps, y, h')) (hp : AllP ps) :
    ∃ v' G w', (Builtin.append_ #[t, t2] ty #[v, u]).run P w = .ok v' w' ∧ HStep F G h h' w w' ∧ R G y v' := by
  unfold iappend at e
  simp only at e
  split at e
  case h_2 => cases e
  rename_i sz by' zz el ht
  obtain ⟨inf, d, hf⟩ := hT t _ ht
  have hu := hf.slc rfl
  split at e
  case h_2 => cases e
  rename_i ti hti
  obtain ⟨inf2, d2, hf2⟩ := hT el ti hti
  obtain ⟨z, hz1, hz2, hz3⟩ := hf2.zcells
  split at e
  case h_2 => cases e
  rename_i p ds m hsrc
  -- a fresh array, from a slice of no cells
  have fresh : ∀ (news : List Value), Src P w t2 u ti.size m news → RL { F with N := 0 } ds news → m * ti.bytes ≤ 140737488355328 → m ≤ 140737488355328 →
      ∃ v' G w', (Builtin.append_ #[t, t2] ty #[.slice none 0 0, u]).run P w = .ok v' w' ∧ HStep F G h (h ++ [.arr true ds]) w w' ∧ R G (.sl h.length 0 m m ti.size) v' := by
    intro news src hr hb1 hb2
    have hcount := src.count
    by_cases hm : m = 0
    · subst hm
      have h0 : news = [] := List.length_eq_zero_iff.1 (by omega)
      subst h0
      cases hr
      refine ⟨.slice none 0 0, F.more 0 0, w, ?_, hi.virt true, ?_⟩
      · rw [append_room_run hu hf2.info hf2.size src (Nat.le_refl _)]; rfl
      · exact .slnil (by rw [← hi.N]; exact Nat.lt_succ_self _)
    · have hrun := append_grow_run (ty := ty) hu hf2.info hf2.size hz1 src (a := none) (sLen := 0) (sCap := 0) (olds := []) (firstCells_all (by simp) (by simp) (fun _ => rfl)) (by omega) (by rw [Nat.zero_add, hf2.bytes]; exact hb1) (by omega)
      rw [Nat.zero_add] at hrun
      have hge := grownCap_ge w m 0 el
      have hsz := grown_size (len := 0) (olds := []) hz3 (by simp) hcount (by rw [Nat.zero_add]; exact hge)
      rw [Nat.zero_add] at hsz
      refine ⟨_, _, _, hrun, (HIn.alloc hi.drew hbase _ el (.inr ⟨true, ds, news, (Builtin.zeroCells z.cells (grownCap w m 0 el - m)).toList, rfl, by simp, hr⟩)).drewL, ?_⟩
      exact more_sl hi.N hge (Nat.le_of_eq hsz.symm) (fun _ => rfl)
  split at e
  · cases e
    obtain ⟨hp1, hp2, hp3, _⟩ := AllP.append hp
    obtain ⟨news, src, hr⟩ := isrc_sound hT hi hx hsrc hp1
    cases hs
    exact fresh news src hr hp2 hp3
  · rename_i n off len cap esz
    split at e
    case h_2 => cases e
    rename_i cs hcs
    split at e
    case isFalse => cases e
    rename_i hb
    simp only [Bool.and_eq_true] at hb
    obtain ⟨⟨hb1, hb2⟩, hb3⟩ := hb
    have hoff : off = 0 := Nat.eq_of_beq_eq_true hb1
    have hesz : esz = ti.size := Nat.eq_of_beq_eq_true hb2
    subst hoff hesz
    cases e
    obtain ⟨hp1, q1, q2, q3, q4, _⟩ := AllP.append hp
    obtain ⟨news, src, hr⟩ := isrc_sound hT hi hx hsrc hp1
    have hcount := src.count
    obtain ⟨xo, hxo, hx1 | ⟨bb, hx1⟩⟩ := hcells_get hcs
    · subst hx1; simp [isArr, hxo] at hb3
    subst hx1
    have hflag : flagOf h n = bb := by simp [flagOf, hxo]
    rw [hflag]
    have hnl : live h n := ⟨_, hxo, by simp⟩
    have hk := hi.kill n
    cases hs with
    | slnil hn =>
      -- nil: as above, the name dies besides
      have hcs0 : cs = [] := List.length_eq_zero_iff.1 (by omega)
      subst hcs0
      rw [Nat.zero_add]
      by_cases hm : m = 0
      · subst hm
        have h0 : news = [] := List.length_eq_zero_iff.1 (by omega)
        subst h0
        cases hr
        refine ⟨.slice none 0 0, F.more 0 0, w, ?_, hk.trans (by simpa using hk.hin.virt bb), ?_⟩
        · rw [append_room_run hu hf2.info hf2.size src (Nat.le_refl _)]; rfl
        · exact .slnil (by rw [← hi.N]; exact Nat.lt_succ_self _)
      · have hrun := append_grow_run (ty := ty) hu hf2.info hf2.size hz1 src (a := none) (sLen := 0) (sCap := 0) (olds := []) (firstCells_all (by simp) (by simp) (fun _ => rfl)) (by omega) (by rw [Nat.zero_add, hf2.bytes]; rw [Nat.zero_add] at q1; exact q1) (by omega)
        rw [Nat.zero_add] at hrun
        have hge := grownCap_ge w m 0 el
        have hsz := grown_size (len := 0) (olds := []) hz3 (by simp) hcount (by rw [Nat.zero_add]; exact hge)
        rw [Nat.zero_add] at hsz
        refine ⟨_, _, _, hrun, (HIn.killAlloc hi.drew hbase n _ el (pre := news) (suf := (Builtin.zeroCells z.cells (grownCap w m 0 el - m)).toList) (by simp) (by simpa using hr)).drewL, ?_⟩
        exact more_sl hi.N hge (Nat.le_of_eq hsz.symm) (fun _ => rfl)
    | sl hn hl' hc ho hss =>
      rename_i cap' o
      by_cases hroom : len + m ≤ cap'
      · -- there is room: in place
        have hrun : (Builtin.append_ #[t, t2] ty #[.slice (some ⟨F.blk n, o, none⟩) len cap', u]).run P w =
            ((storeCells ⟨F.blk n, o + len * ti.size, none⟩ news).run P w).andThen fun _ w' => .ok (.slice (some ⟨F.blk n, o, none⟩) (len + m) cap') w' := by
          rw [append_room_run (ty := ty) (a := some ⟨F.blk n, o, none⟩) hu hf2.info hf2.size src hroom]
          simp only [Addr.add_lit]
        by_cases hbz : F.bsz n = 0
        · -- a block of no cells
          have hz0 : (len + m) * ti.size = 0 := by have := Nat.mul_le_mul_right ti.size hroom; omega
          rw [Nat.add_mul] at hz0
          have h0 : news = [] := List.length_eq_zero_iff.1 (by omega)
          have hc0 : cs = [] := List.length_eq_zero_iff.1 (by omega)
          subst h0 hc0
          cases hr
          refine ⟨.slice (some ⟨F.blk n, o, none⟩) (len + m) cap', F.more (F.blk n) 0, w, ?_, hk.trans ⟨F.ext_more _ _, ?_, Fr.refl _ _, fun k hl hb => ?_, fun a v ha => .inl ha⟩, more_sl hi.N hroom (by omega) ho⟩
          · rw [hrun]; rfl
          · exact hk.hin.more (.inl ⟨by simp [Fix.more], rfl⟩) hi.rd (fun _ _ _ => rfl) (fun h => absurd rfl h)
          · rcases live_append hl with ⟨n1, n2⟩ | n1
            · right
              have : k ≠ F.N := by have := hi.N; simp at n1; omega
              exact ⟨k, n2, by simpa [Fix.more, this] using hb, by simp [Fix.more, this]⟩
            · exfalso; subst n1; apply hb; simp [Fix.more, hi.N]
        · rcases hi.obj n _ hxo with ⟨h1, _⟩ | ⟨vs, tyb, lo, hi', k1, k2, k3, k4, pp, ss, k5, k6⟩
          · exact absurd h1 hbz
          have hpl := k6.length
          have hnl2 : len * ti.size + news.length ≤ vs.size := by
            rw [hcount, ← Nat.add_mul, k2]
            have := Nat.mul_le_mul_right ti.size hroom; omega
          have hst : ∃ w', (storeCells ⟨F.blk n, o + len * ti.size, none⟩ news).run P w = .ok () w' ∧ w'.heap[F.blk n]? = some (.cells ⟨splice vs.toList (len * ti.size) news⟩ tyb (lo, hi')) ∧ (∀ k, k ≠ F.blk n → w'.heap[k]? = w.heap[k]?) ∧
              w'.heap.size = w.heap.size ∧ w'.os = w.os ∧ w'.tape = w.tape ∧ w'.output = w.output := by
            by_cases hc0 : 0 < cap'
            · have ho' := ho hc0
              subst ho'
              have := run_storeCells_at (P := P) news (0 + len * ti.size) 0 w vs k1 (by omega) k3 (hr.opened.ones q4)
              simpa only [Nat.add_zero, Nat.zero_add] using this
            · have hm0 : m = 0 := by omega
              have h0 : news = [] := List.length_eq_zero_iff.1 (by rw [hcount, hm0, Nat.zero_mul])
              subst h0
              exact ⟨w, rfl, by rw [splice_nil]; exact k1, fun _ _ => rfl, rfl, rfl, rfl, rfl⟩
          obtain ⟨w', s1, s2, s3, s4, s5, s6, s7⟩ := hst
          have hNb : (F.more (F.blk n) (F.bsz n)).blk F.N = F.blk n := by simp [Fix.more]
          have hNs : (F.more (F.blk n) (F.bsz n)).bsz F.N = F.bsz n := by simp [Fix.more]
          have hkl : ∀ k, live (h.set n .dead) k → live h k ∧ k ≠ n := by
            rintro k ⟨x, hx, hd⟩
            by_cases hm : n = k
            · subst hm; rw [List.getElem?_set] at hx; simp at hx; exact absurd hx.2.symm hd
            · rw [List.getElem?_set_ne hm] at hx; exact ⟨⟨x, hx, hd⟩, Ne.symm hm⟩
          have hpre : (len * ti.size) = pp.length := by omega
          refine ⟨.slice (some ⟨F.blk n, o, none⟩) (len + m) cap', F.more (F.blk n) (F.bsz n), w', ?_, ⟨F.ext_more _ _, ?_, ⟨s5, s6, s7, by omega, fun k hk' hE => ?_⟩, fun k hl hb => ?_, fun a v ha => .inl ha⟩, more_sl hi.N hroom (by omega) ho⟩
          · rw [hrun, s1]; rfl
          · refine hk.hin.more (.inr ⟨⟨splice vs.toList (len * ti.size) news⟩, tyb, lo, hi', by rw [hNb]; exact s2, ?_, ?_, ?_, pp ++ news, vs.toList.drop (len * ti.size + news.length), ?_, ?_⟩) (fun a v ha => ?_) (fun k hl hb => ?_) fun _ => ⟨fun k hl hb e => ?_, fun a v ha => hi.dis n hnl hbz a v ha⟩
            · rw [hNs]; show (splice vs.toList (len * ti.size) news).length = _; rw [splice_length _ _ _ (by simpa using hnl2)]; simpa using k2
            · intro q hq
              have h6 : (⟨splice vs.toList (len * ti.size) news⟩ : Array Value).size = (splice vs.toList (len * ti.size) news).length := rfl
              rw [splice_length _ _ _ (by simpa using hnl2), Array.length_toList] at h6
              exact k3 q (by omega)
            · intro e; rw [hNb]; exact k4 e
            · show splice vs.toList _ _ = _
              unfold splice
              rw [k5, hpre, List.take_left, List.append_assoc]
            · exact (k6.mono (F.ext_more _ _).weak.zero).append (hr.mono (F.ext_more _ _).weak.zero)
            · have := hi.rd a v ha
              rw [← this]; simp only [World.cell?]; rw [s3 _ (hi.dis n hnl hbz a v ha)]
            · exact s3 _ fun e => (hkl k hl).2 (hi.inj k n (hkl k hl).1 hnl hb hbz e)
            · exact (hkl k hl).2 (hi.inj k n (hkl k hl).1 hnl hb hbz e)
          · exact s3 k fun e => hE ⟨n, hnl, hbz, e.symm⟩
          · rcases live_append hl with ⟨n1, n2⟩ | n1
            · right
              have : k ≠ F.N := by have := hi.N; simp at n1; omega
              exact ⟨k, (hkl k n2).1, by simpa [Fix.more, this] using hb, by simp [Fix.more, this]⟩
            · right
              refine ⟨n, hnl, hbz, ?_⟩
              subst n1
              have : (h.set n HO.dead).length = F.N := by simp [hi.N]
              rw [this, hNb]
      · -- it grows: a new block
        have hold : ∃ olds, olds.length = len * ti.size ∧ RL { F with N := 0 } cs olds ∧ ∀ j v, olds[j]? = some v → w.cell? ((⟨F.blk n, o, none⟩ : Addr).add j) = some v := by
          obtain ⟨us, u1, u2, u3⟩ := hi.cells hcs 0 (len * ti.size) (by omega)
          have h5 : (cs.drop 0).take (len * ti.size) = cs := by rw [List.drop_zero, ← q3, List.take_length]
          have u4 := hi.cellsArr hcs hb3 u2 u3
          rw [h5] at u4
          refine ⟨us, u1, u4, fun j v hj => ?_⟩
          rw [Addr.add_lit]
          by_cases hc0 : 0 < cap'
          · rw [ho hc0]; exact u3 j v hj
          · have : len = 0 := by omega
            rw [this, Nat.zero_mul] at u1
            have := lt_of_get hj; omega
        obtain ⟨olds, o1, o2, o3⟩ := hold
        have hrun := append_grow_run (ty := ty) hu hf2.info hf2.size hz1 src (a := some ⟨F.blk n, o, none⟩) (sLen := len) (sCap := cap') (olds := olds) (firstCells_all o1 (fun b hb => by cases hb; exact o3) (fun h => by cases h)) (by omega) (by rw [hf2.bytes]; exact q1) q2
        have hge := grownCap_ge w (len + m) cap' el
        have hsz := grown_size hz3 o1 hcount hge
        refine ⟨_, _, _, hrun, (HIn.killAlloc hi.drew hbase n _ el (pre := olds ++ news) (suf := (Builtin.zeroCells z.cells (grownCap w (len + m) cap' el - (len + m))).toList) (by simp) (o2.append hr)).drewL, more_sl hi.N hge (Nat.le_of_eq hsz.symm) (fun _ => rfl)⟩
  · cases e

end
end Go.Idl
