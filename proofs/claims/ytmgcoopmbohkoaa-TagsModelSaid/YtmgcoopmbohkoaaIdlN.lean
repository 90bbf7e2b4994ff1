/-
  Ideal states: copy, append in place, literals of slices, boxes, conversions, lengths: as the model has them.
-/
import Derived.Test.YtmgcoopmbohkoaaIdlM
namespace Go.Idl
open Go

section
variable {P : Program} {T : TT} {F : Fix} {h : List HO} {w : World}

theorem hset_self {n : Nat} {cs : List IV} (e : hcells h n = some cs) : hset h n cs = h := by
  rcases hset_get (cs' := cs) e with ⟨h1, h2⟩ | ⟨b, h1, h2⟩ <;> rw [h2] <;> exact set_same h1

theorem iappendIn_sound (hT : TOk P T) (hi : HIn F h w) {t t2 ty : Nat} {s x : IV} {v u : Value} {ps : List Prop} {y : IV} {h' : List HO} (hs : R F s v) (hx : R F x u)
    (e : iappendIn T h [t, t2] [s, x] = some (ps, y, h')) (hp : AllP ps) :
    ∃ v' w', (Builtin.append_ #[t, t2] ty #[v, u]).run P w = .ok v' w' ∧ HStep F F h h' w w' ∧ R F y v' := by
  unfold iappendIn at e
  split at e
  case h_2 => cases e
  rename_i t' t2' n off len cap esz x' heq1 heq2
  cases heq1; cases heq2
  split at e
  case h_2 => cases e
  rename_i sz by' zz el ht
  obtain ⟨inf, d, hf⟩ := hT t _ ht
  have hu := hf.slc rfl
  split at e
  case h_2 => cases e
  rename_i ti hti
  obtain ⟨inf2, d2, hf2⟩ := hT el ti hti
  split at e
  case h_2 => cases e
  rename_i p ds m cs hsrc hcs
  split at e
  case isFalse => cases e
  rename_i hesz
  have hesz' : esz = ti.size := Nat.eq_of_beq_eq_true hesz
  subst hesz'
  cases e
  obtain ⟨hp1, q1, q2, q4, _⟩ := AllP.append hp
  obtain ⟨news, src, hr⟩ := isrc_sound hT hi hx hsrc hp1
  have hcount := src.count
  have hlen := hr.length
  cases hs with
  | slnil hn =>
    have hm : m = 0 := by omega
    subst hm
    have h0 : news = [] := List.length_eq_zero_iff.1 (by omega)
    subst h0
    cases hr
    refine ⟨.slice none 0 0, w, ?_, ?_, .slnil hn⟩
    · rw [append_room_run hu hf2.info hf2.size src (Nat.le_refl _)]; rfl
    · rw [splice_nil, hset_self hcs]; exact HStep.refl hi
  | sl hn hl' hc ho hss =>
    rename_i cap' o
    have hrun : (Builtin.append_ #[t, t2] ty #[.slice (some ⟨F.blk n, o, none⟩) len cap', u]).run P w =
        ((storeCells ⟨F.blk n, o + len * ti.size, none⟩ news).run P w).andThen fun _ w' => .ok (.slice (some ⟨F.blk n, o, none⟩) (len + m) cap') w' := by
      rw [append_room_run (ty := ty) (a := some ⟨F.blk n, o, none⟩) hu hf2.info hf2.size src (by omega)]
      simp only [Addr.add_lit]
    by_cases hc0 : 0 < cap'
    · have ho' := ho hc0
      subst ho'
      obtain ⟨w', k1, k2⟩ := write_sound (P := P) hi hcs (o := o + len * ti.size) (by rw [hlen, hcount, Nat.add_assoc, ← Nat.add_mul]; exact q2) hr.opened (.inr hr) (hr.opened.ones q4)
      refine ⟨_, w', by rw [hrun, k1]; rfl, k2, .sl hn q1 hc ho hss⟩
    · have hm : m = 0 := by omega
      subst hm
      have h0 : news = [] := List.length_eq_zero_iff.1 (by omega)
      subst h0
      cases hr
      refine ⟨.slice (some ⟨F.blk n, o, none⟩) (len + 0) cap', w, by rw [hrun]; rfl, ?_, .sl hn q1 hc ho hss⟩
      rw [splice_nil, hset_self hcs]; exact HStep.refl hi

theorem icopy_sound (hT : TOk P T) (hi : HIn F h w) {t t2 ty : Nat} {s x : IV} {v u : Value} {ps : List Prop} {y : IV} {h' : List HO} (hs : R F s v) (hx : R F x u)
    (e : icopy T h [t, t2] [s, x] = some (ps, y, h')) (hp : AllP ps) :
    ∃ v' w', (Builtin.copy_ #[t, t2] ty #[v, u]).run P w = .ok v' w' ∧ HStep F F h h' w w' ∧ R F y v' := by
  unfold icopy at e
  split at e
  case h_2 => cases e
  rename_i t' t2' n off len cap esz x' heq1 heq2
  cases heq1; cases heq2
  split at e
  case h_2 => cases e
  rename_i sz by' zz el ht
  obtain ⟨inf, d, hf⟩ := hT t _ ht
  have hu := hf.slc rfl
  split at e
  case h_2 => cases e
  rename_i ti hti
  obtain ⟨inf2, d2, hf2⟩ := hT el ti hti
  split at e
  case h_2 => cases e
  rename_i p ds m cs hsrc hcs
  split at e
  case isFalse => cases e
  rename_i hesz
  have hesz' : esz = ti.size := Nat.eq_of_beq_eq_true hesz
  subst hesz'
  cases e
  obtain ⟨hp1, q2, q4, _⟩ := AllP.append hp
  obtain ⟨news, src, hr⟩ := isrc_sound hT hi hx hsrc hp1
  have hcount := src.count
  have hlen := hr.length
  have h1 := src.len w
  have h2 := src.first (min m len) (Nat.min_le_left _ _) w (fun _ _ h => h)
  have hmin : Nat.min m len = min m len := rfl
  cases hs with
  | slnil hn =>
    have hm : min m 0 = 0 := Nat.min_zero _
    rw [hm] at h2 ⊢
    refine ⟨.int .i64 0, w, ?_, ?_, .sc _⟩
    · simp [Builtin.copy_, run_underlying hu, h1, run_sizeOf hf2.info, hf2.size, goInt]
      rw [h2]; rfl
    · simp only [Nat.zero_mul, List.take_zero]
      rw [splice_nil, hset_self hcs]; exact HStep.refl hi
  | sl hn hl' hc ho hss =>
    rename_i cap' o
    have hrun : (Builtin.copy_ #[t, t2] ty #[.slice (some ⟨F.blk n, o, none⟩) len cap', u]).run P w =
        ((storeCells ⟨F.blk n, o, none⟩ (news.take (min m len * ti.size))).run P w).andThen fun _ w' => .ok (.int .i64 (min m len : Nat)) w' := by
      simp [Builtin.copy_, run_underlying hu, h1, run_sizeOf hf2.info, hf2.size, goInt, hmin, h2]
    have htl : (ds.take (min m len * ti.size)).length = min m len * ti.size := by
      have := Nat.mul_le_mul_right ti.size (Nat.min_le_left m len)
      rw [List.length_take, hlen, hcount]; omega
    have hr2 := hr.take (min m len * ti.size)
    by_cases hc0 : 0 < cap'
    · have ho' := ho hc0
      subst ho'
      obtain ⟨w', k1, k2⟩ := write_sound (P := P) hi hcs (o := o) (by rw [htl]; exact q2) hr2.opened (.inr hr2) (fun v hv => hr.opened.ones q4 v (List.mem_of_mem_take hv))
      refine ⟨_, w', by rw [hrun, k1]; rfl, k2, .sc _⟩
    · have hm : min m len = 0 := by omega
      rw [hm] at hrun ⊢
      simp only [Nat.zero_mul, List.take_zero] at hrun ⊢
      refine ⟨.int .i64 (0 : Nat), w, by rw [hrun]; rfl, ?_, .sc _⟩
      rw [splice_nil, hset_self hcs]; exact HStep.refl hi

theorem newHO_ok {cs : List IV} {vs : Array Value} (hr : RL F cs vs.toList) :
    (∃ cs', newHO cs = .box cs' ∧ RL F cs' vs.toList) ∨ ∃ nw cs' pre suf, newHO cs = .arr nw cs' ∧ vs.toList = pre ++ suf ∧ RL { F with N := 0 } cs' pre := by
  unfold newHO
  cases hc : IV.closedL cs with
  | true => exact .inr ⟨true, cs, vs.toList, [], rfl, by simp, RL.shut hc hr⟩
  | false => exact .inl ⟨cs, rfl, hr⟩

theorem ifill_length {place : Nat → Option (Nat × Nat)} : ∀ {parts : List (Nat × IV)} {cs out : List IV} {ps : List Prop}, ifill place cs parts = some (ps, out) → AllP ps → out.length = cs.length
  | [], cs, out, ps, e, _ => by simp [ifill] at e; rw [e.2]
  | (i, c) :: parts, cs, out, ps, e, hp => by
    unfold ifill at e
    split at e
    · split at e
      case h_2 => cases e
      rename_i hrec
      cases e
      rw [ifill_length hrec hp.2.2, splice_length _ _ _ hp.2.1]
    · cases e
    · cases e
    · split at e
      case isFalse => cases e
      split at e
      case h_2 => cases e
      rename_i hrec
      cases e
      rw [ifill_length hrec hp.2, List.length_set]
    · cases e

theorem ibuildSlice_sound (hT : TOk P T) (hi : HIn F h w) (hbase : F.base ≤ w.heap.size) {t len : Nat} {parts : List (Nat × IV)} {vp : List (Nat × Value)} {ps : List Prop} {y : IV} {h' : List HO}
    (hn : parts.map (·.1) = vp.map (·.1)) (hr : RL F (parts.map (·.2)) (vp.map (·.2))) (e : ibuildSlice T h t len parts = some (ps, y, h')) (hp : AllP ps) :
    ∃ v' G w', (Instr.buildSlice t len ⟨vp⟩).run P w = .ok v' w' ∧ HStep F G h h' w w' ∧ R G y v' := by
  unfold ibuildSlice at e
  split at e
  case h_2 => cases e
  rename_i sz by' zz el ht
  obtain ⟨inf, d, hf⟩ := hT t _ ht
  have hu := hf.slc rfl
  split at e
  case h_2 => cases e
  rename_i ti hti
  obtain ⟨inf2, d2, hf2⟩ := hT el ti hti
  obtain ⟨z, hz1, hz2, hz3⟩ := hf2.zcells
  split at e
  case h_2 => cases e
  rename_i p cs hfill
  split at e
  case isFalse => cases e
  rename_i hble
  have hble' := Nat.le_of_ble_eq_true hble
  cases e
  obtain ⟨uo, k1, k2⟩ := ifill_sound (RL.zrep RL.zerosOf len) hn hr hfill hp
  have hlen0 : (List.replicate len (ti.zero.map Zv.val)).flatten.length = len * ti.size := by simp [hf2.zlen]
  have hzero : (if len * ti.size = 0 then (pure #[] : Sem (Array Value)) else do pure (← zeroValue el).cells).run P w = .ok (if len * ti.size = 0 then #[] else z.cells) w := by
    split
    · rfl
    · simp [run_zeroValue hf2.info hz1]
  have hcells : ((Array.range (len * ti.size)).map fun i => (if len * ti.size = 0 then #[] else z.cells)[i % (if len * ti.size = 0 then (#[] : Array Value) else z.cells).size]!) = ⟨(List.replicate len (ti.zero.map Zv.val)).flatten⟩ := by
    apply Array.ext'
    rw [Array.toList_map, Array.toList_range]
    by_cases h0 : len * ti.size = 0
    · rw [h0]
      have : (List.replicate len (ti.zero.map Zv.val)).flatten = [] := List.length_eq_zero_iff.1 (by rw [hlen0, h0])
      rw [this]; rfl
    · simp only [if_neg h0]
      have hzl : (ti.zero.map Zv.val).length = ti.size := by rw [List.length_map, hf2.zlen]
      have := range_mod (ti.zero.map Zv.val) len
      rw [hzl] at this
      rw [hz2, ← this]
      apply List.map_congr_left
      intro i _
      have : (⟨ti.zero.map Zv.val⟩ : Array Value).size = ti.size := hzl
      rw [this]
  have hout : uo.length = len * ti.size := by
    rw [← k2.length, ifill_length hfill hp, zrep_eq]
    simp [zerosOf, hf2.zlen]
  have hrun : (Instr.buildSlice t len ⟨vp⟩).run P w = .ok (.slice (some ⟨w.heap.size, 0, none⟩) len len) (w.alloc (.cells ⟨uo⟩ el)) := by
    have e24 : (2 : Nat) ^ 24 = 16777216 := by decide
    have hbig : ¬ (len * ti.size > 2 ^ 24) := by omega
    simp only [Instr.buildSlice, Sem.run_bind, run_underlying hu, Result.andThen_ok, run_sizeOf hf2.info, hf2.size]
    rw [if_neg hbig]
    by_cases h0 : len * ti.size = 0
    · simp only [h0, if_true] at hcells ⊢
      simp only [Sem.run_pure, Result.andThen_ok, Sem.run_bind, hcells, k1]
      rfl
    · simp only [h0, if_false] at hcells ⊢
      simp only [Sem.run_pure, Result.andThen_ok, Sem.run_bind, run_zeroValue hf2.info hz1, hcells, k1]
      rfl
  have hst := hi.alloc hbase ⟨uo⟩ el (newHO_ok (vs := ⟨uo⟩) k2)
  exact ⟨_, _, _, hrun, hst, more_sl hi.N (Nat.le_refl _) (Nat.le_of_eq hout.symm) (fun _ => rfl)⟩

/-! ### Boxes -/
theorem ialloc_sound (hT : TOk P T) (hi : HIn F h w) (hbase : F.base ≤ w.heap.size) {t : Nat} {ti : TI} (ht : T.get t = some ti) (x : Value) :
    ∃ v' G w', (Instr.alloc t true x).run P w = .ok v' w' ∧ HStep F G h (h ++ [.box (zerosOf ti)]) w w' ∧ R G (.ptr h.length 0) v' := by
  obtain ⟨inf, d, hf⟩ := hT t _ ht
  obtain ⟨z, hz1, hz2, hz3⟩ := hf.zcells
  refine ⟨.pointer (some ⟨w.heap.size, 0, none⟩), _, w.alloc (.cells z.cells t), ?_, hi.alloc hbase z.cells t (.inl ⟨_, rfl, by rw [hz2]; exact RL.zerosOf⟩), ?_⟩
  · simp [Instr.alloc, run_zeroValue hf.info hz1, newVar, newRow]
  · have h1 : (F.more w.heap.size z.cells.size).blk h.length = w.heap.size := by simp [Fix.more, hi.N]
    have := R.ptr (F := F.more w.heap.size z.cells.size) (n := h.length) (off := 0) (by simp [Fix.more, hi.N])
    rwa [h1] at this

def ibox (h : List HO) (x : IV) : Option (IV × List HO) :=
  match x with
  | .agg ds => some (.ptr h.length 0, h ++ [.box ds])
  | x => if x.one then some (.ptr h.length 0, h ++ [.box [x]]) else none

theorem ibox_sound (hi : HIn F h w) (hbase : F.base ≤ w.heap.size) {t : Nat} {x y : IV} {v : Value} {h' : List HO} (hr : R F x v) (e : ibox h x = some (y, h')) :
    ∃ v' G w', (Instr.box t v).run P w = .ok v' w' ∧ HStep F G h h' w w' ∧ R G y v' := by
  have core : ∀ ds, RL F ds v.cells.toList → ∃ v' G w', (Instr.box t v).run P w = .ok v' w' ∧ HStep F G h (h ++ [.box ds]) w w' ∧ R G (.ptr h.length 0) v' := by
    intro ds hd
    refine ⟨.pointer (some ⟨w.heap.size, 0, none⟩), _, w.alloc (.cells v.cells t), ?_, hi.alloc hbase v.cells t (.inl ⟨ds, rfl, hd⟩), ?_⟩
    · simp [Instr.box, newVar, newRow]
    · have h1 : (F.more w.heap.size v.cells.size).blk h.length = w.heap.size := by simp [Fix.more, hi.N]
      have := R.ptr (F := F.more w.heap.size v.cells.size) (n := h.length) (off := 0) (by simp [Fix.more, hi.N])
      rwa [h1] at this
  unfold ibox at e
  split at e
  · cases e
    cases hr with
    | agg hl => exact core _ hl
  · split at e
    case isFalse => cases e
    rename_i hone
    cases e
    exact core _ (by rw [hr.cellsOne hone]; exact .cons hr .nil)

/-! ### Conversions, lengths -/
theorem strBytes_sound (hi : HIn F h w) (hbase : F.base ≤ w.heap.size) (e : Nat) (s : ByteArray) :
    ∃ v' G w', (Conv.stringToBytes e s).run P w = .ok v' w' ∧ HStep F G h (h ++ [.arr true (s.data.toList.map fun b => .sc (.int .u8 b.toNat))]) w w' ∧
      R G (.sl h.length 0 s.data.toList.length s.data.toList.length 1) v' := by
  let c := (Question.appendCap s.size 0 e).cut (w.tape w.drawn (.appendCap s.size 0 e))
  let vs : Array Value := s.data.map (fun b => Value.int .u8 b.toNat) ++ Array.replicate (c - s.size) (.int .u8 0)
  have hge : s.size ≤ c := by simp [c, Question.cut]
  have hsz : s.data.size = s.size := rfl
  have hvs : vs.size = c := by simp [vs, hsz]; omega
  let w1 : World := { w with heap := w.heap.push (.cells vs e), drawn := w.drawn + 1 }
  have hsh : w1.shape? w.heap.size = some (e, c) := by
    simp only [World.shape?, w1, Array.getElem?_push_size, hvs]
  have hrun : (Conv.stringToBytes e s).run P w = .ok (.slice (some ⟨w.heap.size, 0, none⟩) s.size c) (w1.freeze ⟨w.heap.size, c, none⟩ 1) := by
    simp only [Conv.stringToBytes, Sem.run_bind, run_choose, Question.forced, Bool.false_eq_true, if_false, Result.andThen_ok, newRow, run_newObj, Sem.run_pure, markStringish, run_shape]
    show ((match w1.shape? w.heap.size with | some (_, n) => (freeze { block := w.heap.size, off := n } 1) | _ => pure () : Sem Unit).run P w1).andThen _ = _
    rw [hsh]
    rfl
  have hfz : (w1.freeze ⟨w.heap.size, c, none⟩ 1).heap = w1.heap.modify w.heap.size (fun | .cells c' elem (lo, hi) => .cells c' elem (if lo == hi then (c, c + 1) else (min lo c, max hi (c + 1))) | o => o) := rfl
  have hst := hi.allocG (w' := w1.freeze ⟨w.heap.size, c, none⟩ 1) hbase vs e c (c + 1) (x := .arr true (s.data.toList.map fun b => .sc (.int .u8 b.toNat)))
    (.inr ⟨true, _, (s.data.map (fun b => Value.int .u8 b.toNat)).toList, (Array.replicate (c - s.size) (Value.int .u8 0)).toList, rfl, by simp [vs], by
      have := RL.map_sc (F := { F with N := 0 }) (s.data.toList.map fun b => Value.int .u8 b.toNat)
      rw [List.map_map] at this
      rw [Array.toList_map]; exact this⟩)
    (fun k hk => by
      rw [hfz, Array.getElem?_modify, if_neg (by omega)]
      show (w.heap.push _)[k]? = _
      rw [Array.getElem?_push, if_neg (by omega)])
    (by
      rw [hfz, Array.getElem?_modify, if_pos rfl]
      show Option.map _ ((w.heap.push _)[w.heap.size]?) = _
      rw [Array.getElem?_push_size]; rfl)
    (by rw [hfz, Array.size_modify]; show _ ≤ (w.heap.push _).size; simp) rfl rfl rfl (fun o ho => by omega)
  refine ⟨_, _, _, hrun, hst, ?_⟩
  rw [← size_len]
  exact more_sl hi.N hge (by omega) (fun _ => rfl)

end
end Go.Idl
