/-
  Ideal states: append, copy, clear, make, new blocks: as the model has them.
-/
import Derived.Test.YtmgcoopmbohkoaaIdlJ
namespace Go.Idl
open Go

def isArr (h : List HO) (n : Nat) : Bool :=
  match h[n]? with
  | some (.arr _ _) => true
  | _ => false

def isrc (T : TT) (h : List HO) (t : Nat) (x : IV) (esz : Nat) : Option (List Prop × List IV × Nat) :=
  match T.get t, x with
  | some ⟨_, _, _, .slc _⟩, .fz _ cs len => some ([cs.length = len * esz], cs, len)
  | some ⟨_, _, _, .slc _⟩, .sl n off len _ _ =>
    match hcells h n with
    | some cs => if isArr h n || IV.closedL ((cs.drop off).take (len * esz)) then some ([off + len * esz ≤ cs.length], (cs.drop off).take (len * esz), len) else none
    | none => none
  | some ⟨_, _, _, .slc _⟩, .sc (.slice none 0 0) => some ([], [], 0)
  | some ⟨_, _, _, .str⟩, .sc (.string s) => if Nat.beq esz 1 then some ([], s.data.toList.map fun b => .sc (.int .u8 b.toNat), s.data.toList.length) else none
  | _, _ => none

def flagOf (h : List HO) (n : Nat) : Bool :=
  match h[n]? with
  | some (.arr b _) => b
  | _ => false

def iappend (T : TT) (h : List HO) (types : List Nat) (args : List IV) : Option (List Prop × IV × List HO) :=
  match types, args with
  | [t, t2], [s, x] =>
    match T.get t with
    | some ⟨_, _, _, .slc e⟩ =>
      match T.get e with
      | some ti =>
        match isrc T h t2 x ti.size with
        | some (p, ds, m) =>
          match s with
          | .sc (.slice none 0 0) => some (p ++ [m * ti.bytes ≤ 140737488355328, m ≤ 140737488355328], .sl h.length 0 m m ti.size, h ++ [.arr true ds])
          | .sl n off len _ esz =>
            match hcells h n with
            | some cs =>
              if Nat.beq off 0 && Nat.beq esz ti.size && isArr h n then
                some (p ++ [(len + m) * ti.bytes ≤ 140737488355328, len + m ≤ 140737488355328, cs.length = len * esz, IV.ones ds = true],
                  .sl h.length 0 (len + m) (len + m) esz, h.set n .dead ++ [.arr (flagOf h n) (cs ++ ds)])
              else none
            | none => none
          | _ => none
        | none => none
      | none => none
    | _ => none
  | _, _ => none

def iappendIn (T : TT) (h : List HO) (types : List Nat) (args : List IV) : Option (List Prop × IV × List HO) :=
  match types, args with
  | [t, t2], [.sl n off len cap esz, x] =>
    match T.get t with
    | some ⟨_, _, _, .slc e⟩ =>
      match T.get e with
      | some ti =>
        match isrc T h t2 x ti.size, hcells h n with
        | some (p, ds, m), some cs =>
          if Nat.beq esz ti.size then
            some (p ++ [len + m ≤ cap, off + (len + m) * esz ≤ cs.length, IV.ones ds = true],
              .sl n off (len + m) cap esz, hset h n (splice cs (off + len * esz) ds))
          else none
        | _, _ => none
      | none => none
    | _ => none
  | _, _ => none

def icopy (T : TT) (h : List HO) (types : List Nat) (args : List IV) : Option (List Prop × IV × List HO) :=
  match types, args with
  | [t, t2], [.sl n off len _ esz, x] =>
    match T.get t with
    | some ⟨_, _, _, .slc e⟩ =>
      match T.get e with
      | some ti =>
        match isrc T h t2 x ti.size, hcells h n with
        | some (p, ds, m), some cs =>
          if Nat.beq esz ti.size then
            some (p ++ [off + min m len * esz ≤ cs.length, IV.ones ds = true],
              .sc (.int .i64 (min m len : Nat)), hset h n (splice cs off (ds.take (min m len * esz))))
          else none
        | _, _ => none
      | none => none
    | _ => none
  | _, _ => none

section
variable {P : Program} {T : TT} {F : Fix} {h : List HO} {w : World}

/-- What a source gives. -/
structure Src (P : Program) (w : World) (t : Nat) (u : Value) (size m : Nat) (news : List Value) : Prop where
  und : ∃ d, P.underlying t = some d ∧ ∀ k, d ≠ .int k
  len : ∀ w', (Builtin.lenOf u).run P w' = .ok m w'
  first : ∀ q, q ≤ m → ∀ w', (∀ a v, w.cell? a = some v → w'.cell? a = some v) → (Builtin.firstCells size q u).run P w' = .ok ⟨news.take (q * size)⟩ w'
  count : news.length = m * size

theorem bytes_cells (s : ByteArray) (n : Nat) : (s.extract 0 n).data.map (fun b => Value.int .u8 b.toNat) = ⟨(s.data.toList.map fun b => Value.int .u8 b.toNat).take n⟩ := by
  apply Array.ext'
  rw [Array.toList_map, Lib.extract_data]
  simp [List.map_take]

theorem HIn.cellsArr (hi : HIn F h w) {n o k : Nat} {cs : List IV} {us : List Value} (e : hcells h n = some cs) (ha : isArr h n = true) (hr : RL F ((cs.drop o).take k) us)
    (hu : ∀ j v, us[j]? = some v → w.cell? ⟨F.blk n, o + j, none⟩ = some v) : RL { F with N := 0 } ((cs.drop o).take k) us := by
  obtain ⟨x, ho, h1 | ⟨b, h1⟩⟩ := hcells_get e
  · subst h1; simp [isArr, ho] at ha
  · subst h1
    rcases hi.obj n _ ho with ⟨_, h2⟩ | ⟨vs, ty, lo, hi', k1, k2, k3, k4, p, s, k5, k6⟩
    · subst h2
      simp only [List.drop_nil, List.take_nil] at hr ⊢
      cases hr; exact .nil
    · have hlen := k6.length
      have hrl := hr.length
      refine RL.of_get hrl fun i c v hc hv => ?_
      have hc' := hc
      rw [List.getElem?_take] at hc
      split at hc
      · rw [List.getElem?_drop] at hc
        obtain ⟨v', q1, q2⟩ := k6.get _ c hc
        have q3 := hu i v hv
        rw [cell_of_heap k1, ← Array.getElem?_toList, k5, List.getElem?_append_left (lt_of_get q1), q1] at q3
        cases q3; exact q2
      · cases hc

theorem isrc_sound (hT : TOk P T) (hi : HIn F h w) {t : Nat} {x : IV} {u : Value} {esz m : Nat} {ps : List Prop} {ds : List IV} (hx : R F x u) (e : isrc T h t x esz = some (ps, ds, m)) (hp : AllP ps) :
    ∃ news, Src P w t u esz m news ∧ RL { F with N := 0 } ds news := by
  unfold isrc at e
  split at e
  · rename_i sz by' zz el nw cs len ht
    cases e
    obtain ⟨inf, d, hf⟩ := hT t _ ht
    have hu := hf.slc rfl
    have hcl := hp.1
    cases hx with
    | fznil => exact ⟨[], ⟨⟨_, hu, by simp⟩, fun w' => rfl, fun q hq w' _ => by simp [Builtin.firstCells], by simp⟩, .nil⟩
    | fz0 =>
      refine ⟨[], ⟨⟨_, hu, by simp⟩, fun w' => rfl, fun q hq w' _ => ?_, by simp⟩, .nil⟩
      obtain rfl : q = 0 := by omega
      simpa using run_firstCells_some w' esz 0 _ _ _ [] (by simp) fun j v hj => by simp at hj
    | fz hb hr hl hlc =>
      rename_i cap' b o vs
      have hlen := hl.length
      refine ⟨vs, ⟨⟨_, hu, by simp⟩, fun w' => rfl, fun q hq w' hw' => ?_, by omega⟩, hl⟩
      have hql : (vs.take (q * esz)).length = q * esz := by
        have := Nat.mul_le_mul_right esz hq; simp; omega
      refine run_firstCells_some w' esz q ⟨b, o, none⟩ _ _ (vs.take (q * esz)) hql fun j v hj => hw' _ _ ?_
      rw [Addr.add_lit]
      exact hi.rd _ _ ((hr.take _) j v hj)
  · rename_i sz by' zz el n off len cap esz' ht
    obtain ⟨inf, d, hf⟩ := hT t _ ht
    have hu := hf.slc rfl
    split at e
    case h_2 => cases e
    rename_i cs hcs
    split at e
    case isFalse => cases e
    rename_i hshut
    cases e
    have hcl := hp.1
    cases hx with
    | slnil hn => exact ⟨[], ⟨⟨_, hu, by simp⟩, fun w' => rfl, fun q hq w' _ => by simp [Builtin.firstCells], by simp⟩, by simpa using RL.nil⟩
    | sl hn hl' hc ho hs =>
      rename_i cap' o
      obtain ⟨us, h1, h2, h3⟩ := hi.cells hcs off (m * esz) hcl
      have h2' : RL { F with N := 0 } ((cs.drop off).take (m * esz)) us := by
        simp only [Bool.or_eq_true] at hshut
        rcases hshut with hs1 | hs1
        · exact hi.cellsArr hcs hs1 h2 h3
        · exact RL.shut hs1 h2
      refine ⟨us, ⟨⟨_, hu, by simp⟩, fun w' => rfl, fun q hq w' hw' => ?_, h1⟩, h2'⟩
      have hql : (us.take (q * esz)).length = q * esz := by
        have := Nat.mul_le_mul_right esz hq; simp; omega
      refine run_firstCells_some w' esz q ⟨F.blk n, o, none⟩ _ _ (us.take (q * esz)) hql fun j v hj => hw' _ _ ?_
      rw [Addr.add_lit]
      have hj' := hj
      rw [List.getElem?_take] at hj
      split at hj
      · by_cases hc0 : 0 < cap'
        · rw [ho hc0]; exact h3 j v hj
        · have h0 : m = 0 := by omega
          rw [h0, Nat.zero_mul] at h1
          have := lt_of_get hj
          omega
      · cases hj
  · rename_i sz by' zz el ht
    cases e
    obtain ⟨inf, d, hf⟩ := hT t _ ht
    have hu := hf.slc rfl
    cases hx
    exact ⟨[], ⟨⟨_, hu, by simp⟩, fun w' => rfl, fun q hq w' _ => by simp [Builtin.firstCells], by simp⟩, .nil⟩
  · rename_i sz by' zz s ht
    obtain ⟨inf, d, hf⟩ := hT t _ ht
    have hu := hf.str rfl
    split at e
    case isFalse => cases e
    rename_i h1
    have : esz = 1 := Nat.eq_of_beq_eq_true h1
    subst this
    cases e
    cases hx
    refine ⟨s.data.toList.map fun b => .int .u8 b.toNat, ⟨⟨_, hu, by simp⟩, fun w' => ?_, fun q hq w' _ => ?_, by simp⟩, ?_⟩
    · simp only [Builtin.lenOf, Sem.run_pure]; rw [size_len]
    · simp only [Builtin.firstCells, Sem.run_pure, bytes_cells, Nat.mul_one]
    · have := RL.map_sc (F := { F with N := 0 }) (s.data.toList.map fun b => Value.int .u8 b.toNat)
      rwa [List.map_map] at this
  · cases e

theorem Src.all {t : Nat} {u : Value} {size m : Nat} {news : List Value} (s : Src P w t u size m news) {w' : World} (hw : ∀ a v, w.cell? a = some v → w'.cell? a = some v) :
    (Builtin.firstCells size m u).run P w' = .ok ⟨news⟩ w' := by
  rw [s.first m (Nat.le_refl _) w' hw, ← s.count, List.take_length]

theorem append_room_run {t t2 ty e : Nat} {inf : TypeInfo} {size : Nat} (ht : P.underlying t = some (.slice e)) (hi : P.info? e = some inf) (hz : inf.size = size) {u : Value} {m : Nat} {news : List Value} (s : Src P w t2 u size m news)
    {a : Option Addr} {sLen sCap : Nat} (hr : sLen + m ≤ sCap) :
    (Builtin.append_ #[t, t2] ty #[.slice a sLen sCap, u]).run P w = ((match a with | some a => storeCells (a.add (sLen * size)) news | none => pure ()).run P w).andThen fun _ w' => .ok (.slice a (sLen + m) sCap) w' := by
  obtain ⟨d, hd, hk⟩ := s.und
  have h1 := s.len w
  have h2 := s.all (w' := w) (fun _ _ h => h)
  cases a with
  | none => simp [Builtin.append_, run_underlying ht, run_underlying hd, run_sizeOf hi, hz, h1, h2, hr]
  | some a => simp [Builtin.append_, run_underlying ht, run_underlying hd, run_sizeOf hi, hz, h1, h2, hr]

theorem append_grow_run {t t2 ty e : Nat} {inf : TypeInfo} {size : Nat} {z : Value} (ht : P.underlying t = some (.slice e)) (hi : P.info? e = some inf) (hz : inf.size = size) (hzz : inf.zero = some z) {u : Value} {m : Nat} {news : List Value}
    (s : Src P w t2 u size m news) {a : Option Addr} {sLen sCap : Nat} {olds : List Value} (ho : (Builtin.firstCells size sLen (.slice a sLen sCap)).run P w.drew = .ok ⟨olds⟩ w.drew) (hr : sCap < sLen + m)
    (hb : (sLen + m) * inf.bytes ≤ 140737488355328) (hm : sLen + m ≤ 140737488355328) :
    (Builtin.append_ #[t, t2] ty #[.slice a sLen sCap, u]).run P w =
      .ok (.slice (some ⟨w.heap.size, 0, none⟩) (sLen + m) (grownCap w (sLen + m) sCap e)) (w.drew.alloc (.cells (olds.toArray ++ news.toArray ++ Builtin.zeroCells z.cells (grownCap w (sLen + m) sCap e - (sLen + m))) e)) := by
  obtain ⟨d, hd, hk⟩ := s.und
  have h1 := s.len w
  have h2 := s.all (w' := w.drew) (fun _ _ h => h)
  have hn : ¬ (sLen + m ≤ sCap) := by omega
  have h63' : ¬ (9223372036854775807 < ((sLen : Int) + (m : Int))) := by omega
  have h48' : ¬ (281474976710656 < Builtin.nextslicecap (sLen + m) sCap * inf.bytes) := by have := growslice_fits hr hb; omega
  simp [Builtin.append_, run_underlying ht, run_underlying hd, run_sizeOf hi, run_typeInfo hi, run_zeroValue hi hzz, hz, h1, h2, hn, h63', h48', Question.forced, newRow, grownCap, ho]
  congr 2
  apply Array.ext'
  simp [List.append_assoc]

end
end Go.Idl
