/-
  Ideal states: copy, clear, make, boxes, conversions: as the model has them.
-/
import Derived.Test.YtmgcoopmbohkoaaIdlL
namespace Go.Idl
open Go

theorem wrap_i64 {n : Int} (h1 : -9223372036854775808 ≤ n) (h2 : n ≤ 9223372036854775807) : IntKind.i64.wrap n = n := by
  have e64 : (2 : Int) ^ 64 = 18446744073709551616 := by decide
  have e63 : (2 : Int) ^ (64 - 1) = 9223372036854775808 := by decide
  simp only [IntKind.wrap, IntKind.bits, IntKind.signed, Bool.true_and, decide_eq_true_eq, e64, e63]
  split <;> omega
theorem wrap_u64 {n : Int} (h1 : 0 ≤ n) (h2 : n ≤ 18446744073709551615) : IntKind.u64.wrap n = n := by
  simp only [IntKind.wrap, IntKind.bits, IntKind.signed]
  simp; omega
theorem wrap_u32 {n : Int} (h1 : 0 ≤ n) (h2 : n ≤ 4294967295) : IntKind.u32.wrap n = n := by
  simp only [IntKind.wrap, IntKind.bits, IntKind.signed]
  simp; omega
theorem wrap_u8 {n : Int} (h1 : 0 ≤ n) (h2 : n ≤ 255) : IntKind.u8.wrap n = n := by
  simp only [IntKind.wrap, IntKind.bits, IntKind.signed]
  simp; omega

def iclear (T : TT) (h : List HO) (types : List Nat) (args : List IV) : Option (List Prop × IV × List HO) :=
  match types, args with
  | [t], [.sl n off len _ esz] =>
    match T.get t with
    | some ⟨_, _, _, .slc e⟩ =>
      match T.get e, hcells h n with
      | some ti, some cs => if Nat.beq esz ti.size then some ([off + len * esz ≤ cs.length, (zrep len (zerosOf ti)).length = len * esz, hclosed h n (zrep len (zerosOf ti)) = true], .sc undef, hset h n (splice cs off (zrep len (zerosOf ti)))) else none
      | _, _ => none
    | _ => none
  | [t], [.sc (.slice none 0 0)] =>
    match T.get t with
    | some ⟨_, _, _, .slc _⟩ => some ([], .sc undef, h)
    | _ => none
  | _, _ => none

def imake (T : TT) (h : List HO) (t : Nat) (l c : IV) : Option (List Prop × IV × List HO) :=
  match l, c, T.get t with
  | .sc (.int _ l), .sc (.int _ c), some ⟨_, _, _, .slc e⟩ =>
    match T.get e with
    | some ti => some ([0 ≤ l, l ≤ c, c ≤ 140737488355328, c * ti.bytes ≤ 140737488355328], .sl h.length 0 l.toNat c.toNat ti.size, h ++ [.arr true (zrep c.toNat (zerosOf ti))])
    | none => none
  | _, _, _ => none

section
variable {P : Program} {T : TT} {F : Fix} {h : List HO} {w : World}

theorem zrep_eq (n : Nat) (zs : List IV) : zrep n zs = (List.replicate n zs).flatten := by
  unfold zrep
  split
  · rename_i z
    induction n with
    | zero => rfl
    | succ n ih => rw [List.replicate_succ, List.replicate_succ, List.flatten_cons, ← ih]; rfl
  · rfl

theorem range_mod {α : Type} [Inhabited α] (zs : List α) : ∀ n, ((List.range (n * zs.length)).map fun i => (⟨zs⟩ : Array α)[i % zs.length]!) = (List.replicate n zs).flatten
  | 0 => by simp
  | n + 1 => by
    have h1 : (n + 1) * zs.length = n * zs.length + zs.length := Nat.succ_mul _ _
    have h2 : List.range (n * zs.length + zs.length) = List.range (n * zs.length) ++ (List.range zs.length).map (fun j => n * zs.length + j) := by
      rw [List.range_add]
    have h3 : ((List.range zs.length).map fun j => (⟨zs⟩ : Array α)[(n * zs.length + j) % zs.length]!) = zs := by
      apply List.ext_getElem?
      intro j
      by_cases hj : j < zs.length
      · rw [List.getElem?_map, List.getElem?_range hj]
        simp only [Option.map_some]
        rw [Nat.mul_add_mod_self_right, Nat.mod_eq_of_lt hj]
        simp [hj]
      · rw [List.getElem?_eq_none (by simp; omega), List.getElem?_eq_none (by omega)]
    rw [h1, h2, List.map_append, range_mod zs n, List.map_map]
    simp only [Function.comp_def, h3]
    rw [List.replicate_succ', List.flatten_append]
    simp

theorem RL.zrep {zs : List IV} {vs : List Value} (hr : RL F zs vs) : ∀ n, RL F (Idl.zrep n zs) (List.replicate n vs).flatten := by
  intro n
  rw [zrep_eq]
  induction n with
  | zero => exact .nil
  | succ n ih => simp only [List.replicate_succ, List.flatten_cons]; exact hr.append ih

theorem RL.zerosOf {ti : TI} : RL F (Idl.zerosOf ti) (ti.zero.map Zv.val) := RL.zeros ti.zero

theorem closedL_append : ∀ {a b : List IV}, IV.closedL a = true → IV.closedL b = true → IV.closedL (a ++ b) = true
  | [], _, _, h => h
  | _ :: _, _, h, k => by simp only [IV.closedL, List.cons_append, Bool.and_eq_true] at h ⊢; exact ⟨h.1, closedL_append h.2 k⟩
theorem imake_sound (hT : TOk P T) (hi : HIn F h w) (hbase : F.base ≤ w.heap.size) {t : Nat} {l c : IV} {vl vc : Value} {ps : List Prop} {y : IV} {h' : List HO} (hl : R F l vl) (hc : R F c vc)
    (e : imake T h t l c = some (ps, y, h')) (hp : AllP ps) : ∃ v' G w', (Instr.makeSlice t vl vc).run P w = .ok v' w' ∧ HStep F G h h' w w' ∧ R G y v' := by
  unfold imake at e
  split at e
  case h_2 => cases e
  rename_i k1 li k2 ci sz by' zz el ht
  obtain ⟨inf, d, hf⟩ := hT t _ ht
  have hu := hf.slc rfl
  split at e
  case h_2 => cases e
  rename_i ti hti
  obtain ⟨inf2, d2, hf2⟩ := hT el ti hti
  obtain ⟨z, hz1, hz2, hz3⟩ := hf2.zcells
  cases e
  cases hl; cases hc
  obtain ⟨p1, p2, p3, p4, _⟩ := hp
  have hw1 : IntKind.i64.wrap li = li := wrap_i64 (by omega) (by omega)
  have hw2 : IntKind.i64.wrap ci = ci := wrap_i64 (by omega) (by omega)
  have hcb : (inf2.bytes : Int) * ci ≤ 281474976710656 := by rw [hf2.bytes, Int.mul_comm]; omega
  let cellsV : Array Value := (Array.range (ci.toNat * ti.size)).map fun i => z.cells[i % z.cells.size]!
  have hcells : cellsV.toList = (List.replicate ci.toNat (ti.zero.map Zv.val)).flatten := by
    have hzl : (ti.zero.map Zv.val).length = ti.size := by rw [List.length_map, hf2.zlen]
    show (Array.map _ _).toList = _
    rw [Array.toList_map, Array.toList_range, hz2]
    have := range_mod (ti.zero.map Zv.val) ci.toNat
    rw [hzl] at this
    rw [← this]
    apply List.map_congr_left
    intro i _
    have : (⟨ti.zero.map Zv.val⟩ : Array Value).size = ti.size := hzl
    rw [this]
  have hsize : cellsV.size = ci.toNat * ti.size := by simp [cellsV]
  have hrun : (Instr.makeSlice t (.int k1 li) (.int k2 ci)).run P w = .ok (.slice (some ⟨w.heap.size, 0, none⟩) li.toNat ci.toNat) (w.alloc (.cells cellsV el)) := by
    by_cases h0 : ci.toNat * ti.size = 0
    · have hce : cellsV = #[] := Array.eq_empty_of_size_eq_zero (by rw [hsize]; exact h0)
      rw [hce]
      simp only [Instr.makeSlice, Sem.run_bind, run_underlying hu, Result.andThen_ok, asInt, asIntOf, Sem.run_pure, run_typeInfo hf2.info, hw1, hw2]
      rw [if_neg (by simp; omega)]
      simp [run_sizeOf hf2.info, hf2.size, h0, newRow]
      rw [Array.range_zero', List.map_toArray, List.map_nil]
    · simp only [Instr.makeSlice, Sem.run_bind, run_underlying hu, Result.andThen_ok, asInt, asIntOf, Sem.run_pure, run_typeInfo hf2.info, hw1, hw2]
      rw [if_neg (by simp; omega)]
      simp [run_sizeOf hf2.info, hf2.size, h0, newRow, run_zeroValue hf2.info hz1, cellsV]
  refine ⟨_, _, _, hrun, hi.alloc hbase cellsV el (.inr ⟨true, _, cellsV.toList, [], rfl, by simp, ?_⟩), ?_⟩
  · rw [hcells]; exact RL.zrep RL.zerosOf _
  · have h1 : (F.more w.heap.size cellsV.size).blk h.length = w.heap.size := by simp [Fix.more, hi.N]
    have h2 : (F.more w.heap.size cellsV.size).bsz h.length = cellsV.size := by simp [Fix.more, hi.N]
    have := R.sl (F := F.more w.heap.size cellsV.size) (n := h.length) (off := 0) (len := li.toNat) (cap := ci.toNat) (esz := ti.size) (cap' := ci.toNat) (o := 0) (by simp [Fix.more, hi.N]) (by omega) (Nat.le_refl _) (fun _ => rfl) (by rw [h2, hsize]; omega)
    rwa [h1] at this

theorem iclear_sound (hT : TOk P T) (hi : HIn F h w) {types : List Nat} {args : List IV} {vs : List Value} {ty : Nat} {ps : List Prop} {y : IV} {h' : List HO} (hr : RL F args vs)
    (e : iclear T h types args = some (ps, y, h')) (hp : AllP ps) : ∃ v' w', (Builtin.clear_ ⟨types⟩ ty ⟨vs⟩).run P w = .ok v' w' ∧ HStep F F h h' w w' ∧ R F y v' := by
  unfold iclear at e
  split at e
  · rename_i t n off len cap esz
    cases hr with
    | cons hr1 hr2 =>
    cases hr2
    split at e
    case h_2 => cases e
    rename_i sz by' zz el ht
    obtain ⟨inf, d, hf⟩ := hT t _ ht
    have hu := hf.slc rfl
    split at e
    case h_2 => cases e
    rename_i ti cs hti hcs
    obtain ⟨inf2, d2, hf2⟩ := hT el ti hti
    obtain ⟨z, hz1, hz2, hz3⟩ := hf2.zcells
    split at e
    case isFalse => cases e
    rename_i hesz
    have hesz' : esz = ti.size := Nat.eq_of_beq_eq_true hesz
    subst hesz'
    cases e
    obtain ⟨p1, p2, p3, _⟩ := hp
    cases hr1 with
    | slnil hn =>
      refine ⟨.tuple #[], w, by simp [Builtin.clear_, run_underlying hu], ?_, .sc _⟩
      have : Idl.zrep 0 (zerosOf ti) = [] := by rw [zrep_eq]; rfl
      rw [this, splice_nil]
      have : hset h n cs = h := by
        rcases hset_get (cs' := cs) hcs with ⟨h1, h2⟩ | ⟨b, h1, h2⟩ <;> rw [h2] <;> exact set_same h1
      rw [this]; exact HStep.refl hi
    | sl hn hl' hc ho hs =>
      rename_i cap' o
      by_cases h0 : len = 0
      · subst h0
        refine ⟨.tuple #[], w, by simp [Builtin.clear_, run_underlying hu], ?_, .sc _⟩
        have : Idl.zrep 0 (zerosOf ti) = [] := by rw [zrep_eq]; rfl
        rw [this, splice_nil]
        have : hset h n cs = h := by
          rcases hset_get (cs' := cs) hcs with ⟨h1, h2⟩ | ⟨b, h1, h2⟩ <;> rw [h2] <;> exact set_same h1
        rw [this]; exact HStep.refl hi
      · have ho' : o = off := ho (by omega)
        subst ho'
        have hzr := RL.zrep (F := F) (RL.zerosOf (ti := ti)) len
        have hz : (Builtin.zeroCells z.cells len).toList = (List.replicate len (ti.zero.map Zv.val)).flatten := by
          have hzl : (ti.zero.map Zv.val).length = ti.size := by rw [List.length_map, hf2.zlen]
          unfold Builtin.zeroCells
          rw [Array.toList_map, Array.toList_range, hz2]
          have := range_mod (ti.zero.map Zv.val) len
          rw [← this]
          apply List.map_congr_left
          intro i _
          rfl
        obtain ⟨w', k1, k2⟩ := write_sound (P := P) hi hcs (by rw [p2]; exact p1) hzr (.inl p3) (fun u hu => by
          rw [List.mem_flatten] at hu
          obtain ⟨l, hl1, hl2⟩ := hu
          rw [List.mem_replicate] at hl1
          rw [hl1.2] at hl2
          obtain ⟨z, _, rfl⟩ := List.mem_map.1 hl2
          cases z <;> rfl)
        refine ⟨.tuple #[], w', ?_, k2, .sc _⟩
        cases len with
        | zero => exact absurd rfl h0
        | succ q => simp [Builtin.clear_, run_underlying hu, run_zeroValue hf2.info hz1, hz, k1]
  · rename_i t
    split at e
    case h_2 => cases e
    rename_i sz by' zz el ht
    obtain ⟨inf, d, hf⟩ := hT t _ ht
    have hu := hf.slc rfl
    cases e
    cases hr with
    | cons hr1 hr2 =>
    cases hr2
    cases hr1
    exact ⟨.tuple #[], w, by simp [Builtin.clear_, run_underlying hu], HStep.refl hi, .sc _⟩
  · cases e

end
end Go.Idl
