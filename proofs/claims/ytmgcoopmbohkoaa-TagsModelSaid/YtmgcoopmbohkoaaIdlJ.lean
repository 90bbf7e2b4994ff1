/-
  Ideal states: stores, new values and blocks: as the model has them.
-/
import Derived.Test.YtmgcoopmbohkoaaIdlI
namespace Go.Idl
open Go

section
variable {P : Program} {T : TT} {F : Fix} {h : List HO} {w : World}

theorem splice_one {α : Type} (l : List α) (o : Nat) (x : α) (h : o < l.length) : splice l o [x] = l.set o x := by
  unfold splice
  rw [List.set_eq_take_append_cons_drop, if_pos h]
  rfl

theorem write_sound (hi : HIn F h w) {n : Nat} {cs : List IV} (e : hcells h n = some cs) {o : Nat} {ds : List IV} {us : List Value} (hl : o + ds.length ≤ cs.length) (hr : RL F ds us)
    (hc : hclosed h n ds = true ∨ RL { F with N := 0 } ds us) (hu : ∀ u ∈ us, u.oneCell' = true) :
    ∃ w', (storeCells ⟨F.blk n, o, none⟩ us).run P w = .ok () w' ∧ HStep F F h (hset h n (splice cs o ds)) w w' := by
  have hlen := hr.length
  rcases hi.read e with ⟨hb, hcs⟩ | ⟨vs, ty, lo, hi', pre, suf, h2, h3, h4, h5, h6⟩
  · subst hcs
    have hd : ds = [] := by cases ds with | nil => rfl | cons => simp at hl
    subst hd
    have hus : us = [] := by cases us with | nil => rfl | cons => simp at hlen
    subst hus
    exact ⟨w, rfl, hi.write e hl hr hc (fun vs ty lo hi' k1 k2 k3 => ⟨by rw [splice_nil]; exact k1, fun _ _ => rfl, rfl, rfl, rfl, rfl⟩) (fun _ => rfl)⟩
  · have hpl : cs.length = pre.length := h6.length
    have hvl : pre.length ≤ vs.size := by have := congrArg List.length h5; simp at this; omega
    obtain ⟨w', k1, k2, k3, k4, k5, k6, k7⟩ := run_storeCells_at (P := P) us o 0 w vs h2 (by omega) h4 hu
    refine ⟨w', k1, hi.write e hl hr hc (fun vs' ty' lo' hi'' q1 q2 q3 => ?_) (fun h0 => ?_)⟩
    · rw [h2] at q1; cases q1
      exact ⟨k2, k3, k4, k5, k6, k7⟩
    · subst h0
      have : (storeCells ⟨F.blk n, o, none⟩ []).run P w = .ok () w := rfl
      rw [this] at k1; cases k1; rfl

theorem istore_sound (hT : TOk P T) (hi : HIn F h w) {t : Nat} {a x : IV} {v u : Value} {ps : List Prop} {h' : List HO} (ha : R F a v) (hx : R F x u) (e : istore T h t a x = some (ps, h')) (hp : AllP ps) :
    ∃ w', (Instr.storeAt t v u).run P w = .ok () w' ∧ HStep F F h h' w w' := by
  unfold istore at e
  split at e
  case h_2 => cases e
  rename_i n off
  cases ha with
  | ptr hn =>
  split at e
  · rename_i cs i ds hcs hti
    obtain ⟨inf, d, hf⟩ := hT t i hti
    split at e
    case isFalse => cases e
    cases e
    obtain ⟨p1, p2, p3, p4, _⟩ := hp
    cases hx with
    | agg hl =>
    rename_i us
    have hlen := hl.length
    obtain ⟨w', k1, k2⟩ := write_sound (P := P) hi hcs p2 hl (.inl p4) (hl.ones p3)
    refine ⟨w', ?_, k2⟩
    have hz : ¬ ((Value.agg ⟨us⟩).cells.size ≠ inf.size) := by
      rw [hf.size]; simp [Value.cells]; omega
    simp only [Instr.storeAt, Instr.sureAddr, Sem.run_bind, Sem.run_pure, Result.andThen_ok, storeVar, run_sizeOf hf.info]
    rw [if_neg hz]
    exact k1
  · rename_i y _ _ _ cs i hcs hti hna
    obtain ⟨inf, d, hf⟩ := hT t i hti
    split at e
    case isTrue => cases e
    split at e
    case isFalse => cases e
    rename_i hone
    simp only [Bool.and_eq_true] at hone
    cases e
    obtain ⟨p1, p2, _⟩ := hp
    have hu1 := hx.one hone.1
    obtain ⟨w', k1, k2⟩ := write_sound (P := P) (o := off) (ds := [y]) (us := [u]) hi hcs (by simp; omega) (.cons hx .nil) (.inl hone.2) (by simpa using hu1)
    rw [splice_one _ _ _ p2] at k2
    refine ⟨w', ?_, k2⟩
    have hcells : u.cells = #[u] := by cases u <;> first | rfl | (simp [Value.oneCell'] at hu1)
    have hz : ¬ (u.cells.size ≠ inf.size) := by rw [hf.size, hcells, p1]; simp
    simp only [Instr.storeAt, Instr.sureAddr, Sem.run_bind, Sem.run_pure, Result.andThen_ok, storeVar, run_sizeOf hf.info]
    rw [if_neg hz, hcells]
    exact k1
  · cases e

theorem RL.zeros (z : List Zv) : RL F (z.map fun z => .sc z.val) (z.map Zv.val) := by
  have := RL.map_sc (F := F) (z.map Zv.val)
  rwa [List.map_map] at this

/-! ### Parts laid into cells -/
theorem foldl_splice : ∀ (us : List Value) (cells : Array Value) (off k : Nat), off + k + us.length ≤ cells.size →
    (us.toArray.zipIdx k).foldl (fun (cs : Array Value) (x : Value × Nat) => cs.setIfInBounds (off + x.2) x.1) cells = ⟨splice cells.toList (off + k) us⟩ := by
  intro us
  induction us with
  | nil => intro cells off k _; rw [splice_nil]; rfl
  | cons u us ih =>
    intro cells off k hl
    simp only [List.length_cons] at hl
    have hz : (u :: us).toArray.zipIdx k = ((u, k) :: us.zipIdx (k + 1)).toArray := by
      apply Array.ext'; simp [List.zipIdx_cons]
    have hz2 : us.toArray.zipIdx (k + 1) = (us.zipIdx (k + 1)).toArray := by apply Array.ext'; simp
    have := ih (cells.setIfInBounds (off + k) u) off (k + 1) (by simp; omega)
    rw [hz2, List.foldl_toArray] at this
    rw [hz, List.foldl_toArray, List.foldl_cons, this]
    congr 1
    rw [Array.toList_setIfInBounds, ← Nat.add_assoc, splice_cons _ _ _ _ (by simp; omega)]

theorem R.cellsOne {c : IV} {v : Value} (h : R F c v) (k : c.one = true) : v.cells = #[v] := by
  have := h.one k
  cases v <;> first | rfl | (simp [Value.oneCell'] at this)

theorem ifill_sound {place : Nat → Option (Nat × Nat)} : ∀ {parts : List (Nat × IV)} {vp : List (Nat × Value)} {cs out : List IV} {us : List Value} {ps : List Prop},
    RL F cs us → parts.map (·.1) = vp.map (·.1) → RL F (parts.map (·.2)) (vp.map (·.2)) → ifill place cs parts = some (ps, out) → AllP ps →
    ∃ uo, Instr.fill place ⟨us⟩ vp = some ⟨uo⟩ ∧ RL F out uo
  | [], [], cs, out, us, ps, hr, _, _, e, _ => by simp [ifill] at e; obtain ⟨_, rfl⟩ := e; exact ⟨us, rfl, hr⟩
  | [], _ :: _, _, _, _, _, _, h, _, _, _ => by simp at h
  | _ :: _, [], _, _, _, _, _, h, _, _, _ => by simp at h
  | (i, c) :: parts, (j, v) :: vp, cs, out, us, ps, hr, hn, hrl, e, hp => by
    simp only [List.map_cons, List.cons.injEq] at hn
    obtain ⟨hij, hn⟩ := hn
    have hij : i = j := hij
    subst hij
    simp only [List.map_cons] at hrl
    cases hrl with
    | cons hcv hrl =>
    unfold ifill at e
    have hlen := hr.length
    split at e
    · rename_i off sz ds hpl
      split at e
      case h_2 => cases e
      rename_i p o hrec
      cases e
      obtain ⟨p1, p2, p3⟩ := hp
      cases hcv with
      | agg hds =>
      rename_i vs
      have hdl := hds.length
      obtain ⟨uo, k1, k2⟩ := ifill_sound (hr.splice hds off) hn hrl hrec p3
      refine ⟨uo, ?_, k2⟩
      have hg : ¬ (((Value.agg ⟨vs⟩).cells.size ≠ sz) || (off + (Value.agg ⟨vs⟩).cells.size > (⟨us⟩ : Array Value).size)) = true := by
        simp [Value.cells]; omega
      unfold Instr.fill
      rw [hpl]
      simp only
      rw [if_neg (by simpa using hg)]
      have := foldl_splice vs ⟨us⟩ off 0 (by simp; omega)
      rw [Nat.add_zero] at this
      have hh : (Value.agg ⟨vs⟩).cells.zipIdx = vs.toArray.zipIdx 0 := rfl
      rw [hh, this]
      exact k1
    · cases e
    · cases e
    · rename_i off sz hpl _ _ _
      split at e
      case isFalse => cases e
      rename_i hone
      simp only [Bool.and_eq_true] at hone
      have hsz : sz = 1 := Nat.eq_of_beq_eq_true hone.1
      subst hsz
      split at e
      case h_2 => cases e
      rename_i p o hrec
      cases e
      obtain ⟨p1, p2⟩ := hp
      have hcells := hcv.cellsOne hone.2
      obtain ⟨uo, k1, k2⟩ := ifill_sound (hr.set off hcv) hn hrl hrec p2
      refine ⟨uo, ?_, k2⟩
      unfold Instr.fill
      rw [hpl]
      simp only
      rw [if_neg (by rw [hcells]; simp; omega), hcells]
      have hh : (#[v] : Array Value).zipIdx = #[(v, 0)] := rfl
      rw [hh]
      simpa using k1
    · cases e

theorem places_run (hT : TOk P T) : ∀ (fl : List Field), knownL T (fl.map fun f => (f.offset, f.type)) = true →
    (fl.mapM fun f => Prod.mk f.offset <$> sizeOf f.type).run P w = .ok ((fl.map fun f => (f.offset, f.type)).map fun x => (x.1, szT T x.2)) w
  | [], _ => rfl
  | f :: fl, h => by
    simp only [List.map_cons, knownL, Bool.and_eq_true] at h
    obtain ⟨i, hi⟩ := Option.isSome_iff_exists.1 h.1
    obtain ⟨inf, d, hf⟩ := hT _ i hi
    have hs : inf.size = szT T f.type := by rw [hf.size]; simp [szT, hi]
    simp [List.mapM_cons, run_sizeOf hf.info, places_run hT fl h.2, hs]

theorem ibuild_sound (hT : TOk P T) {t : Nat} {parts : List (Nat × IV)} {vp : List (Nat × Value)} {ps : List Prop} {y : IV} (hn : parts.map (·.1) = vp.map (·.1)) (hr : RL F (parts.map (·.2)) (vp.map (·.2)))
    (e : ibuild T t parts = some (ps, y)) (hp : AllP ps) : ∃ z, (Instr.build t ⟨vp⟩).run P w = .ok z w ∧ R F y z := by
  unfold ibuild at e
  split at e
  · rename_i sz by' zz fs ht
    obtain ⟨inf, d, hf⟩ := hT t _ ht
    obtain ⟨fa, hu, hfs⟩ := hf.strct rfl
    obtain ⟨zv, hz, hzc⟩ := hf.zero
    split at e
    case isFalse => cases e
    rename_i hk
    split at e
    case h_2 => cases e
    rename_i p cs hfill
    cases e
    obtain ⟨uo, k1, k2⟩ := ifill_sound (RL.zeros zz) hn hr hfill hp
    refine ⟨.agg ⟨uo⟩, ?_, .agg k2⟩
    have hpl := places_run (w := w) hT fa.toList (by rw [← hfs]; exact hk)
    rw [← hfs] at hpl
    have hzc' : zv.cells = ⟨zz.map Zv.val⟩ := Array.ext' hzc
    simp only [Instr.build, Sem.run_bind, run_zeroValue hf.info hz, Result.andThen_ok, run_underlying hu, Array.mapM_eq_mapM_toList, Sem.run_map]
    have hpl2 : (fa.toList.mapM fun f => do pure (f.offset, ← sizeOf f.type) : Sem (List (Nat × Nat))).run P w = .ok (fs.map fun x => (x.1, szT T x.2)) w := by
      rw [← hpl]; congr 1
    rw [hpl2]
    simp only [Result.andThen_ok, hzc']
    have hfun : (fun i : Nat => (fs.map fun x => (x.1, szT T x.2)).toArray[i]?) = fun i : Nat => (fs.map fun x => (x.1, szT T x.2))[i]? := by
      funext i; simp
    simp only [hfun, k1]
    rfl
  · rename_i sz by' zz n el ht
    obtain ⟨inf, d, hf⟩ := hT t _ ht
    have hu := hf.arr rfl
    obtain ⟨zv, hz, hzc⟩ := hf.zero
    split at e
    case h_2 => cases e
    rename_i ti hti
    obtain ⟨inf2, d2, hf2⟩ := hT el ti hti
    split at e
    case h_2 => cases e
    rename_i p cs hfill
    cases e
    obtain ⟨uo, k1, k2⟩ := ifill_sound (RL.zeros zz) hn hr hfill hp
    refine ⟨.agg ⟨uo⟩, ?_, .agg k2⟩
    have hzc' : zv.cells = ⟨zz.map Zv.val⟩ := Array.ext' hzc
    simp only [Instr.build, Sem.run_bind, run_zeroValue hf.info hz, Result.andThen_ok, run_underlying hu, run_sizeOf hf2.info, hf2.size, hzc']
    simp only [k1]
    rfl
  · cases e

end
end Go.Idl
