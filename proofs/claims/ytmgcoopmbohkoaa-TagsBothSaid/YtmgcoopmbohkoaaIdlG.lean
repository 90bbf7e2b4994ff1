/-
  Ideal states: the operations that read, and make addresses, do what the model does.
-/
import Derived.Test.YtmgcoopmbohkoaaIdlF
namespace Go.Idl
open Go

def AllP : List Prop → Prop
  | [] => True
  | p :: ps => p ∧ AllP ps

theorem AllP.append {p q : List Prop} : AllP (p ++ q) → AllP p ∧ AllP q := by
  induction p with
  | nil => exact fun h => ⟨trivial, h⟩
  | cons x p ih => exact fun h => ⟨⟨h.1, (ih h.2).1⟩, (ih h.2).2⟩

theorem run_typeInfo {P : Program} {t : Nat} {i : TypeInfo} (h : P.info? t = some i) (w : World) : (typeInfo t).run P w = .ok i w := by
  simp [typeInfo, h]
theorem run_sizeOf {P : Program} {t : Nat} {i : TypeInfo} (h : P.info? t = some i) (w : World) : (sizeOf t).run P w = .ok i.size w := by
  simp [sizeOf, run_typeInfo h]
theorem run_zeroValue {P : Program} {t : Nat} {i : TypeInfo} {z : Value} (h : P.info? t = some i) (hz : i.zero = some z) (w : World) : (zeroValue t).run P w = .ok z w := by
  simp [zeroValue, run_typeInfo h, hz]

theorem isAgg_run {P : Program} {t : Nat} {i : TI} {inf : TypeInfo} {d : TypeDesc} (h : TFact P t i inf d) (w : World) : (isAgg t).run P w = .ok (isAggK i.kind) w := by
  have hk := h.kind
  simp only [isAgg, Sem.run_bind, run_underlying h.und, Result.andThen]
  rw [← hk]
  cases d <;> rfl

theorem kind_inv {d : TypeDesc} : (∀ fs, kindOf d = .strct fs → ∃ fa, d = .struct fa ∧ fs = fa.toList.map fun f => (f.offset, f.type)) ∧ (∀ n e, kindOf d = .arr n e → d = .array n e) ∧
    (∀ e, kindOf d = .slc e → d = .slice e) ∧ (kindOf d = .str → d = .string) ∧ (∀ k, kindOf d = .int k → d = .int k) ∧ (kindOf d = .bool → d = .bool) ∧ (∀ k e, kindOf d = .mp k e → d = .map k e) := by
  cases d <;> simp [kindOf]

theorem TFact.slc {P : Program} {t e : Nat} {i : TI} {inf : TypeInfo} {d : TypeDesc} (h : TFact P t i inf d) (k : i.kind = .slc e) : P.underlying t = some (.slice e) := by
  rw [h.und, (kind_inv (d := d)).2.2.1 e (by rw [h.kind, k])]
theorem TFact.arr {P : Program} {t n e : Nat} {i : TI} {inf : TypeInfo} {d : TypeDesc} (h : TFact P t i inf d) (k : i.kind = .arr n e) : P.underlying t = some (.array n e) := by
  rw [h.und, (kind_inv (d := d)).2.1 n e (by rw [h.kind, k])]
theorem TFact.str {P : Program} {t : Nat} {i : TI} {inf : TypeInfo} {d : TypeDesc} (h : TFact P t i inf d) (k : i.kind = .str) : P.underlying t = some .string := by
  rw [h.und, (kind_inv (d := d)).2.2.2.1 (by rw [h.kind, k])]
theorem TFact.int {P : Program} {t : Nat} {i : TI} {inf : TypeInfo} {d : TypeDesc} {q : IntKind} (h : TFact P t i inf d) (k : i.kind = .int q) : P.underlying t = some (.int q) := by
  rw [h.und, (kind_inv (d := d)).2.2.2.2.1 q (by rw [h.kind, k])]
theorem TFact.bool {P : Program} {t : Nat} {i : TI} {inf : TypeInfo} {d : TypeDesc} (h : TFact P t i inf d) (k : i.kind = .bool) : P.underlying t = some .bool := by
  rw [h.und, (kind_inv (d := d)).2.2.2.2.2.1 (by rw [h.kind, k])]
theorem TFact.strct {P : Program} {t : Nat} {i : TI} {inf : TypeInfo} {d : TypeDesc} {fs : List (Nat × Nat)} (h : TFact P t i inf d) (k : i.kind = .strct fs) :
    ∃ fa : Array Field, P.underlying t = some (.struct fa) ∧ fs = fa.toList.map fun f => (f.offset, f.type) := by
  obtain ⟨fa, h1, h2⟩ := kind_inv.1 fs (by rw [h.kind, k])
  exact ⟨fa, by rw [h.und, h1], h2⟩

section
variable {P : Program} {T : TT} (hT : TOk P T) {F : Fix} {h : List HO} {w : World}

def Lies (F : Fix) (w : World) (b o : Nat) (cs : List IV) : Prop := ∀ j c, cs[j]? = some c → ∃ v, w.cell? ⟨b, o + j, none⟩ = some v ∧ R F c v

theorem Lies.list {F : Fix} {w : World} {b : Nat} : ∀ {cs : List IV} {o : Nat}, Lies F w b o cs → ∃ us, RL F cs us ∧ ∀ j v, us[j]? = some v → w.cell? ⟨b, o + j, none⟩ = some v
  | [], _, _ => ⟨[], .nil, fun j v hj => by simp at hj⟩
  | c :: cs, o, hl => by
    obtain ⟨v, hv, hr⟩ := hl 0 c rfl
    obtain ⟨us, h1, h2⟩ := Lies.list (cs := cs) (o := o + 1) fun j c hj => by
      obtain ⟨v, h1, h2⟩ := hl (j + 1) c (by simpa using hj)
      exact ⟨v, by rw [← h1]; congr 2; omega, h2⟩
    refine ⟨v :: us, .cons hr h1, fun j u hj => ?_⟩
    cases j with
    | zero => simp at hj; subst hj; exact hv
    | succ j => rw [← h2 j u (by simpa using hj)]; congr 2; omega

theorem Lies.sub {b o : Nat} {cs : List IV} (hl : Lies F w b o cs) (k n : Nat) : Lies F w b (o + k) ((cs.drop k).take n) := fun j c hj => by
  rw [List.getElem?_take] at hj
  split at hj
  · rw [List.getElem?_drop] at hj
    obtain ⟨v, h1, h2⟩ := hl _ c hj
    exact ⟨v, by rw [← h1, Nat.add_assoc], h2⟩
  · cases hj

theorem HIn.lies (hi : HIn F h w) {n : Nat} {cs : List IV} (e : hcells h n = some cs) : Lies F w (F.blk n) 0 cs := fun j c hj => by
  obtain ⟨v, h1, h2⟩ := hi.cell e hj
  exact ⟨v, by simpa using h1, h2⟩

theorem HIn.liesF (hi : HIn F h w) {b o : Nat} {cs : List IV} {vs : List Value} (hr : Rdl F.rd b o vs) (hl : RL { F with N := 0 } cs vs) : Lies F w b o cs := fun j c hj => by
  obtain ⟨v, h1, h2⟩ := hl.get j c hj
  exact ⟨v, hi.rd _ _ (hr j v h1), h2.opened⟩

theorem load_part (hT : TOk P T) {t b o off : Nat} {cs : List IV} {ps : List Prop} {y : IV} (hl : Lies F w b o cs) (e : ipart T t cs off = some (ps, y)) (hp : AllP ps) :
    ∃ u, (loadVar t ⟨b, o + off, none⟩).run P w = .ok u w ∧ R F y u := by
  unfold ipart at e
  split at e
  · rename_i i hi
    obtain ⟨inf, d, hf⟩ := hT t i hi
    split at e
    · rename_i ha
      cases e
      obtain ⟨us, h1, h2⟩ := (hl.sub off i.size).list
      have hlen : us.length = i.size := by
        rw [← h1.length]; have := hp.1; simp; omega
      refine ⟨.agg ⟨us⟩, ?_, .agg h1⟩
      simp only [loadVar, Sem.run_bind, isAgg_run hf, Result.andThen, ha, if_true, run_sizeOf hf.info, hf.size]
      rw [← hlen, run_loadCells_list w _ us (fun j v hj => by rw [Addr.add_lit, ← h2 j v hj])]
      rfl
    · rename_i ha
      cases e
      obtain ⟨v, h1, h2⟩ := hl off (cs.getD off .any) (by have := hp.1; simp [List.getD, List.getElem?_eq_getElem this])
      refine ⟨v, ?_, h2⟩
      have ha' : isAggK i.kind = false := by simpa using ha
      simp only [loadVar, Sem.run_bind, isAgg_run hf, Result.andThen, ha', Bool.false_eq_true, if_false, run_load, h1]
  · cases e

theorem iload_sound (hT : TOk P T) (hi : HIn F h w) {t : Nat} {a y : IV} {v : Value} {ps : List Prop} (hr : R F a v) (e : iload T h t a = some (ps, y)) (hp : AllP ps) :
    ∃ u, (Instr.loadAt t v).run P w = .ok u w ∧ R F y u := by
  unfold iload at e
  split at e
  · rename_i n off
    split at e
    · rename_i cs hc
      cases hr
      obtain ⟨u, h1, h2⟩ := load_part hT (hi.lies hc) e hp
      exact ⟨u, by simpa [Instr.loadAt, Instr.sureAddr] using h1, h2⟩
    · cases e
  · rename_i nw cs off
    cases hr with
    | fp hb hr hl =>
      obtain ⟨u, h1, h2⟩ := load_part hT (hi.liesF hr hl) e hp
      exact ⟨u, by simpa [Instr.loadAt, Instr.sureAddr] using h1, h2⟩
  · cases e

theorem part_sound (hT : TOk P T) {t off : Nat} {cs : List IV} {us : List Value} {ps : List Prop} {y : IV} (hl : RL F cs us) (e : ipart T t cs off = some (ps, y)) (hp : AllP ps) :
    ∃ u, (part t ⟨us⟩ off).run P w = .ok u w ∧ R F y u := by
  unfold ipart at e
  split at e
  · rename_i i hi
    obtain ⟨inf, d, hf⟩ := hT t i hi
    split at e
    · rename_i ha
      cases e
      refine ⟨.agg ⟨(us.drop off).take i.size⟩, ?_, .agg ((hl.drop off).take _)⟩
      simp only [part, Sem.run_bind, isAgg_run hf, Result.andThen, ha, if_true, run_sizeOf hf.info, hf.size, Sem.run_pure]
      congr 2
      apply Array.ext'
      simp [List.extract_eq_take_drop]
    · rename_i ha
      cases e
      obtain ⟨v, h1, h2⟩ := hl.get off (cs.getD off .any) (by have := hp.1; simp [List.getD, List.getElem?_eq_getElem this])
      refine ⟨v, ?_, h2⟩
      have ha' : isAggK i.kind = false := by simpa using ha
      have h1' : (⟨us⟩ : Array Value)[off]? = some v := by rw [← Array.getElem?_toList]; exact h1
      simp only [part, Sem.run_bind, isAgg_run hf, Result.andThen, ha', Bool.false_eq_true, if_false, h1', Sem.run_pure]
  · cases e

theorem add_add (b o n m : Nat) : (⟨b, o + n, none⟩ : Addr).add m = ⟨b, o + (n + m), none⟩ := by rw [Addr.add_lit, Nat.add_assoc]

theorem ifieldAddr_sound (hT : TOk P T) {s f off ft : Nat} {a : IV} {v : Value} (hr : R F a v) (e : ifield T s f = some (off, ft)) (hz : ∀ i, T.get ft = some i → i.size ≠ 0) (hft : (T.get ft).isSome = true) :
    (∀ n o, a = .ptr n o → ∃ u, (Instr.fieldAt s v f).run P w = .ok u w ∧ R F (.ptr n (o + off)) u) ∧
    (∀ nw cs o, a = .fp nw cs o → ∃ u, (Instr.fieldAt s v f).run P w = .ok u w ∧ R F (.fp nw cs (o + off)) u) := by
  unfold ifield at e
  split at e
  case h_2 => cases e
  rename_i sz by' z fs hs
  obtain ⟨inf, d, hf⟩ := hT s _ hs
  obtain ⟨fa, hu, hfs⟩ := hf.strct rfl
  obtain ⟨ti, hti⟩ := Option.isSome_iff_exists.1 hft
  obtain ⟨inf2, d2, hf2⟩ := hT ft ti hti
  have hsz := hz ti hti
  rw [hfs, List.getElem?_map] at e
  obtain ⟨fld, h1, h2⟩ := Option.map_eq_some_iff.1 e
  cases h2
  have h1' : fa[f]? = some fld := by rw [← Array.getElem?_toList]; exact h1
  have hne : inf2.size ≠ 0 := by rw [hf2.size]; exact hsz
  refine ⟨fun n o ha => ?_, fun nw cs o ha => ?_⟩
  · subst ha
    cases hr with
    | ptr hn =>
    refine ⟨.pointer (some ⟨F.blk n, o + fld.offset, none⟩), ?_, .ptr hn⟩
    simp [Instr.fieldAt, run_underlying hu, h1', Instr.sureAddr, fieldPlace, run_sizeOf hf2.info, hne, Addr.add_lit]
  · subst ha
    cases hr with
    | fp hb hr hl =>
    rename_i b o' vs
    refine ⟨.pointer (some ⟨b, o' + (o + fld.offset), none⟩), ?_, .fp hb hr hl⟩
    simp [Instr.fieldAt, run_underlying hu, h1', Instr.sureAddr, fieldPlace, run_sizeOf hf2.info, hne, add_add]

theorem iindexAddr_sound (hT : TOk P T) {t : Nat} {x ix y : IV} {v u : Value} {ps : List Prop} (hr : R F x v) (hx : R F ix u) (e : iindexAddr T t x ix = some (ps, y)) (hp : AllP ps) :
    ∃ z, (Instr.indexAt t v u).run P w = .ok z w ∧ R F y z := by
  unfold iindexAddr at e
  split at e
  case h_2 => cases e
  rename_i k i
  cases hx
  split at e
  · rename_i sz by' zz len el ht
    obtain ⟨inf, d, hf⟩ := hT t _ ht
    have hu := hf.arr rfl
    split at e
    · rename_i ti n off hti
      cases e
      obtain ⟨inf2, d2, hf2⟩ := hT el ti hti
      obtain ⟨p1, p2, _⟩ := hp
      cases hr with
      | ptr hn =>
      refine ⟨.pointer (some ⟨F.blk n, off + i.toNat * ti.size, none⟩), ?_, .ptr hn⟩
      simp [Instr.indexAt, asIntOf, run_underlying hu, Instr.sureAddr, p1, p2, run_sizeOf hf2.info, hf2.size, Addr.add_lit]
    · rename_i ti nw cs off hti
      cases e
      obtain ⟨inf2, d2, hf2⟩ := hT el ti hti
      obtain ⟨p1, p2, _⟩ := hp
      cases hr with
      | fp hb hr hl =>
      rename_i b o vs
      refine ⟨.pointer (some ⟨b, o + (off + i.toNat * ti.size), none⟩), ?_, .fp hb hr hl⟩
      simp [Instr.indexAt, asIntOf, run_underlying hu, Instr.sureAddr, p1, p2, run_sizeOf hf2.info, hf2.size, add_add]
    · cases e
  · rename_i sz by' zz el ht
    obtain ⟨inf, d, hf⟩ := hT t _ ht
    have hu := hf.slc rfl
    split at e
    · rename_i ti n off len cap esz hti
      split at e
      case isFalse => cases e
      rename_i hesz
      cases e
      have hesz' : esz = ti.size := Nat.eq_of_beq_eq_true hesz
      subst hesz'
      obtain ⟨inf2, d2, hf2⟩ := hT el ti hti
      obtain ⟨p1, p2, _⟩ := hp
      cases hr with
      | sl hn hl' hc ho hs =>
        rename_i cap' o
        have : o = off := ho (by omega)
        subst this
        refine ⟨.pointer (some ⟨F.blk n, o + i.toNat * ti.size, none⟩), ?_, .ptr hn⟩
        simp [Instr.indexAt, asIntOf, run_underlying hu, p1, p2, run_sizeOf hf2.info, hf2.size, Addr.add_lit]
      | slnil hn => omega
    · rename_i ti nw cs len hti
      cases e
      obtain ⟨inf2, d2, hf2⟩ := hT el ti hti
      obtain ⟨p1, p2, _⟩ := hp
      cases hr with
      | fz hb hr hl hc =>
        rename_i cap' b o vs
        refine ⟨.pointer (some ⟨b, o + i.toNat * ti.size, none⟩), ?_, .fp hb hr hl⟩
        simp [Instr.indexAt, asIntOf, run_underlying hu, p1, p2, run_sizeOf hf2.info, hf2.size, Addr.add_lit]
      | fznil => simp at p2; omega
      | fz0 => simp at p2; omega
    · cases e
  · cases e

end
end Go.Idl
