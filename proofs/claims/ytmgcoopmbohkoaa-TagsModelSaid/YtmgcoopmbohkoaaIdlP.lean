/-
  Ideal states: one operation.
-/
import Derived.Test.YtmgcoopmbohkoaaIdlO
namespace Go.Idl
open Go

def isByteV : IV → Bool
  | .sc (.int .u8 _) => true
  | _ => false
def unbyte : IV → UInt8
  | .sc (.int _ n) => UInt8.ofNat n.toNat
  | _ => 0

def itext (h : List HO) (x : IV) : Option (List Prop × IV) :=
  match x with
  | .fz _ cs len => some ([cs.length = len, cs.all isByteV = true], .sc (.string ⟨⟨cs.map unbyte⟩⟩))
  | .sl n off len _ _ =>
    match hcells h n with
    | some cs => some ([off + len ≤ cs.length, ((cs.drop off).take len).all isByteV = true], .sc (.string ⟨⟨((cs.drop off).take len).map unbyte⟩⟩))
    | none => none
  | .sc (.slice none 0 0) => some ([], .sc (.string ⟨⟨[]⟩⟩))
  | _ => none

def ifieldAddr (T : TT) (x : IV) (s f : Nat) : Option IV :=
  match ifield T s f with
  | some (off, ft) =>
    if (T.get ft).isSome && !(Nat.beq (szT T ft) 0) then
      match x with
      | .ptr n o => some (.ptr n (o + off))
      | .fp b cs o => some (.fp b cs (o + off))
      | _ => none
    else none
  | none => none

def ibuiltin (T : TT) (h : List HO) (b : Builtin) (types : List Nat) (args : List IV) : Option (List Prop × IV × List HO) :=
  match b with
  | .append => iappend T h types args
  | .copy => icopy T h types args
  | .clear => iclear T h types args
  | b => match iof T b types args with | some y => some ([], y, h) | none => none

def ibinop (P : Program) (T : TT) (op : BinOp) (t : Nat) (x y : IV) : Option (List Prop × IV) :=
  match ibin T op t x y with
  | some r => some r
  | none =>
    match op, x, y with
    | .eql, .agg a, .agg b => match ieqV P T 6 t (.agg a) (.agg b) with | some (p, r) => some ((EqOk P t) :: p, .sc (.bool r)) | none => none
    | .neq, .agg a, .agg b => match ieqV P T 6 t (.agg a) (.agg b) with | some (p, r) => some ((EqOk P t) :: p, .sc (.bool (!r))) | none => none
    | _, _, _ => none

def iconv (T : TT) (h : List HO) (src dst : Nat) (x : IV) : Option (List Prop × IV × List HO) :=
  match T.get src, T.get dst with
  | some ⟨_, _, _, .slc e⟩, some ⟨_, _, _, .str⟩ =>
    match T.get e, itext h x with
    | some ⟨_, _, _, .int .u8⟩, some (p, y) => some (p, y, h)
    | _, _ => none
  | _, _ => iconvert T h src dst x

def iexec (P : Program) (T : TT) (s : St) (op : Op) : Option (List Prop × IV × List HO) :=
  match op with
  | .move x => some ([], s.ev x, s.h)
  | .assign x => some ([], s.ev x, s.h)
  | .pick c a b =>
    match s.ev c with
    | .sc (.bool c) => some ([], ipick c (s.ev a) (s.ev b), s.h)
    | _ => none
  | .alloc t =>
    match T.get t with
    | some ti => some ([], .ptr s.h.length 0, s.h ++ [.box (zerosOf ti)])
    | none => none
  | .box _ x =>
    match ibox s.h (s.ev x) with
    | some (y, h) => some ([], y, h)
    | none => none
  | .build t parts =>
    match ibuild T t (parts.toList.map fun x => (x.1, s.ev x.2)) with
    | some (p, y) => some (p, y, s.h)
    | none => none
  | .buildSlice t len parts => ibuildSlice T s.h t len (parts.toList.map fun x => (x.1, s.ev x.2))
  | .load t a =>
    match iload T s.h t (s.ev a) with
    | some (p, y) => some (p, y, s.h)
    | none => none
  | .store t a x =>
    match istore T s.h t (s.ev a) (s.ev x) with
    | some (p, h) => some (p, .sc undef, h)
    | none => none
  | .nilCheck x =>
    match s.ev x with
    | .ptr n o => some ([], .ptr n o, s.h)
    | .fp b cs o => some ([], .fp b cs o, s.h)
    | .fn (.func f) a b => some ([], .fn (.func f) a b, s.h)
    | _ => none
  | .binOp op t x y _ =>
    match ibinop P T op t (s.ev x) (s.ev y) with
    | some (p, z) => some (p, z, s.h)
    | none => none
  | .unOp op _ x =>
    match iun op (s.ev x) with
    | some y => some ([], y, s.h)
    | none => none
  | .convert src dst x => iconv T s.h src dst (s.ev x)
  | .makeFunc f a b => some ([], .fn f (a.toList.map s.ev) (b.toList.map s.ev), s.h)
  | .makeSlice t l c => imake T s.h t (s.ev l) (s.ev c)
  | .slice t x lo hi mx =>
    match islice T s.h t (s.ev x) (lo.map s.ev) (hi.map s.ev) (mx.map s.ev) with
    | some (p, y) => some (p, y, s.h)
    | none => none
  | .fieldAddr t x f =>
    match ifieldAddr T (s.ev x) t f with
    | some y => some ([], y, s.h)
    | none => none
  | .field t x f =>
    match ifield T t f, s.ev x with
    | some (off, ft), .agg cs => match ipart T ft cs off with | some (p, y) => some (p, y, s.h) | none => none
    | _, _ => none
  | .indexAddr t x i =>
    match iindexAddr T t (s.ev x) (s.ev i) with
    | some (p, y) => some (p, y, s.h)
    | none => none
  | .index t x i =>
    match iindex T t (s.ev x) (s.ev i) with
    | some (p, y) => some (p, y, s.h)
    | none => none
  | .extract x i =>
    match s.ev x with
    | .tup cs => match cs[i]? with | some c => some ([], c, s.h) | none => none
    | _ => none
  | .call { callee := .builtin b, args := args, argTypes := types } => ibuiltin T s.h b types.toList (args.toList.map s.ev)
  | _ => none

section
variable {P : Program} {T : TT} {F : Fix} {h : List HO} {w : World}

theorem itext_sound (hi : HIn F h w) {x y : IV} {u : Value} {ps : List Prop} (hx : R F x u) (e : itext h x = some (ps, y)) (hp : AllP ps) : ∃ v, (Conv.bytesToString u).run P w = .ok v w ∧ R F y v := by
  have core : ∀ (a : Addr) (cs : List IV) (vs : List Value) (cap : Nat), RL F cs vs → (∀ j v, vs[j]? = some v → w.cell? (a.add j) = some v) → cs.all isByteV = true →
      (Conv.bytesToString (.slice (some a) vs.length cap)).run P w = .ok (.string ⟨⟨cs.map unbyte⟩⟩) w := by
    intro a cs vs cap hr hc hb
    simp only [Conv.bytesToString, Sem.run_bind, run_loadCells_list w a vs hc, Result.andThen_ok]
    rw [← Array.forIn_toList]
    have loop : ∀ (cs : List IV) (vs : List Value) (s : ByteArray), RL F cs vs → cs.all isByteV = true →
        (forIn vs s (fun c r => do
          let .int .u8 n := c | stuck "bytesToString: byte expected"
          pure (.yield (r.push (UInt8.ofNat n.toNat)))) : Sem ByteArray).run P w = .ok ⟨⟨s.data.toList ++ cs.map unbyte⟩⟩ w := by
      intro cs
      induction cs with
      | nil => intro vs s hr _; cases hr; simp
      | cons c cs ih =>
        intro vs s hr hb
        cases hr with
        | cons h1 h2 =>
        simp only [List.all_cons, Bool.and_eq_true] at hb
        cases c with
        | sc _ =>
          cases h1
          rename_i v _
          cases v with
          | int k n =>
            have hk : k = .u8 := by cases k <;> first | rfl | (simp [isByteV] at hb)
            subst hk
            simp only [List.forIn_cons, Sem.run_bind, Sem.run_pure, Result.andThen_ok]
            rw [ih _ _ h2 hb.2]
            congr 3
            simp [unbyte]
          | _ => simp [isByteV] at hb
        | _ => simp [isByteV] at hb
    have := loop cs vs ByteArray.empty hr hb
    have h0 : ByteArray.empty.data.toList = [] := rfl
    rw [h0, List.nil_append] at this
    exact (congrArg (fun r => Result.andThen r fun s w' => Result.ok (Value.string s) w') this)
  unfold itext at e
  split at e
  · rename_i nw cs len
    cases e
    obtain ⟨p1, p2, _⟩ := hp
    cases hx with
    | fznil => exact ⟨.string ⟨⟨[]⟩⟩, rfl, .sc _⟩
    | fz0 => exact ⟨.string ⟨⟨[]⟩⟩, core _ [] [] _ .nil (fun j v hj => by simp at hj) rfl, .sc _⟩
    | fz hb hr hl hlc =>
      rename_i cap' b o vs
      have hlen := hl.length
      refine ⟨_, ?_, .sc _⟩
      have := core ⟨b, o, none⟩ cs vs cap' hl.opened (fun j v hj => by rw [Addr.add_lit]; exact hi.rd _ _ (hr j v hj)) p2
      rw [← hlen, p1] at this
      exact this
  · rename_i n off len cap esz
    split at e
    case h_2 => cases e
    rename_i cs hcs
    cases e
    obtain ⟨p1, p2, _⟩ := hp
    cases hx with
    | slnil hn =>
      refine ⟨.string ⟨⟨[]⟩⟩, rfl, ?_⟩
      simp only [List.take_zero, List.map_nil]; exact .sc _
    | sl hn hl' hc ho hs =>
      rename_i cap' o
      obtain ⟨us, h1, h2, h3⟩ := hi.cells hcs off len p1
      refine ⟨_, ?_, .sc _⟩
      have := core ⟨F.blk n, o, none⟩ _ us cap' h2 (fun j v hj => by
        rw [Addr.add_lit]
        by_cases hc0 : 0 < cap'
        · rw [ho hc0]; exact h3 j v hj
        · have : len = 0 := by omega
          have := lt_of_get hj; omega) p2
      rw [h1] at this
      exact this
  · cases e
    cases hx
    exact ⟨.string ⟨⟨[]⟩⟩, rfl, .sc _⟩
  · cases e


theorem RLmap {ρ : Operand → Value} {g : Operand → IV} (hρ : ∀ x, R F (g x) (ρ x)) : ∀ l : List Operand, RL F (l.map g) (l.map ρ)
  | [] => .nil
  | x :: l => .cons (hρ x) (RLmap hρ l)

theorem ibinop_sound (hT : TOk P T) {op : BinOp} {t : Nat} {x y z : IV} {u v : Value} {ps : List Prop} {xo yo : Operand} (hx : R F x u) (hy : R F y v) (e : ibinop P T op t x y = some (ps, z)) (hp : AllP ps) :
    ∃ r, ((do eqGuard op t xo yo u v; binOp op t u v : Sem Value)).run P w = .ok r w ∧ R F z r := by
  unfold ibinop at e
  split at e
  · rename_i r hb
    cases e
    exact ibin_sound hT hx hy hb hp
  · split at e
    · split at e
      case h_2 => cases e
      rename_i p r hr
      cases e
      obtain ⟨heq, hp⟩ := hp
      have hq := ieqV_sound (w := w) hT 6 9994 t _ _ u v p r hx hy hr hp
      cases hx with
      | agg k1 =>
      cases hy with
      | agg k2 =>
      refine ⟨.bool r, ?_, .sc _⟩
      simp only [Sem.run_bind, run_eqGuard_agg w _ _ _ _ _ _ heq.guard, Result.andThen_ok, run_eql_struct]
      exact congrArg (fun q => Result.andThen q fun b w' => Result.ok (Value.bool b) w') hq
    · split at e
      case h_2 => cases e
      rename_i p r hr
      cases e
      obtain ⟨heq, hp⟩ := hp
      have hq := ieqV_sound (w := w) hT 6 9994 t _ _ u v p r hx hy hr hp
      cases hx with
      | agg k1 =>
      cases hy with
      | agg k2 =>
      refine ⟨.bool (!r), ?_, .sc _⟩
      simp only [Sem.run_bind, run_eqGuard_agg w _ _ _ _ _ _ heq.guard, Result.andThen_ok, run_neq_struct]
      exact congrArg (fun q => Result.andThen q fun b w' => Result.ok (Value.bool (!b)) w') hq
    · cases e

theorem iconv_sound (hT : TOk P T) (hi : HIn F h w) (hbase : F.base ≤ w.heap.size) {src dst : Nat} {x y : IV} {u : Value} {ps : List Prop} {h' : List HO} (hx : R F x u)
    (e : iconv T h src dst x = some (ps, y, h')) (hp : AllP ps) : ∃ v' G w', (convert src dst u).run P w = .ok v' w' ∧ HStep F G h h' w w' ∧ R G y v' := by
  unfold iconv at e
  split at e
  · rename_i a1 a2 a3 el b1 b2 b3 h1 h2
    split at e
    case h_2 => cases e
    rename_i c1 c2 c3 p y' hel htx
    cases e
    obtain ⟨inf1, d1, hf1⟩ := hT _ _ h1
    obtain ⟨inf2, d2, hf2⟩ := hT _ _ h2
    obtain ⟨inf3, d3, hf3⟩ := hT _ _ hel
    obtain ⟨v, k1, k2⟩ := itext_sound (P := P) hi hx htx hp
    have hsl : ∃ a n c, u = .slice a n c := by
      unfold itext at htx
      split at htx
      · cases hx <;> exact ⟨_, _, _, rfl⟩
      · cases hx <;> exact ⟨_, _, _, rfl⟩
      · cases hx; exact ⟨_, _, _, rfl⟩
      · cases htx
    obtain ⟨a, n, c, rfl⟩ := hsl
    refine ⟨v, F, w, ?_, HStep.refl hi, k2⟩
    simp only [convert, Sem.run_bind, run_underlying (hf1.slc rfl), run_underlying (hf2.str rfl), run_underlying (hf3.int rfl), Result.andThen_ok]
    exact k1
  · unfold iconvert at e
    split at e
    · rename_i i1 a1 a2 a3 k k' n h1 h2
      obtain ⟨inf1, d1, hf1⟩ := hT _ _ h1
      obtain ⟨inf2, d2, hf2⟩ := hT _ _ h2
      cases e; cases hx
      refine ⟨_, F, w, ?_, HStep.refl hi, .sc _⟩
      simp only [convert, Sem.run_bind, run_underlying hf1.und, run_underlying (hf2.int rfl), Result.andThen_ok]
      cases d1 <;> rfl
    · rename_i i1 a1 a2 a3 s h1 h2
      obtain ⟨inf1, d1, hf1⟩ := hT _ _ h1
      obtain ⟨inf2, d2, hf2⟩ := hT _ _ h2
      cases e; cases hx
      refine ⟨_, F, w, ?_, HStep.refl hi, .sc _⟩
      simp only [convert, Sem.run_bind, run_underlying hf1.und, run_underlying (hf2.str rfl), Result.andThen_ok]
      cases d1 <;> rfl
    · rename_i i1 a1 a2 a3 el s h1 h2
      obtain ⟨inf1, d1, hf1⟩ := hT _ _ h1
      obtain ⟨inf2, d2, hf2⟩ := hT _ _ h2
      split at e
      case h_2 => cases e
      rename_i c1 c2 c3 hel
      obtain ⟨inf3, d3, hf3⟩ := hT _ _ hel
      cases e; cases hx
      obtain ⟨v', G, w', k1, k2, k3⟩ := strBytes_sound (P := P) hi hbase el s
      refine ⟨v', G, w', ?_, k2, k3⟩
      simp only [convert, Sem.run_bind, run_underlying hf1.und, run_underlying (hf2.slc rfl), Result.andThen_ok]
      have : (underlying el).run P w = .ok (.int .u8) w := run_underlying (hf3.int rfl) w
      cases d1 <;> first | (simp only [this, Result.andThen_ok]; exact k1) | skip
    · cases e

theorem ibuiltin_sound (hT : TOk P T) (hi : HIn F h w) (hbase : F.base ≤ w.heap.size) {b : Builtin} {types : List Nat} {args : List IV} {vs : List Value} {ty : Nat} {consts : Array Bool} {ps : List Prop} {y : IV} {h' : List HO}
    (hr : RL F args vs) (e : ibuiltin T h b types args = some (ps, y, h')) (hp : AllP ps) :
    ∃ v' G w', (builtin b ⟨types⟩ ty consts ⟨vs⟩).run P w = .ok (.value v') w' ∧ HStep F G h h' w w' ∧ R G y v' := by
  unfold ibuiltin at e
  split at e
  · unfold iappend at e
    split at e
    case h_2 => cases e
    rename_i t t2 s x
    cases hr with
    | cons h1 hr =>
    cases hr with
    | cons h2 hr =>
    cases hr
    obtain ⟨v', G, w', k1, k2, k3⟩ := iappend_sound (P := P) (ty := ty) (h := h) (t := t) (t2 := t2) hT hi hbase h1 h2 e hp
    exact ⟨v', G, w', by simp only [builtin, Sem.run_bind]; erw [k1]; rfl, k2, k3⟩
  · have he := e
    unfold icopy at e
    split at e
    case h_2 => cases e
    rename_i t t2 n off len cap esz x
    cases hr with
    | cons h1 hr =>
    cases hr with
    | cons h2 hr =>
    cases hr
    obtain ⟨v', w', k1, k2, k3⟩ := icopy_sound (P := P) (ty := ty) (h := h) (t := t) (t2 := t2) hT hi h1 h2 he hp
    exact ⟨v', F, w', by simp only [builtin, Sem.run_bind]; erw [k1]; rfl, k2, k3⟩
  · obtain ⟨v', w', k1, k2, k3⟩ := iclear_sound (P := P) (ty := ty) hT hi hr e hp
    exact ⟨v', F, w', by simp only [builtin, Sem.run_bind]; erw [k1]; rfl, k2, k3⟩
  · split at e
    case h_2 => cases e
    rename_i y' hb
    cases e
    unfold iof at hb
    split at hb
    · rename_i t x
      cases hr with
      | cons h1 hr =>
      cases hr
      split at hb
      · rename_i q1 q2 q3 s ht
        obtain ⟨inf, d, hf⟩ := hT _ _ ht
        cases hb; cases h1
        exact ⟨_, F, w, by simp [builtin, Builtin.len_, run_underlying (hf.str rfl), goInt], HStep.refl hi, .sc _⟩
      · rename_i q1 q2 q3 n el ht
        obtain ⟨inf, d, hf⟩ := hT _ _ ht
        cases hb
        exact ⟨_, F, w, by simp [builtin, Builtin.len_, run_underlying (hf.arr rfl), goInt], HStep.refl hi, .sc _⟩
      · rename_i q1 q2 q3 el ht
        obtain ⟨inf, d, hf⟩ := hT _ _ ht
        cases hb
        cases h1 <;> exact ⟨_, F, w, by simp [builtin, Builtin.len_, run_underlying (hf.slc rfl), goInt], HStep.refl hi, .sc _⟩
      · rename_i q1 q2 q3 el ht
        obtain ⟨inf, d, hf⟩ := hT _ _ ht
        cases hb
        cases h1 <;> exact ⟨_, F, w, by simp [builtin, Builtin.len_, run_underlying (hf.slc rfl), goInt], HStep.refl hi, .sc _⟩
      · rename_i q1 q2 q3 el a n c ht
        obtain ⟨inf, d, hf⟩ := hT _ _ ht
        cases hb; cases h1
        exact ⟨_, F, w, by simp [builtin, Builtin.len_, run_underlying (hf.slc rfl), goInt], HStep.refl hi, .sc _⟩
      · cases hb
    · rename_i k x k' y
      cases hb
      cases hr with
      | cons h1 hr =>
      cases hr with
      | cons h2 hr =>
      cases hr; cases h1; cases h2
      exact ⟨_, F, w, by simp [builtin, Builtin.min_, Builtin.min2], HStep.refl hi, .sc _⟩
    · rename_i k x k' y
      cases hb
      cases hr with
      | cons h1 hr =>
      cases hr with
      | cons h2 hr =>
      cases hr; cases h1; cases h2
      exact ⟨_, F, w, by simp [builtin, Builtin.max_, Builtin.max2], HStep.refl hi, .sc _⟩
    · cases hb

set_option maxHeartbeats 1000000 in
theorem iexec_sound (hT : TOk P T) {s : St} (hi : HIn F s.h w) (hbase : F.base ≤ w.heap.size) {ρ : Operand → Value} (hρ : ∀ x, R F (s.ev x) (ρ x)) {o : Oper} {ps : List Prop} {y : IV} {h' : List HO}
    (e : iexec P T s o.op = some (ps, y, h')) (hp : AllP ps) :
    ∃ nx v' G w', (execOp ρ o).run P w = .ok nx w' ∧ (nx = .value v' ∨ (nx = .skip ∧ v' = undef)) ∧ HStep F G s.h h' w w' ∧ R G y v' := by
  have val : ∀ {x : Sem Value}, (execOp ρ o = do pure (.value (← x))) → (∃ v' G w', x.run P w = .ok v' w' ∧ HStep F G s.h h' w w' ∧ R G y v') →
      ∃ nx v' G w', (execOp ρ o).run P w = .ok nx w' ∧ (nx = .value v' ∨ (nx = .skip ∧ v' = undef)) ∧ HStep F G s.h h' w w' ∧ R G y v' := by
    rintro x hx ⟨v', G, w', h1, h2, h3⟩
    refine ⟨.value v', v', G, w', ?_, .inl rfl, h2, h3⟩
    rw [hx]
    simp only [Sem.run_bind, h1, Result.andThen_ok, Sem.run_pure]
  have val0 : ∀ {x : Sem Value} {z : IV}, (execOp ρ o = do pure (.value (← x))) → h' = s.h → y = z → (∃ v', x.run P w = .ok v' w ∧ R F z v') →
      ∃ nx v' G w', (execOp ρ o).run P w = .ok nx w' ∧ (nx = .value v' ∨ (nx = .skip ∧ v' = undef)) ∧ HStep F G s.h h' w w' ∧ R G y v' := by
    rintro x z hx rfl rfl ⟨v', h1, h2⟩
    exact val hx ⟨v', F, w, h1, HStep.refl hi, h2⟩
  obtain ⟨dst, op, type, pos, after, guard⟩ := o
  simp only at e
  unfold iexec at e
  split at e
  · rename_i x
    cases e
    exact ⟨_, _, F, w, rfl, .inl rfl, HStep.refl hi, hρ x⟩
  · rename_i x
    cases e
    exact ⟨_, _, F, w, rfl, .inl rfl, HStep.refl hi, hρ x⟩
  · rename_i c a b
    split at e
    case h_2 => cases e
    rename_i cb hc
    cases e
    have h1 := hρ c
    rw [hc] at h1
    have h2 : ρ c = .bool cb := by generalize ρ c = v at h1; cases h1; rfl
    refine ⟨_, _, F, w, ?_, .inl rfl, HStep.refl hi, (hρ a).ipick (hρ b) (c := cb)⟩
    simp only [execOp, h2, asBool]
    cases cb <;> rfl
  · rename_i t
    split at e
    case h_2 => cases e
    rename_i ti ht
    cases e
    exact val rfl (ialloc_sound hT hi hbase ht _)
  · rename_i t x
    split at e
    case h_2 => cases e
    rename_i y' h'' hb
    cases e
    exact val rfl (ibox_sound hi hbase (hρ x) hb)
  · rename_i t parts
    split at e
    case h_2 => cases e
    rename_i p y' hb
    cases e
    refine val0 rfl rfl rfl (ibuild_sound hT (vp := (parts.map fun x => (x.1, ρ x.2)).toList) ?_ ?_ hb hp)
    · simp [Function.comp_def]
    · have := RLmap hρ (parts.toList.map (·.2))
      simpa [Function.comp_def] using this
  · rename_i t len parts
    refine val rfl (ibuildSlice_sound hT hi hbase (vp := (parts.map fun x => (x.1, ρ x.2)).toList) ?_ ?_ e hp)
    · simp [Function.comp_def]
    · have := RLmap hρ (parts.toList.map (·.2))
      simpa [Function.comp_def] using this
  · rename_i t a
    split at e
    case h_2 => cases e
    rename_i p y' hb
    cases e
    exact val0 rfl rfl rfl (iload_sound hT hi (hρ a) hb hp)
  · rename_i t a x
    split at e
    case h_2 => cases e
    rename_i p h'' hb
    cases e
    obtain ⟨w', k1, k2⟩ := istore_sound hT hi (hρ a) (hρ x) hb hp
    refine ⟨.skip, undef, F, w', ?_, .inr ⟨rfl, rfl⟩, k2, .sc _⟩
    simp only [execOp, Sem.run_bind, k1, Result.andThen_ok, Sem.run_pure]
  · rename_i x
    have h1 := hρ x
    split at e
    · rename_i n off hx
      cases e
      rw [hx] at h1
      generalize hv : ρ x = v at h1
      cases h1 with
      | ptr hn => exact ⟨.value (.pointer (some ⟨F.blk n, off, none⟩)), _, F, w, by simp [execOp, hv], .inl rfl, HStep.refl hi, .ptr hn⟩
    · rename_i nw cs off hx
      cases e
      rw [hx] at h1
      generalize hv : ρ x = v at h1
      cases h1 with
      | fp a b c => exact ⟨.value _, _, F, w, by simp only [execOp, hv]; rfl, .inl rfl, HStep.refl hi, .fp a b c⟩
    · rename_i f a b hx
      cases e
      rw [hx] at h1
      generalize hv : ρ x = v at h1
      cases h1 with
      | fn a b => exact ⟨.value _, _, F, w, by simp only [execOp, hv]; rfl, .inl rfl, HStep.refl hi, .fn a b⟩
    · cases e
  · rename_i bop t x yy yt
    split at e
    case h_2 => cases e
    rename_i p z hb
    cases e
    exact val0 (x := do eqGuard bop t x yy (ρ x) (ρ yy); binOp bop t (ρ x) (ρ yy)) rfl rfl rfl (ibinop_sound hT (hρ x) (hρ yy) hb hp)
  · rename_i uop t x
    split at e
    case h_2 => cases e
    rename_i y' hb
    cases e
    exact val0 rfl rfl rfl (iun_sound (hρ x) hb)
  · rename_i src dst' x
    exact val (x := convert src dst' (ρ x)) rfl (iconv_sound hT hi hbase (hρ x) e hp)
  · rename_i f a b
    cases e
    refine ⟨.value (.func f (a.map ρ) (b.map ρ)), _, F, w, rfl, .inl rfl, HStep.refl hi, ?_⟩
    have h1 := RLmap hρ a.toList
    have h2 := RLmap hρ b.toList
    have e1 : a.map ρ = ⟨a.toList.map ρ⟩ := by apply Array.ext'; simp
    have e2 : b.map ρ = ⟨b.toList.map ρ⟩ := by apply Array.ext'; simp
    rw [e1, e2]
    exact .fn h1 h2
  · rename_i t l c
    exact val rfl (imake_sound hT hi hbase (hρ l) (hρ c) e hp)
  · rename_i t x lo hi' mx
    split at e
    case h_2 => cases e
    rename_i p y' hb
    cases e
    refine val0 rfl rfl rfl (islice_sound hT hi (hρ x) ?_ ?_ ?_ ?_ ?_ ?_ hb hp)
    · intro x hx; cases lo with
      | none => cases hx
      | some q => cases hx; exact ⟨_, rfl, hρ q⟩
    · intro hx; cases lo with
      | none => rfl
      | some q => cases hx
    · intro x hx; cases hi' with
      | none => cases hx
      | some q => cases hx; exact ⟨_, rfl, hρ q⟩
    · intro hx; cases hi' with
      | none => rfl
      | some q => cases hx
    · intro x hx; cases mx with
      | none => cases hx
      | some q => cases hx; exact ⟨_, rfl, hρ q⟩
    · intro hx; cases mx with
      | none => rfl
      | some q => cases hx
  · rename_i t x f
    split at e
    case h_2 => cases e
    rename_i y' hb
    cases e
    unfold ifieldAddr at hb
    split at hb
    case h_2 => cases hb
    rename_i off ft hfl
    split at hb
    case isFalse => cases hb
    rename_i hc
    simp only [Bool.and_eq_true, Bool.not_eq_true'] at hc
    obtain ⟨k1, k2⟩ := ifieldAddr_sound (P := P) (w := w) hT (hρ x) hfl (fun i hi h0 => by have := hc.2; simp [szT, hi, h0] at this) hc.1
    split at hb
    · rename_i n o hx
      cases hb
      exact val0 rfl rfl rfl (k1 n o hx)
    · rename_i nw cs o hx
      cases hb
      exact val0 rfl rfl rfl (k2 nw cs o hx)
    · cases hb
  · rename_i t x f
    split at e
    case h_2 => cases e
    rename_i off ft cs hfl hx
    split at e
    case h_2 => cases e
    rename_i p y' hb
    cases e
    have h1 := hρ x; rw [hx] at h1
    generalize hv : ρ x = v at h1
    cases h1 with
    | agg hl =>
    rename_i vs
    obtain ⟨u, k1, k2⟩ := part_sound (w := w) hT hl hb hp
    refine val0 rfl rfl rfl ⟨u, ?_, k2⟩
    unfold ifield at hfl
    split at hfl
    case h_2 => cases hfl
    rename_i sz by' z fs hs
    obtain ⟨inf, d, hf⟩ := hT t _ hs
    obtain ⟨fa, hu, hfs⟩ := hf.strct rfl
    rw [hfs, List.getElem?_map] at hfl
    obtain ⟨fld, q1, q2⟩ := Option.map_eq_some_iff.1 hfl
    cases q2
    have q1' : fa[f]? = some fld := by rw [← Array.getElem?_toList]; exact q1
    rw [hv]
    simp only [Instr.field, Sem.run_bind, run_underlying hu, Result.andThen_ok, q1', asAgg, Sem.run_pure, k1]
  · rename_i t x ix
    split at e
    case h_2 => cases e
    rename_i p y' hb
    cases e
    exact val0 rfl rfl rfl (iindexAddr_sound hT (hρ x) (hρ ix) hb hp)
  · rename_i t x ix
    split at e
    case h_2 => cases e
    rename_i p y' hb
    cases e
    exact val0 rfl rfl rfl (iindex_sound hT (hρ x) (hρ ix) hb hp)
  · rename_i x ix
    split at e
    case h_2 => cases e
    rename_i cs hx
    split at e
    case h_2 => cases e
    rename_i c hc
    cases e
    have h1 := hρ x; rw [hx] at h1
    generalize hv : ρ x = v at h1
    cases h1 with
    | tup hl =>
    rename_i vs
    obtain ⟨u, k1, k2⟩ := hl.get ix _ hc
    refine val0 rfl rfl rfl ⟨u, ?_, k2⟩
    rw [hv]
    have k1' : (⟨vs⟩ : Array Value)[ix]? = some u := by rw [← Array.getElem?_toList]; exact k1
    simp only [Instr.extract, k1', Sem.run_pure]
  · rename_i b args types
    have hargs : RL F (args.toList.map s.ev) (args.map ρ).toList := by simpa using RLmap hρ args.toList
    obtain ⟨v', G, w', k1, k2, k3⟩ := ibuiltin_sound (P := P) (ty := type) (consts := args.map fun | .const _ => true | _ => false) hT hi hbase hargs e hp
    refine ⟨_, v', G, w', ?_, .inl rfl, k2, k3⟩
    simp only [execOp, resolve, invoke, Sem.run_bind, Sem.run_pure, Result.andThen_ok]
    exact k1
  · cases e

end
end Go.Idl
