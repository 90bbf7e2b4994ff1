/-
  Ideal states: from what the arguments of a law read as, to ideal values; from a law's Spec to its row.
-/
import Derived.Test.YtmgcoopmbohkoaaIdlCl
import Derived.ProofKit
namespace Go.Idl
open Go Go.RowKit Go.ChangeShapes Go.WideShapes

theorem mapM_some {α β : Type} {f : α → Option β} : ∀ {l : List α} {xs : List β}, l.mapM f = some xs → xs.length = l.length ∧ ∀ (i : Nat) a, l[i]? = some a → ∃ b, f a = some b
  | [], xs, h => by simp at h; subst h; simp
  | a :: l, xs, h => by
    rw [List.mapM_cons] at h
    cases hf : f a with
    | none => rw [hf] at h; cases h
    | some b =>
      rw [hf] at h
      cases hl : l.mapM f with
      | none => rw [hl] at h; cases h
      | some ys =>
        rw [hl] at h
        cases h
        obtain ⟨h1, h2⟩ := mapM_some hl
        refine ⟨by simp [h1], fun i c hc => ?_⟩
        cases i with
        | zero => simp at hc; subst hc; exact ⟨b, hf⟩
        | succ i => exact h2 i c (by simpa using hc)

def TyL (Q : Nat → List IV → Prop) : List (Nat × Nat) → List IV → Prop
  | [], xs => xs = []
  | (_, t) :: r, xs => ∃ a b, xs = a ++ b ∧ Q t a ∧ TyL Q r b

def Ty (T : TT) : Nat → Nat → List IV → Prop
  | 0, _, _ => False
  | n + 1, t, xs =>
    match T.get t with
    | some ⟨_, _, _, .bool⟩ => ∃ b, xs = [.sc (.bool b)]
    | some ⟨_, _, _, .int k⟩ => ∃ m, xs = [.sc (.int k m)] ∧ (Lit.int k m).wf = true
    | some ⟨_, _, _, .str⟩ => ∃ l, xs = [.str l] ∧ l.length ≤ 9223372036854775807
    | some ⟨_, _, _, .slc e⟩ => ∃ es : List (List IV), xs = [.fz false es.flatten es.length] ∧ es.length ≤ 9223372036854775807 ∧ ∀ x ∈ es, Ty T n e x
    | some ⟨_, _, _, .arr m e⟩ => ∃ es : List (List IV), xs = es.flatten ∧ es.length = m ∧ ∀ x ∈ es, Ty T n e x
    | some ⟨_, _, _, .strct fs⟩ => TyL (Ty T n) fs xs
    | _ => False

def contig (T : TT) : Nat → List (Nat × Nat) → Nat → Bool
  | off, [], size => Nat.beq off size
  | off, (o, t) :: r, size => Nat.beq o off && (T.get t).isSome && contig T (off + szT T t) r size

def cover (T : TT) : Nat → Nat → Bool
  | 0, _ => false
  | n + 1, t =>
    match T.get t with
    | some ⟨_, _, _, .bool⟩ | some ⟨_, _, _, .int _⟩ | some ⟨_, _, _, .str⟩ => true
    | some ⟨_, _, _, .slc e⟩ => cover T n e && (T.get e).isSome && Nat.blt 0 (szT T e)
    | some ⟨sz, _, _, .arr m e⟩ => cover T n e && (T.get e).isSome && Nat.beq sz (m * szT T e)
    | some ⟨sz, _, _, .strct fs⟩ => contig T 0 fs sz && fs.all fun x => cover T n x.2
    | _ => false

theorem cellsOf_sz {P : Program} {T : TT} (hT : TOk P T) {t : Nat} (h : (T.get t).isSome = true) : P.cellsOf t = szT T t := by
  obtain ⟨i, hi⟩ := Option.isSome_iff_exists.1 h
  obtain ⟨inf, d, hf⟩ := hT t i hi
  simp [Program.cellsOf, szT, hi, hf.info, hf.size]

theorem RL.flatten {F : Fix} : ∀ {es : List (List IV)} {vs : List (List Value)}, es.length = vs.length → (∀ (i : Nat) x v, es[i]? = some x → vs[i]? = some v → RL F x v) → RL F es.flatten vs.flatten
  | [], [], _, _ => .nil
  | x :: es, v :: vs, h, k => by
    simp only [List.flatten_cons]
    exact RL.append (k 0 x v rfl rfl) (RL.flatten (by simpa using h) fun i x v h1 h2 => k (i + 1) x v (by simpa using h1) (by simpa using h2))
  | [], _ :: _, h, _ => by simp at h
  | _ :: _, [], h, _ => by simp at h

theorem Rdl.flatten {rd : Addr → Option Value} {b sz : Nat} : ∀ {vs : List (List Value)} {o : Nat}, (∀ (i : Nat) v, vs[i]? = some v → v.length = sz ∧ ∀ (r : Nat) u, v[r]? = some u → rd ⟨b, o + i * sz + r, none⟩ = some u) → Rdl rd b o vs.flatten
  | [], o, _ => fun j v h => by simp at h
  | v :: vs, o, h => fun j u hj => by
    simp only [List.flatten_cons] at hj
    obtain ⟨h1, h2⟩ := h 0 v rfl
    rw [List.getElem?_append] at hj
    split at hj
    · have := h2 j u hj; simpa using this
    · rename_i hlt
      have := Rdl.flatten (vs := vs) (o := o + sz) (b := b) (sz := sz) (rd := rd) (fun i v hv => by
        obtain ⟨k1, k2⟩ := h (i + 1) v (by simpa using hv)
        refine ⟨k1, fun r u hr => ?_⟩
        have := k2 r u hr
        rwa [show o + (i + 1) * sz + r = o + sz + i * sz + r by rw [Nat.add_mul]; omega] at this) (j - v.length) u hj
      rwa [h1, show o + sz + (j - sz) = o + j by omega] at this

theorem cells?_spec {w : World} {a : Addr} {n : Nat} {cs : List Value} (h : w.cells? 0 a n = some cs) : cs.length = n ∧ ∀ (r : Nat) v, cs[r]? = some v → w.cell? (a.add r) = some v := by
  unfold World.cells? at h
  rw [if_pos (Nat.zero_le _)] at h
  have key : ∀ (l : List Nat) (xs : List Value), l.mapM (fun i => w.cell? (a.add i)) = some xs → ∀ (i k : Nat) (v : Value), l[i]? = some k → xs[i]? = some v → w.cell? (a.add k) = some v := by
    intro l
    induction l with
    | nil => intro xs _ i k v h; simp at h
    | cons x l ih =>
      intro xs hx i k v hi hv
      rw [List.mapM_cons] at hx
      cases hf : w.cell? (a.add x) with
      | none => rw [hf] at hx; cases hx
      | some y =>
        rw [hf] at hx
        cases hl : l.mapM (fun i => w.cell? (a.add i)) with
        | none => rw [hl] at hx; cases hx
        | some ys =>
          rw [hl] at hx; cases hx
          cases i with
          | zero => simp at hi hv; subst hi; subst hv; exact hf
          | succ i => exact ih ys hl i k v (by simpa using hi) (by simpa using hv)
  have hlen := (mapM_some h).1
  simp at hlen
  refine ⟨hlen, fun r v hr => ?_⟩
  have hrl : r < n := by have := lt_of_get hr; omega
  exact key _ _ h r r v (by simp [hrl]) hr

theorem spot_none {w : World} {a : Addr} {v : Value} (h : w.cell? a = some v) : a.spot = none := by
  unfold World.cell? at h
  split at h
  · split at h
    · cases h
    · rename_i hs; cases hsp : a.spot with
      | none => rfl
      | some _ => rw [hsp] at hs; simp at hs
  · cases h

theorem Rd0 (W : World) : ({ Rd W with N := 0 } : Fix) = Rd W := rfl

theorem choose_list {α : Type} {Q : Nat → α → Prop} : ∀ {n : Nat}, (∀ i, i < n → ∃ x, Q i x) → ∃ l : List α, l.length = n ∧ ∀ (i : Nat) x, l[i]? = some x → Q i x
  | 0, _ => ⟨[], rfl, fun i x h => by simp at h⟩
  | n + 1, h => by
    obtain ⟨l, h1, h2⟩ := choose_list (n := n) fun i hi => h i (by omega)
    obtain ⟨x, hx⟩ := h n (by omega)
    refine ⟨l ++ [x], by simp [h1], fun i y hy => ?_⟩
    rw [List.getElem?_append] at hy
    split at hy
    · exact h2 i y hy
    · rename_i hlt
      have : i - l.length = 0 := by
        have := lt_of_get hy; simp at this; omega
      rw [this] at hy; simp at hy; subst hy
      obtain rfl : i = n := by omega
      exact hx

section
variable {H : Type} {enc : TypeId × Value → H} {P : Program} {T : TT} {W : World}

theorem parts_list {cs : List Value} {sz : Nat} : ∀ (m o : Nat), o + m * sz = cs.length → ((List.range m).map fun i => (cs.drop (o + i * sz)).take sz).flatten = cs.drop o
  | 0, o, h => by
    simp
    omega
  | m + 1, o, h => by
    rw [List.range_succ_eq_map, List.map_cons, List.flatten_cons, List.map_map]
    have ih := parts_list (cs := cs) (sz := sz) m (o + sz) (by rw [Nat.add_mul] at h; omega)
    have e : ((List.range m).map ((fun i => (cs.drop (o + i * sz)).take sz) ∘ Nat.succ)) = (List.range m).map fun i => (cs.drop (o + sz + i * sz)).take sz := by
      apply List.map_congr_left
      intro i _
      simp only [Function.comp]
      rw [show o + (i + 1) * sz = o + sz + i * sz by rw [Nat.add_mul]; omega]
    rw [e, ih]
    simp only [Nat.zero_mul, Nat.add_zero]
    rw [← List.drop_drop, List.take_append_drop]

theorem trod_iv (hT : TOk P T) : ∀ (fuel n t : Nat) (cs : List Value) (x : DataW H × List MemPlace), cover T n t = true → DataW.trod enc P W 0 (fun _ => true) true fuel t cs = some x → ∃ xs, RL (Rd W) xs cs ∧ Ty T n t xs
  | 0, _, _, _, _, _, h => by simp [DataW.trod] at h
  | _ + 1, 0, _, _, _, hc, _ => by simp [cover] at hc
  | fuel + 1, n + 1, t, cs, x, hc, h => by
    unfold cover at hc
    split at hc
    · rename_i ht
      obtain ⟨inf, d, hf⟩ := hT t _ ht
      unfold DataW.trod at h
      rw [hf.bool rfl] at h
      split at h <;> first | (cases h; done) | skip
      all_goals (rename_i e1; first | (cases e1; done) | skip)
      exact ⟨_, .cons (.sc _) .nil, by simp only [Ty, ht]; exact ⟨_, rfl⟩⟩
    · rename_i k ht
      obtain ⟨inf, d, hf⟩ := hT t _ ht
      unfold DataW.trod at h
      rw [hf.int rfl] at h
      split at h <;> first | (cases h; done) | skip
      all_goals (rename_i e1; first | (cases e1; done) | skip)
      cases e1
      split at h
      · rename_i hk
        obtain ⟨rfl, hw⟩ := hk
        exact ⟨_, .cons (.sc _) .nil, by simp only [Ty, ht]; exact ⟨_, rfl, hw⟩⟩
      · cases h
    · rename_i ht
      obtain ⟨inf, d, hf⟩ := hT t _ ht
      unfold DataW.trod at h
      rw [hf.str rfl] at h
      split at h <;> first | (cases h; done) | skip
      all_goals (rename_i e1; first | (cases e1; done) | skip)
      rename_i s
      split at h
      · rename_i hs
        refine ⟨[.sc (.string s)], .cons (.sc _) .nil, ?_⟩
        simp only [Ty, ht]
        exact ⟨s.data.toList, rfl, by rw [← size_len]; exact hs⟩
      · cases h
    · rename_i e ht
      simp only [Bool.and_eq_true] at hc
      obtain ⟨⟨hc1, hc2⟩, hc3⟩ := hc
      have hsz : P.cellsOf e = szT T e := cellsOf_sz hT hc2
      have h0 : 0 < szT T e := Nat.blt_eq.mp hc3
      obtain ⟨inf, d, hf⟩ := hT t _ ht
      unfold DataW.trod at h
      rw [hf.slc rfl] at h
      split at h <;> first | (cases h; done) | skip
      all_goals (rename_i e1; first | (cases e1; done) | skip)
      · exact ⟨[.fz false [] 0], .cons .fznil .nil, by simp only [Ty, ht]; exact ⟨[], rfl, Nat.zero_le _, fun x hx => by cases hx⟩⟩
      · rename_i a len cap
        cases e1
        simp only at h
        split at h
        case isFalse => cases h
        rename_i hlc
        rw [hsz] at h
        cases hm : (List.range len).mapM fun i => (W.cells? 0 (a.add (i * szT T e)) (szT T e)).bind (DataW.trod enc P W 0 (fun _ => true) true fuel e) with
        | none => rw [hm] at h; cases h
        | some elems =>
        have hel := (mapM_some hm).2
        have each : ∀ i, i < len → ∃ p : List IV × List Value, RL (Rd W) p.1 p.2 ∧ Ty T n e p.1 ∧ W.cells? 0 (a.add (i * szT T e)) (szT T e) = some p.2 := fun i hi => by
          obtain ⟨b, hb⟩ := hel i i (by simp [hi])
          cases hcs : W.cells? 0 (a.add (i * szT T e)) (szT T e) with
          | none => rw [hcs] at hb; cases hb
          | some ci =>
            rw [hcs] at hb
            obtain ⟨xs, h1, h2⟩ := trod_iv hT fuel n e ci b hc1 hb
            exact ⟨(xs, ci), h1, h2, rfl⟩
        obtain ⟨ps, hl, hps⟩ := choose_list each
        have hty : Ty T (n + 1) t [.fz false (ps.map (·.1)).flatten (ps.map (·.1)).length] := by
          simp only [Ty, ht]
          refine ⟨ps.map (·.1), rfl, by simp; unfold maxLen at hlc; omega, fun x hx => ?_⟩
          obtain ⟨p, hp, rfl⟩ := List.mem_map.1 hx
          obtain ⟨i, hi⟩ := List.getElem?_of_mem hp
          exact (hps i p hi).2.1
        refine ⟨_, .cons ?_ .nil, hty⟩
        rcases Nat.eq_zero_or_pos len with hz | hz
        · subst hz
          have : ps = [] := List.length_eq_zero_iff.1 hl
          subst this
          exact .fz0
        · have hp0 : ps[0]? = some ps[0] := List.getElem?_eq_getElem (by omega)
          obtain ⟨k1, k2, k3⟩ := hps 0 _ hp0
          rw [Nat.zero_mul] at k3
          obtain ⟨k4, k5⟩ := cells?_spec k3
          have hsp : a.spot = none := by
            have hlt : 0 < ps[0].2.length := by omega
            have := k5 0 _ (List.getElem?_eq_getElem hlt)
            exact spot_none this
          obtain ⟨b, o, sp⟩ := a
          simp only at hsp
          subst hsp
          rw [List.length_map, hl]
          refine .fz (vs := (ps.map (·.2)).flatten) (fun e => by cases e) ?_ ?_ hlc.2.1
          · refine Rdl.flatten (sz := szT T e) fun i v hv => ?_
            rw [List.getElem?_map] at hv
            obtain ⟨p, hp, rfl⟩ := Option.map_eq_some_iff.1 hv
            obtain ⟨_, _, q3⟩ := hps i p hp
            obtain ⟨q4, q5⟩ := cells?_spec q3
            refine ⟨q4, fun r u hr => ?_⟩
            have := q5 r u hr
            rw [Addr.add_lit, Addr.add_lit] at this
            exact this
          · rw [Rd0]
            refine RL.flatten (by simp) fun i x v hx hv => ?_
            rw [List.getElem?_map] at hx hv
            obtain ⟨p, hp, rfl⟩ := Option.map_eq_some_iff.1 hx
            obtain ⟨p', hp', rfl⟩ := Option.map_eq_some_iff.1 hv
            rw [hp] at hp'; cases hp'
            exact (hps i p hp).1
    · rename_i sz by' zz m e ht
      simp only [Bool.and_eq_true] at hc
      obtain ⟨⟨hc1, hc2⟩, hc3⟩ := hc
      have hsz : P.cellsOf e = szT T e := cellsOf_sz hT hc2
      have hsz2 : sz = m * szT T e := Nat.eq_of_beq_eq_true hc3
      obtain ⟨inf, d, hf⟩ := hT t _ ht
      have hct : P.cellsOf t = sz := by simp [Program.cellsOf, hf.info, hf.size]
      unfold DataW.trod at h
      rw [hf.arr rfl] at h
      simp only [hct, hsz] at h
      split at h
      case isFalse => cases h
      rename_i hcl
      cases hm : (List.range m).mapM fun i => DataW.trod enc P W 0 (fun _ => true) true fuel e ((cs.drop (i * szT T e)).take (szT T e)) with
      | none => rw [hm] at h; cases h
      | some xs =>
      have hel := (mapM_some hm).2
      have each : ∀ i, i < m → ∃ p : List IV, RL (Rd W) p ((cs.drop (i * szT T e)).take (szT T e)) ∧ Ty T n e p := fun i hi => by
        obtain ⟨b, hb⟩ := hel i i (by simp [hi])
        exact trod_iv hT fuel n e _ b hc1 hb
      obtain ⟨ps, hl, hps⟩ := choose_list each
      refine ⟨ps.flatten, ?_, by simp only [Ty, ht]; exact ⟨ps, rfl, hl, fun x hx => by obtain ⟨i, hi⟩ := List.getElem?_of_mem hx; exact (hps i x hi).2⟩⟩
      have := parts_list (cs := cs) (sz := szT T e) m 0 (by omega)
      rw [List.drop_zero] at this
      rw [← this]
      refine RL.flatten (by simp [hl]) fun i x v hx hv => ?_
      rw [List.getElem?_map] at hv
      obtain ⟨j, hj, rfl⟩ := Option.map_eq_some_iff.1 hv
      have hij : j = i := by
        have := lt_of_get hj; simp at this
        simp [this] at hj; omega
      subst hij
      simpa using (hps j x hx).1
    · rename_i sz by' zz fs ht
      simp only [Bool.and_eq_true] at hc
      obtain ⟨hc1, hc2⟩ := hc
      obtain ⟨inf, d, hf⟩ := hT t _ ht
      have hct : P.cellsOf t = sz := by simp [Program.cellsOf, hf.info, hf.size]
      obtain ⟨fa, hu, hfs⟩ := hf.strct rfl
      unfold DataW.trod at h
      rw [hu] at h
      simp only [hct] at h
      split at h
      case isFalse => cases h
      rename_i hcl
      cases hm : fa.toList.mapM fun f => DataW.trod enc P W 0 (fun _ => true) true fuel f.type ((cs.drop f.offset).take (P.cellsOf f.type)) with
      | none => rw [hm] at h; cases h
      | some xs =>
      have hel := (mapM_some hm).2
      have key : ∀ (fl : List Field) (off : Nat), contig T off (fl.map fun f => (f.offset, f.type)) sz = true → (∀ f ∈ fl, cover T n f.type = true) →
          (∀ f ∈ fl, ∃ b, DataW.trod enc P W 0 (fun _ => true) true fuel f.type ((cs.drop f.offset).take (P.cellsOf f.type)) = some b) →
          ∃ ys, RL (Rd W) ys (cs.drop off) ∧ TyL (Ty T n) (fl.map fun f => (f.offset, f.type)) ys := by
        intro fl
        induction fl with
        | nil =>
          intro off h1 _ _
          have h1 : off = sz := Nat.eq_of_beq_eq_true h1
          exact ⟨[], by rw [List.drop_of_length_le (by omega)]; exact .nil, rfl⟩
        | cons f fl ih =>
          intro off h1 h2 h3
          simp only [List.map_cons, contig, Bool.and_eq_true] at h1
          obtain ⟨⟨h4, h5⟩, h6⟩ := h1
          have h4 : f.offset = off := Nat.eq_of_beq_eq_true h4
          obtain ⟨b, hb⟩ := h3 f (by simp)
          obtain ⟨xs, k1, k2⟩ := trod_iv hT fuel n f.type _ b (h2 f (by simp)) hb
          obtain ⟨ys, k3, k4⟩ := ih _ h6 (fun g hg => h2 g (by simp [hg])) (fun g hg => h3 g (by simp [hg]))
          refine ⟨xs ++ ys, ?_, xs, ys, rfl, k2, k4⟩
          rw [cellsOf_sz hT h5, h4] at k1
          rw [← List.take_append_drop (szT T f.type) (cs.drop off), List.drop_drop]
          exact RL.append k1 k3
      obtain ⟨ys, k1, k2⟩ := key fa.toList 0 (by rw [← hfs]; exact hc1) (fun f hf' => by
        have := List.all_eq_true.1 hc2 (f.offset, f.type) (by rw [hfs]; exact List.mem_map.2 ⟨f, hf', rfl⟩)
        exact this) (fun f hf' => by
        obtain ⟨i, hi⟩ := List.getElem?_of_mem hf'
        exact hel i f hi)
      rw [List.drop_zero] at k1
      exact ⟨ys, k1, by simp only [Ty, ht, hfs]; exact k2⟩
    · cases hc

def ArgTy (T : TT) (n t : Nat) (x : IV) : Prop :=
  match T.get t with
  | some ⟨_, _, _, .strct _⟩ | some ⟨_, _, _, .arr _ _⟩ => ∃ cs, x = .agg cs ∧ Ty T n t cs
  | _ => Ty T n t [x]
def ArgsTy (T : TT) (n : Nat) : List Nat → List IV → Prop
  | [], xs => xs = []
  | t :: ts, xs => ∃ x r, xs = x :: r ∧ ArgTy T n t x ∧ ArgsTy T n ts r

theorem ty_one {n t : Nat} {xs : List IV} {i : TI} (ht : T.get t = some i) (hk : (∀ fs, i.kind ≠ .strct fs) ∧ ∀ m e, i.kind ≠ .arr m e) (h : Ty T n t xs) : ∃ x, xs = [x] := by
  cases n with
  | zero => cases h
  | succ n =>
    obtain ⟨sz, by', zz, k⟩ := i
    simp only [Ty, ht] at h
    cases k with
    | bool => obtain ⟨b, rfl⟩ := h; exact ⟨_, rfl⟩
    | int k => obtain ⟨b, rfl, _⟩ := h; exact ⟨_, rfl⟩
    | str => obtain ⟨b, rfl, _⟩ := h; exact ⟨_, rfl⟩
    | slc e => obtain ⟨b, rfl, _⟩ := h; exact ⟨_, rfl⟩
    | arr m e => exact absurd rfl (hk.2 m e)
    | strct fs => exact absurd rfl (hk.1 fs)
    | _ => cases h

theorem arg_iv (hT : TOk P T) {n t : Nat} {v : Value} {d : DataW H} {ps : List MemPlace} (hc : cover T n t = true) (hok : Value.okWide P W .any 0 t v ∨ ∃ b, Value.okWide P W .any b t v)
    (h : DataW.Trod enc P W 0 (fun _ => true) true t v d ps) : ∃ x, R (Rd W) x v ∧ ArgTy T n t x := by
  obtain ⟨b, hok⟩ : ∃ b, Value.okWide P W .any b t v := hok.elim (fun h => ⟨0, h⟩) id
  obtain ⟨fuel, hf⟩ := h
  obtain ⟨xs, h1, h2⟩ := trod_iv hT fuel n t _ _ hc hf
  cases n with
  | zero => cases h2
  | succ n =>
  have hc' := hc
  unfold cover at hc'
  cases hti : T.get t with
  | none => rw [hti] at hc'; cases hc'
  | some i =>
    obtain ⟨inf, dd, hfa⟩ := hT t i hti
    unfold Value.okWide at hok
    rw [hfa.und] at hok
    obtain ⟨sz, by', zz, k⟩ := i
    have scalar : ((∀ fs, k ≠ .strct fs) ∧ ∀ m e, k ≠ .arr m e) → (∀ cs, v ≠ .agg cs) → ∃ x, R (Rd W) x v ∧ ArgTy T (n + 1) t x := by
      intro hk hv
      obtain ⟨x, rfl⟩ := ty_one hti hk h2
      have hcells : v.cells.toList = [v] := by cases v <;> first | rfl | exact absurd rfl (hv _)
      rw [hcells] at h1
      cases h1 with
      | cons h3 _ =>
      refine ⟨x, h3, ?_⟩
      unfold ArgTy
      rw [hti]
      cases k with
      | strct fs => exact absurd rfl (hk.1 fs)
      | arr m e => exact absurd rfl (hk.2 m e)
      | _ => exact h2
    cases k with
    | strct fs =>
      obtain ⟨fa, hu, _⟩ := hfa.strct rfl
      have : dd = .struct fa := by have := hfa.und; rw [hu] at this; exact (Option.some.inj this).symm
      subst this
      obtain ⟨cs, rfl, _⟩ := hok
      exact ⟨.agg xs, .agg h1, by unfold ArgTy; rw [hti]; exact ⟨xs, rfl, h2⟩⟩
    | arr m e =>
      have hu := hfa.arr rfl
      have : dd = .array m e := by have := hfa.und; rw [hu] at this; exact (Option.some.inj this).symm
      subst this
      obtain ⟨cs, rfl, _⟩ := hok
      exact ⟨.agg xs, .agg h1, by unfold ArgTy; rw [hti]; exact ⟨xs, rfl, h2⟩⟩
    | bool =>
      have hu := hfa.bool rfl
      have : dd = .bool := by have := hfa.und; rw [hu] at this; exact (Option.some.inj this).symm
      subst this
      refine scalar ⟨by simp, by simp⟩ fun cs hv => ?_
      subst hv
      simp [Cell.okWide, Cell.ok, hu] at hok
    | int k =>
      have hu := hfa.int rfl
      have : dd = .int k := by have := hfa.und; rw [hu] at this; exact (Option.some.inj this).symm
      subst this
      refine scalar ⟨by simp, by simp⟩ fun cs hv => ?_
      subst hv
      simp [Cell.okWide, Cell.ok, hu] at hok
    | str =>
      have hu := hfa.str rfl
      have : dd = .string := by have := hfa.und; rw [hu] at this; exact (Option.some.inj this).symm
      subst this
      refine scalar ⟨by simp, by simp⟩ fun cs hv => ?_
      subst hv
      simp [Cell.okWide, Cell.ok, hu] at hok
    | slc e =>
      have hu := hfa.slc rfl
      have : dd = .slice e := by have := hfa.und; rw [hu] at this; exact (Option.some.inj this).symm
      subst this
      refine scalar ⟨by simp, by simp⟩ fun cs hv => ?_
      subst hv
      simp [Cell.okWide, Cell.ok, hu] at hok
    | _ => rw [hti] at hc'; cases hc'

theorem args_iv (hT : TOk P T) {n : Nat} : ∀ {ts : List TypeId} {vs : List Value} {ds : List (DataW H)} {ps : List MemPlace}, ts.all (fun t => cover T n t) = true → (∀ (j : Nat) t v, ts[j]? = some t → vs[j]? = some v → ∃ b, Value.okWide P W .any b t v) →
    DataW.TrodAll enc P W 0 (fun _ => true) true ts vs ds ps → ∃ xs, RL (Rd W) xs vs ∧ ArgsTy T n ts xs ∧ ds.length = ts.length
  | [], [], [], _, _, _, _ => ⟨[], .nil, rfl, rfl⟩
  | t :: ts, v :: vs, d :: ds, ps, hc, hok, h => by
    obtain ⟨p, q, h1, h2, rfl⟩ := h
    simp only [List.all_cons, Bool.and_eq_true] at hc
    obtain ⟨x, k1, k2⟩ := arg_iv hT hc.1 (.inr (hok 0 t v rfl rfl)) h1
    obtain ⟨xs, k3, k4, k5⟩ := args_iv hT hc.2 (fun j t v a b => hok (j + 1) t v (by simpa using a) (by simpa using b)) h2
    exact ⟨x :: xs, .cons k1 k3, ⟨x, xs, rfl, k2, k4⟩, by simp [k5]⟩
  | [], _ :: _, _, _, _, _, h => by cases h
  | [], [], _ :: _, _, _, _, h => by cases h
  | _ :: _, [], _, _, _, _, h => by cases h
  | _ :: _, _ :: _, [], _, _, _, h => by cases h

theorem trodAll_below {W' : World} (hl : laidOutB P = true) (hb : Below W.heap.size W W') : ∀ {ts : List TypeId} {vs : List Value} {ds : List (DataW H)} {ps : List MemPlace}, (ts.all fun t => P.readableRec t && decide (t < P.types.size)) = true →
    DataW.TrodAll enc P W 0 (fun _ => true) true ts vs ds ps → (∀ x ∈ ps, x.block < W.heap.size) → DataW.TrodAll enc P W' 0 (fun b => decide (b < W.heap.size)) true ts vs ds ps
  | [], [], [], _, _, h, _ => h
  | t :: ts, v :: vs, d :: ds, ps, hc, h, hlt => by
    obtain ⟨p, q, h1, h2, rfl⟩ := h
    simp only [List.all_cons, Bool.and_eq_true, decide_eq_true_eq] at hc
    exact ⟨p, q, Below.trod hl hc.1.1 hc.1.2 h1 hb fun x hx => hlt x (by simp [hx]), trodAll_below hl hb hc.2 h2 fun x hx => hlt x (by simp [hx]), rfl⟩
  | [], _ :: _, _, _, _, h, _ => by cases h
  | [], [], _ :: _, _, _, h, _ => by cases h
  | _ :: _, [], _, _, _, h, _ => by cases h
  | _ :: _, _ :: _, [], _, _, h, _ => by cases h

theorem law_post {f : Func} {s : ChangeSpec} {W' : World} {args : Array Value} {ds gs : List (DataW H)} {before : List MemPlace} {bt : TypeId}
    (hW : DataW.Whole enc P f.params.toList s.vars false W args.toList ds gs before) (hv : s.vars = []) (hl : laidOutB P = true) (hts : (f.params.toList.all fun t => P.readableRec t && decide (t < P.types.size)) = true)
    (hr : f.resultTypes = #[bt]) (hbt : P.underlying bt = some .bool) (hs : s.fn H ds = { results := [.lit (.bool true)], args := ds }) (hb : Below W.heap.size W W') :
    s.post enc P f false true false false W args (.bool true) W' := by
  have hlt := fun p hp => hW.lt p hp
  have hW0 := hW
  obtain ⟨p, q, hA, hV, rfl, hz, hn⟩ := hW
  rw [hv] at hV
  have hq : gs = [] ∧ q = [] := by
    cases gs with
    | nil => exact ⟨rfl, hV⟩
    | cons _ _ => cases hV
  obtain ⟨rfl, rfl⟩ := hq
  have hs' : s.fn H (ds ++ []) = { results := [.lit (.bool true)], args := ds } := by rw [List.append_nil]; exact hs
  refine ⟨ds, [], p ++ [], [], p, [], hW0, ?_, ?_, ?_, ?_, fun h => by cases h⟩
  · rw [hs', hr]
    exact ⟨[], [], shut_bool hbt true, rfl, rfl⟩
  · rw [hs']
    exact trodAll_below hl hb hts hA fun x hx => hlt x (by simp [hx])
  · rw [hs', hv]; rfl
  · exact World.keptBut_mono (fun p' hp => ⟨hp, .inr (.inl (by simpa using hp))⟩) (hb.frame (· ∈ p ++ []))

theorem law_row {C : Checked} {os : Os} {f : FuncId} {fn : Func} {s : ChangeSpec} {conds : List PathCond} {bt : TypeId} {n : Nat}
    (hT : TOk C.prog T) (own : ownKnob C.prog.godebug = none) (started : os.Started) (noInit : C.prog.inits.idxOf? f = none) (hfn : C.prog.funcs[f]? = some fn)
    (hc : (fn.params.toList.all fun t => cover T n t) = true) (hl : laidOutB C.prog = true) (hts : (fn.params.toList.all fun t => C.prog.readableRec t && decide (t < C.prog.types.size)) = true)
    (hr : fn.resultTypes = #[bt]) (hbt : C.prog.underlying bt = some .bool) (hv : s.vars = [])
    (hs : ∀ ds : List (DataW H), ds.length = fn.params.toList.length → s.fn H ds = { results := [.lit (.bool true)], args := ds })
    (spec : ∀ xs, ArgsTy T n fn.params.toList xs → Spec C.prog f xs [] (Only (.sc (.bool true)) []))
    (witness : ∃ (w : World) (tape : Tape) (i : Input), w.os = os ∧ (w.forCall tape i).Shaped C.prog ∧ i.vars = [] ∧ Input.okWide C.prog (w.forCall tape i) .any w.heap.size f i ∧
      s.pre6 enc C.prog fn conds false (w.forCall tape i).memory i.args ∧ ({} : Assume).holds C.prog (lone (Frame.enter C.prog f i.args .normal) [] (w.forCall tape i))) :
    ReturnsInHanded {} C os f .any (s.pre6 enc C.prog fn conds false) (s.post enc C.prog fn false true false false) := by
  refine returnsInHanded_of_change own started noInit hfn witness ?_
  intro W base args ds gs before hval hW _ _
  have hW0 := hW
  obtain ⟨p, q, hA, _⟩ := hW
  obtain ⟨xs, h1, h2, h3⟩ := args_iv hT hc (fun j t v ht hv => ⟨base, hval j t v (by simpa using ht) (by simpa using hv)⟩) hA
  refine ((spec xs h2).below (vs := args.toList) h1).mono ?_
  rintro e W' ⟨rfl, hb⟩
  exact ⟨_, rfl, law_post hW0 hv hl hts hr hbt (hs ds h3) hb⟩
end

end Go.Idl
