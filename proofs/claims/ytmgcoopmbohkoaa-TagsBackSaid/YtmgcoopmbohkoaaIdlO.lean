/-
  Ideal states: equality of structs and arrays; one operation, whole.
-/
import Derived.Test.YtmgcoopmbohkoaaIdlN
import Derived.Laws.StructEq
import Derived.ChangeKeysEq
namespace Go.Idl
open Go

/-- What '==' on a struct, or an array, wants of the program. -/
structure EqOk (P : Program) (t : Nat) : Prop where
  held : P.stoodInHeld t = false
  guard : P.eqGuardType P.depth t = false
  names : ∀ fa, P.underlying t = some (.struct fa) → ∀ f ∈ fa.toList, f.name ≠ "_"

def eqOkB (P : Program) (t : Nat) : Bool :=
  !P.stoodInHeld t && !P.eqGuardType P.depth t && (match P.underlying t with | some (.struct fa) => fa.toList.all (fun f => decide (f.name ≠ "_")) | _ => true)

theorem EqOk.of {P : Program} {t : Nat} (h : eqOkB P t = true) : EqOk P t := by
  simp only [eqOkB, Bool.and_eq_true, Bool.not_eq_true'] at h
  refine ⟨h.1.1, h.1.2, fun fa hu f hf => ?_⟩
  have := h.2
  rw [hu] at this
  exact of_decide_eq_true (List.all_eq_true.1 this f hf)

def conj : List Bool → Bool
  | [] => true
  | [b] => b
  | b :: r => b && conj r

theorem conj_cons (b : Bool) (r : List Bool) : conj (b :: r) = (b && conj r) := by
  cases r <;> simp [conj]

def ipartB (T : TT) (t : Nat) (cs : List IV) (off : Nat) : Option IV :=
  match T.get t with
  | some i => if isAggK i.kind then (if Nat.ble (off + i.size) cs.length then some (.agg ((cs.drop off).take i.size)) else none) else cs[off]?
  | none => none

def allSome : List (Option (List Prop × Bool)) → Option (List Prop × List Bool)
  | [] => some ([], [])
  | some (p, b) :: r => match allSome r with | some (q, bs) => some (p ++ q, b :: bs) | none => none
  | none :: _ => none

def ieqV (P : Program) (T : TT) : Nat → Nat → IV → IV → Option (List Prop × Bool)
  | 0, _, _, _ => none
  | d + 1, t, x, y =>
    match T.get t, x, y with
    | some ⟨_, _, _, .strct fs⟩, .agg xs, .agg ys =>
      match allSome (fs.map fun f => match ipartB T f.2 xs f.1, ipartB T f.2 ys f.1 with | some a, some b => ieqV P T d f.2 a b | _, _ => none) with
      | some (p, bs) => some ((EqOk P t) :: p, conj bs)
      | none => none
    | some ⟨_, _, _, .arr (n + 1) e⟩, .agg xs, .agg ys =>
      match allSome ((List.range (n + 1)).map fun i => match ipartB T e xs (i * szT T e), ipartB T e ys (i * szT T e) with | some a, some b => ieqV P T d e a b | _, _ => none) with
      | some (p, bs) => some ((EqOk P t) :: p, conj bs)
      | none => none
    | some ⟨_, _, _, .int _⟩, .sc (.int k a), .sc (.int k' b) => if k = k' then some ([], a == b) else none
    | some ⟨_, _, _, .str⟩, .sc (.string a), .sc (.string b) => some ([], a.data.toList == b.data.toList)
    | some ⟨_, _, _, .bool⟩, .sc (.bool a), .sc (.bool b) => some ([], a == b)
    | _, _, _ => none

section
variable {P : Program} {T : TT} {F : Fix} {h : List HO} {w : World}

theorem ipartB_sound (hT : TOk P T) {t off : Nat} {cs : List IV} {us : List Value} {y : IV} (hl : RL F cs us) (e : ipartB T t cs off = some y) :
    ∃ u, (part t ⟨us⟩ off).run P w = .ok u w ∧ R F y u := by
  unfold ipartB at e
  split at e
  case h_2 => cases e
  rename_i i hi
  split at e
  · rename_i ha
    split at e
    case isFalse => cases e
    rename_i hb
    cases e
    exact part_sound hT hl (ps := [off + i.size ≤ cs.length]) (by simp [ipart, hi, ha]) ⟨Nat.le_of_ble_eq_true hb, trivial⟩
  · rename_i ha
    have hlt := lt_of_get e
    have hy : y = cs.getD off .any := by simp [List.getD, e]
    rw [hy]
    exact part_sound hT hl (ps := [off < cs.length]) (by simp [ipart, hi, ha]) ⟨hlt, trivial⟩

theorem fields_sound {d dd : Nat} {xs ys : List Value} {f : Nat × Nat → Option (List Prop × Bool)} : ∀ {fl : List Field} {p : List Prop} {bs : List Bool},
    (∀ g ∈ fl, g.name ≠ "_") → allSome ((fl.map fun g => (g.offset, g.type)).map f) = some (p, bs) → AllP p →
    (∀ g ∈ fl, ∀ q b, f (g.offset, g.type) = some (q, b) → AllP q → ∃ u v, (part g.type ⟨xs⟩ g.offset).run P w = .ok u w ∧ (part g.type ⟨ys⟩ g.offset).run P w = .ok v w ∧ (Op.equalIn (dd + d) g.type u v).run P w = .ok b w) →
    (Op.eqFields (dd + d) ⟨xs⟩ ⟨ys⟩ fl).run P w = .ok (conj bs) w
  | [], p, bs, _, e, _, _ => by simp [allSome] at e; rw [e.2]; rfl
  | g :: fl, p, bs, hn, e, hp, H => by
    simp only [List.map_cons] at e
    cases hf : f (g.offset, g.type) with
    | none => rw [hf] at e; simp [allSome] at e
    | some qb =>
      obtain ⟨q, b⟩ := qb
      rw [hf] at e
      unfold allSome at e
      cases hr : allSome ((fl.map fun g => (g.offset, g.type)).map f) with
      | none => rw [hr] at e; cases e
      | some r =>
        obtain ⟨q', bs'⟩ := r
        rw [hr] at e
        cases e
        obtain ⟨h1, h2⟩ := AllP.append hp
        obtain ⟨u, v, k1, k2, k3⟩ := H g (List.mem_cons_self ..) q b hf h1
        have ih := fields_sound (fun g' hg => hn g' (List.mem_cons_of_mem _ hg)) hr h2 (fun g' hg => H g' (List.mem_cons_of_mem _ hg))
        rw [conj_cons]
        simp only [Op.eqFields]
        rw [if_pos (hn g (List.mem_cons_self ..))]
        simp only [Sem.run_bind, k1, k2, k3, Result.andThen_ok]
        cases b
        · rfl
        · simpa using ih

theorem items_sound {d dd e sz : Nat} {xs ys : List Value} {f : Nat → Option (List Prop × Bool)} : ∀ {is : List Nat} {p : List Prop} {bs : List Bool},
    allSome (is.map f) = some (p, bs) → AllP p →
    (∀ i ∈ is, ∀ q b, f i = some (q, b) → AllP q → ∃ u v, (part e ⟨xs⟩ (i * sz)).run P w = .ok u w ∧ (part e ⟨ys⟩ (i * sz)).run P w = .ok v w ∧ (Op.equalIn (dd + d) e u v).run P w = .ok b w) →
    (Op.eqItems (dd + d) e sz ⟨xs⟩ ⟨ys⟩ is).run P w = .ok (conj bs) w
  | [], p, bs, e, _, _ => by simp [allSome] at e; rw [e.2]; rfl
  | g :: fl, p, bs, e, hp, H => by
    simp only [List.map_cons] at e
    cases hf : f g with
    | none => rw [hf] at e; simp [allSome] at e
    | some qb =>
      obtain ⟨q, b⟩ := qb
      rw [hf] at e
      unfold allSome at e
      cases hr : allSome (fl.map f) with
      | none => rw [hr] at e; cases e
      | some r =>
        obtain ⟨q', bs'⟩ := r
        rw [hr] at e
        cases e
        obtain ⟨h1, h2⟩ := AllP.append hp
        obtain ⟨u, v, k1, k2, k3⟩ := H g (List.mem_cons_self ..) q b hf h1
        have ih := items_sound hr h2 (fun g' hg => H g' (List.mem_cons_of_mem _ hg))
        rw [conj_cons]
        simp only [Op.eqItems, Sem.run_bind, k1, k2, k3, Result.andThen_ok]
        cases b
        · rfl
        · simpa using ih

theorem ieqV_sound (hT : TOk P T) : ∀ (d dd t : Nat) (x y : IV) (u v : Value) (p : List Prop) (b : Bool), R F x u → R F y v → ieqV P T d t x y = some (p, b) → AllP p → (Op.equalIn (dd + d) t u v).run P w = .ok b w
  | 0, _, _, _, _, _, _, _, _, _, _, e, _ => by cases e
  | d + 1, dd, t, x, y, u, v, p, b, hx, hy, e, hp => by
    unfold ieqV at e
    have sub : ∀ {ft off : Nat} {xs ys : List IV} {us vs : List Value} {q : List Prop} {b : Bool}, RL F xs us → RL F ys vs →
        (match ipartB T ft xs off, ipartB T ft ys off with | some a, some b => ieqV P T d ft a b | _, _ => none) = some (q, b) → AllP q →
        ∃ u v, (part ft ⟨us⟩ off).run P w = .ok u w ∧ (part ft ⟨vs⟩ off).run P w = .ok v w ∧ (Op.equalIn (dd + d) ft u v).run P w = .ok b w := by
      intro ft off xs ys us vs q b h1 h2 e hq
      split at e
      · rename_i a c ha hc
        obtain ⟨u, k1, k2⟩ := ipartB_sound (w := w) hT h1 ha
        obtain ⟨v, k3, k4⟩ := ipartB_sound (w := w) hT h2 hc
        exact ⟨u, v, k1, k3, ieqV_sound hT d dd ft a c u v q b k2 k4 e hq⟩
      · cases e
    split at e
    · rename_i sz by' zz fs xs ys ht
      obtain ⟨inf, dsc, hf⟩ := hT t _ ht
      obtain ⟨fa, hu, hfs⟩ := hf.strct rfl
      split at e
      case h_2 => cases e
      rename_i q bs hall
      cases e
      obtain ⟨heq, hq⟩ := hp
      cases hx with
      | agg h1 =>
      cases hy with
      | agg h2 =>
      rename_i us vs
      have hfo : P.fieldsOf t = fa := by simp [Program.fieldsOf, hu]
      rw [show dd + (d + 1) = (dd + d) + 1 from rfl, run_equalIn_struct w (dd + d) t _ _ (by rw [hfo]; exact hu) heq.held, hfo]
      rw [hfs] at hall
      exact fields_sound (heq.names fa hu) hall hq fun g _ q b hg hq => sub h1 h2 hg hq
    · rename_i sz by' zz n el xs ys ht
      obtain ⟨inf, dsc, hf⟩ := hT t _ ht
      have hu := hf.arr rfl
      split at e
      case h_2 => cases e
      rename_i q bs hall
      cases e
      obtain ⟨heq, hq⟩ := hp
      cases hx with
      | agg h1 =>
      cases hy with
      | agg h2 =>
      rename_i us vs
      have hel : ∃ i, T.get el = some i := by
        cases he : T.get el with
        | some i => exact ⟨i, rfl⟩
        | none =>
          exfalso
          have : (List.range (n + 1)) = 0 :: (List.range n).map (· + 1) := List.range_succ_eq_map
          rw [this] at hall
          simp [allSome, ipartB, he] at hall
      obtain ⟨ti, hti⟩ := hel
      obtain ⟨inf2, d2, hf2⟩ := hT el ti hti
      have hcs : P.cellsOf el = szT T el := by simp [Program.cellsOf, hf2.info, hf2.size, szT, hti]
      rw [show dd + (d + 1) = (dd + d) + 1 from rfl, run_equalIn_array w (dd + d) _ _ hu hf2.info, hcs]
      exact items_sound hall hq fun g _ q b hg hq => sub h1 h2 hg hq
    · rename_i q1 q2 q3 q4 k a k' b' ht
      obtain ⟨inf, dsc, hf⟩ := hT t _ ht
      split at e
      case isFalse => cases e
      rename_i hk
      subst hk
      cases e; cases hx; cases hy
      exact run_equalIn_int w _ t _ _ _ _ (hf.int rfl)
    · rename_i q1 q2 q3 a b' ht
      obtain ⟨inf, dsc, hf⟩ := hT t _ ht
      cases e; cases hx; cases hy
      rw [show dd + (d + 1) = (dd + d) + 1 from rfl, run_equalIn_string w _ t _ _ (hf.str rfl), ByteArray.toList_eq, ByteArray.toList_eq]
    · rename_i q1 q2 q3 a b' ht
      obtain ⟨inf, dsc, hf⟩ := hT t _ ht
      cases e; cases hx; cases hy
      exact run_equalIn_bool' w _ t _ _ (hf.bool rfl)
    · cases e

end
end Go.Idl
