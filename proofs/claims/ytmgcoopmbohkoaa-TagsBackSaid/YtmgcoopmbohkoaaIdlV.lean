/-
  Ideal states: a region that draws its order.
-/
import Derived.Test.YtmgcoopmbohkoaaIdlU
namespace Go.Idl
open Go

def waits (W : List (List Nat)) (i j : Nat) : Bool := (W.getD i []).any (Nat.beq j)

def edgesOf (o : Oper) : List Nat := o.after.toList.filterMap fun e => if Region.binds .any e then some e.on else none

def waitsOk (ops : List Oper) (W : List (List Nat)) : Bool :=
  (List.range ops.length).all fun i => match ops[i]? with
    | some o => (edgesOf o).all (fun e => Nat.blt e i) && (W.getD i []).all fun j => (edgesOf o).any fun e => Nat.beq e j || waits W e j
    | none => false

def slotsOf (ops : Array Oper) (o : Oper) : List Nat :=
  o.dst.toList ++ (o.op.operands.toList.filterMap (fun | .tmp t => some t | _ => none) ++ (match gslot ops o with | some (d, _) => [d] | none => []))

def slotsOk (ops : List Oper) (W : List (List Nat)) : Bool :=
  (List.range ops.length).all fun i => match ops[i]? with
    | some o => (slotsOf ops.toArray o).all fun t => (List.range ops.length).all fun j => match ops[j]? with
      | some q => Nat.beq i j || !(decide (q.dst = some t)) || (if j < i then waits W i j else waits W j i)
      | none => true
    | none => true

def poss (W : List (List Nat)) (hl : List Nat) (i q : Nat) : Bool :=
  ((List.range hl.length).all fun r => match hl[r]? with
    | some j => if r < q then !(Nat.beq j i) && !(waits W j i) else !(waits W i j)
    | none => true) && (if hl.any (Nat.beq i) then decide (hl[q]? = some i) else true)

def chainOk (W : List (List Nat)) : List Nat → Bool
  | [] => true
  | i :: r => r.all (fun j => waits W j i && !(Nat.beq i j)) && chainOk W r

def drawOk (ops : List Oper) (W : List (List Nat)) (hl : List Nat) (nt : Nat) (obls : List (Nat × Nat)) : Bool :=
  waitsOk ops W && slotsOk ops W && chainOk W hl && hl.all (fun i => Nat.blt i ops.length) &&
    ((List.range ops.length).all fun i => (List.range (hl.length + 1)).all fun q => !(poss W hl i q) || obls.contains (i, q)) &&
    ops.all fun o => match o.dst with | some d => Nat.blt d nt | none => true

def envOf (ops : List Oper) (vs : List IV) (listed : Nat → Bool) (env : List (Nat × IV)) : Nat → List (Nat × IV)
  | 0 => env
  | n + 1 =>
    if listed n then
      match (ops[n]?).bind (·.dst) with
      | some d => (d, vs.getD n .any) :: envOf ops vs listed env n
      | none => envOf ops vs listed env n
    else envOf ops vs listed env n

def restr (env : List (Nat × IV)) : List Nat → List (Nat × IV)
  | [] => []
  | t :: r => (t, lk env t) :: restr env r

theorem restr_lk (env : List (Nat × IV)) : ∀ (l : List Nat) (t : Nat), (t ∈ l ∧ lk (restr env l) t = lk env t) ∨ lk (restr env l) t = .any
  | [], _ => .inr rfl
  | x :: l, t => by
    show (_ ∧ lk ((x, lk env x) :: restr env l) t = _) ∨ lk ((x, lk env x) :: restr env l) t = _
    rw [lk_cons]
    by_cases e : x = t
    · subst e; rw [if_pos rfl]; exact .inl ⟨List.mem_cons_self .., rfl⟩
    · rw [if_neg e]
      rcases restr_lk env l t with ⟨h1, h2⟩ | h
      · exact .inl ⟨List.mem_cons_of_mem _ h1, h2⟩
      · exact .inr h

def Obl (P : Program) (ops : List Oper) (vs : List IV) (Hs : List (List HO)) (hl : List Nat) (s : St) (i q : Nat) : Prop :=
  match ops[i]? with
  | some o => OpG P ops.toArray o ⟨s.nt, restr (envOf ops vs (fun _ => true) s.env i) (slotsOf ops.toArray o), Hs.getD q []⟩ (vs.getD i .any) (if hl.any (Nat.beq i) then Hs.getD (q + 1) [] else Hs.getD q [])
  | none => True

@[reducible] def Obls (P : Program) (ops : List Oper) (vs : List IV) (Hs : List (List HO)) (hl : List Nat) (s : St) : List (Nat × Nat) → Prop
  | [] => True
  | (i, q) :: r => Obl P ops vs Hs hl s i q ∧ Obls P ops vs Hs hl s r

theorem Obls.get {P : Program} {ops : List Oper} {vs : List IV} {Hs : List (List HO)} {hl : List Nat} {s : St} : ∀ {l : List (Nat × Nat)}, Obls P ops vs Hs hl s l → ∀ i q, (i, q) ∈ l → Obl P ops vs Hs hl s i q
  | [], _, _, _, h => by cases h
  | (a, b) :: r, h, i, q, hm => by
    rcases List.mem_cons.1 hm with e | e
    · cases e; exact h.1
    · exact Obls.get h.2 i q e

section
variable {ops : List Oper} {W : List (List Nat)} {vs : List IV}

theorem waitsOk_spec (h : waitsOk ops W = true) {i : Nat} {o : Oper} (ho : ops[i]? = some o) :
    (∀ e ∈ edgesOf o, e < i) ∧ ∀ j, waits W i j = true → ∃ e ∈ edgesOf o, e = j ∨ waits W e j = true := by
  have := List.all_eq_true.1 h i (List.mem_range.2 (lt_of_get ho))
  simp only [ho, Bool.and_eq_true] at this
  refine ⟨fun e he => Nat.blt_eq.mp (List.all_eq_true.1 this.1 e he), fun j hj => ?_⟩
  obtain ⟨j', h1, h2⟩ := List.any_eq_true.1 hj
  have := Nat.eq_of_beq_eq_true h2
  subst this
  obtain ⟨e, h3, h4⟩ := List.any_eq_true.1 (List.all_eq_true.1 ‹_ ∧ _›.2 j h1)
  refine ⟨e, h3, ?_⟩
  simp only [Bool.or_eq_true] at h4
  rcases h4 with h4 | h4
  · exact .inl (Nat.eq_of_beq_eq_true h4)
  · exact .inr h4

theorem waits_listed (h : waitsOk ops W = true) {L : Nat → Bool} (hc : ∀ i o, ops[i]? = some o → L i = true → ∀ e ∈ edgesOf o, L e = true) :
    ∀ (i j : Nat) (o : Oper), ops[i]? = some o → (∀ e ∈ edgesOf o, L e = true) → waits W i j = true → L j = true := by
  intro i
  induction i using Nat.strongRecOn with
  | _ i ih =>
    intro j o ho hr hw
    obtain ⟨h1, h2⟩ := waitsOk_spec h ho
    obtain ⟨e, he, h3⟩ := h2 j hw
    rcases h3 with rfl | h3
    · exact hr _ he
    · have hlt := h1 e he
      have hle : e < ops.length := by have := lt_of_get ho; omega
      exact ih e hlt j _ (List.getElem?_eq_getElem hle) (hc e _ (List.getElem?_eq_getElem hle) (hr e he)) h3

theorem slotsOk_spec (h : slotsOk ops W = true) {i j t : Nat} {o q : Oper} (ho : ops[i]? = some o) (hq : ops[j]? = some q) (ht : t ∈ slotsOf ops.toArray o) (hd : q.dst = some t) (hne : i ≠ j) :
    (j < i → waits W i j = true) ∧ (i < j → waits W j i = true) := by
  have h1 := List.all_eq_true.1 h i (List.mem_range.2 (lt_of_get ho))
  simp only [ho] at h1
  have h2 := List.all_eq_true.1 (List.all_eq_true.1 h1 t ht) j (List.mem_range.2 (lt_of_get hq))
  simp only [hq, hd, decide_true, Bool.not_true, Bool.or_false, Bool.or_eq_true] at h2
  rcases h2 with h2 | h2
  · exact absurd (Nat.eq_of_beq_eq_true h2) hne
  · refine ⟨fun hlt => by rwa [if_pos hlt] at h2, fun hlt => by rwa [if_neg (by omega)] at h2⟩

theorem envOf_lk {L : Nat → Bool} {env : List (Nat × IV)} {t : Nat} : ∀ n,
    (∃ j q, j < n ∧ L j = true ∧ ops[j]? = some q ∧ q.dst = some t ∧ lk (envOf ops vs L env n) t = vs.getD j .any ∧ ∀ m p, j < m → m < n → L m = true → ops[m]? = some p → p.dst ≠ some t) ∨
    (lk (envOf ops vs L env n) t = lk env t ∧ ∀ m p, m < n → L m = true → ops[m]? = some p → p.dst ≠ some t)
  | 0 => .inr ⟨rfl, fun m p hm => by omega⟩
  | n + 1 => by
    have ih := envOf_lk (L := L) (env := env) (t := t) n
    have same : envOf ops vs L env (n + 1) = envOf ops vs L env n → (∀ p, L n = true → ops[n]? = some p → p.dst ≠ some t) →
        ((∃ j q, j < n + 1 ∧ L j = true ∧ ops[j]? = some q ∧ q.dst = some t ∧ lk (envOf ops vs L env (n + 1)) t = vs.getD j .any ∧ ∀ m p, j < m → m < n + 1 → L m = true → ops[m]? = some p → p.dst ≠ some t) ∨
        (lk (envOf ops vs L env (n + 1)) t = lk env t ∧ ∀ m p, m < n + 1 → L m = true → ops[m]? = some p → p.dst ≠ some t)) := fun e hno => by
      rcases ih with ⟨j, q, a, b, c, d, e', f⟩ | ⟨a, b⟩
      · exact .inl ⟨j, q, by omega, b, c, d, by rw [e]; exact e', fun m p h1 h2 h3 h4 => by
          by_cases hm : m = n
          · subst hm; exact hno p h3 h4
          · exact f m p h1 (by omega) h3 h4⟩
      · exact .inr ⟨by rw [e]; exact a, fun m p h2 h3 h4 => by
          by_cases hm : m = n
          · subst hm; exact hno p h3 h4
          · exact b m p (by omega) h3 h4⟩
    cases hL : L n with
    | false => exact same (by simp [envOf, hL]) fun p h => by rw [hL] at h; cases h
    | true =>
      cases ho : ops[n]? with
      | none => exact same (by simp [envOf, hL, ho]) fun p _ h => by rw [ho] at h; cases h
      | some o =>
        cases hd : o.dst with
        | none => exact same (by simp [envOf, hL, ho, hd]) fun p _ h => by rw [ho] at h; cases h; rw [hd]; simp
        | some d =>
          by_cases hdt : d = t
          · subst hdt
            left
            refine ⟨n, o, by omega, hL, ho, hd, ?_, fun m p h1 h2 => by omega⟩
            have : envOf ops vs L env (n + 1) = (d, vs.getD n .any) :: envOf ops vs L env n := by simp [envOf, hL, ho, hd]
            rw [this, lk_cons, if_pos rfl]
          · have e : envOf ops vs L env (n + 1) = (d, vs.getD n .any) :: envOf ops vs L env n := by simp [envOf, hL, ho, hd]
            have e2 : lk (envOf ops vs L env (n + 1)) t = lk (envOf ops vs L env n) t := by rw [e, lk_cons, if_neg hdt]
            have hno : ∀ p, ops[n]? = some p → p.dst ≠ some t := fun p h => by rw [ho] at h; cases h; rw [hd]; simpa using hdt
            rcases ih with ⟨j, q, a, b, c, d', e', f⟩ | ⟨a, b⟩
            · exact .inl ⟨j, q, by omega, b, c, d', by rw [e2]; exact e', fun m p h1 h2 h3 h4 => by
                by_cases hm : m = n
                · subst hm; exact hno p h4
                · exact f m p h1 (by omega) h3 h4⟩
            · exact .inr ⟨by rw [e2]; exact a, fun m p h2 h3 h4 => by
                by_cases hm : m = n
                · subst hm; exact hno p h4
                · exact b m p (by omega) h3 h4⟩

theorem envOf_same {L M : Nat → Bool} {env : List (Nat × IV)} {t a b : Nat} (h : ∀ j q, ops[j]? = some q → q.dst = some t → ((j < a ∧ L j = true) ↔ (j < b ∧ M j = true))) :
    lk (envOf ops vs L env a) t = lk (envOf ops vs M env b) t := by
  rcases envOf_lk (vs := vs) (L := L) (env := env) (t := t) a with ⟨j, q, h1, h2, h3, h4, h5, h6⟩ | ⟨h1, h2⟩ <;> rcases envOf_lk (vs := vs) (L := M) (env := env) (t := t) b with ⟨j', q', k1, k2, k3, k4, k5, k6⟩ | ⟨k1, k2⟩
  · have p1 := (h j q h3 h4).1 ⟨h1, h2⟩
    have p2 := (h j' q' k3 k4).2 ⟨k1, k2⟩
    have : j = j' := by
      rcases Nat.lt_trichotomy j j' with e | e | e
      · exact absurd k4 (h6 j' q' e p2.1 p2.2 k3)
      · exact e
      · exact absurd h4 (k6 j q e p1.1 p1.2 h3)
    subst this
    rw [h5, k5]
  · have p1 := (h j q h3 h4).1 ⟨h1, h2⟩
    exact absurd h4 (k2 j q p1.1 p1.2 h3)
  · have p2 := (h j' q' k3 k4).2 ⟨k1, k2⟩
    exact absurd k4 (h2 j' q' p2.1 p2.2 k3)
  · rw [h1, k1]


theorem chain_waits : ∀ {hl : List Nat}, chainOk W hl = true → ∀ {r r' i j : Nat}, hl[r]? = some i → hl[r']? = some j → r < r' → waits W j i = true ∧ i ≠ j
  | [], _, _, _, _, _, h, _, _ => by simp at h
  | x :: l, h, r, r', i, j, h1, h2, hlt => by
    simp only [chainOk, Bool.and_eq_true] at h
    cases r with
    | zero =>
      cases r' with
      | zero => omega
      | succ r' =>
        simp only [List.getElem?_cons_zero, Option.some.injEq] at h1
        subst h1
        simp only [List.getElem?_cons_succ] at h2
        have := List.all_eq_true.1 h.1 j (List.mem_of_getElem? h2)
        simp only [Bool.and_eq_true, Bool.not_eq_true'] at this
        refine ⟨this.1, fun e => ?_⟩
        subst e
        have h3 := this.2
        simp at h3
    | succ r =>
      cases r' with
      | zero => omega
      | succ r' =>
        simp only [List.getElem?_cons_succ] at h1 h2
        exact chain_waits h.2 h1 h2 (by omega)

/-- What holds while a drawn region runs. -/
structure Draw (ops : List Oper) (vs : List IV) (hl : List Nat) (Hs : List (List HO)) (s : St) (cx : Cx) (k q : Nat) (listed : Array Bool) (a : Act) (w : World) : Prop where
  size : listed.size = ops.length
  closed : ∀ i o, ops[i]? = some o → listed.getD i false = true → ∀ e ∈ edgesOf o, listed.getD e false = true
  heavy : ∀ r j, hl[r]? = some j → (listed.getD j false = true ↔ r < q)
  le : q ≤ hl.length
  sim : Sim cx k ⟨s.nt, envOf ops vs (fun j => listed.getD j false) s.env ops.length, Hs.getD q []⟩ a w

theorem getD_set (listed : Array Bool) (i j : Nat) (hi : i < listed.size) : (listed.setIfInBounds i true).getD j false = (Nat.beq i j || listed.getD j false) := by
  by_cases h : i = j
  · subst h; simp [hi]
  · have : Nat.beq i j = false := by
      cases hb : Nat.beq i j with
      | true => exact absurd (Nat.eq_of_beq_eq_true hb) h
      | false => rfl
    rw [this, getD_set_ne false h]; rfl

variable {P : Program} {hl : List Nat} {Hs : List (List HO)} {s : St} {obls : List (Nat × Nat)}

theorem draw_step (hok : drawOk ops W hl s.nt obls = true) (hob : Obls P ops vs Hs hl s obls) {cx : Cx} {k q : Nat} {listed : Array Bool} {a : Act} {w : World} (hd : Draw ops vs hl Hs s cx k q listed a w)
    {i : Nat} (hi : i ∈ Region.ready .any ops.toArray listed) {K : Act → World → Prop} {Q : Exit → Act → World → Prop}
    (hK : ∀ q' a' w', Draw ops vs hl Hs s cx k q' (listed.setIfInBounds i true) a' w' → K a' w') : wpOp P ops.toArray Q i K a w := by
  simp only [drawOk, Bool.and_eq_true] at hok
  obtain ⟨⟨⟨⟨⟨hW, hS⟩, hC⟩, hH⟩, hO⟩, hD⟩ := hok
  obtain ⟨hun0, o, ho, hready⟩ := mem_ready.1 hi
  have ho' : ops[i]? = some o := by simpa using ho
  have hin : i < ops.length := lt_of_get ho'
  have hsz : i < listed.size := by rw [hd.size]; exact hin
  have hun : listed.getD i false = false := by simpa [hsz] using hun0
  have hedges : ∀ e ∈ edgesOf o, listed.getD e false = true := fun e he => by
    obtain ⟨ed, h1, h2⟩ := List.mem_filterMap.1 he
    split at h2
    · rename_i hb; cases h2; exact hready ed (Array.mem_toList_iff.1 h1) hb
    · cases h2
  have hwi : ∀ j, waits W i j = true → listed.getD j false = true := fun j hj => waits_listed (L := fun j => listed.getD j false) hW hd.closed i j o ho' hedges hj
  have hwl : ∀ m p, ops[m]? = some p → listed.getD m false = true → waits W m i = true → False := fun m p hp hm hw => by
    have := waits_listed (L := fun j => listed.getD j false) hW hd.closed m i p hp (hd.closed m p hp hm) hw
    rw [hun] at this; cases this
  have hheavy : hl.any (Nat.beq i) = true → hl[q]? = some i := fun h => by
    obtain ⟨x, h1, h2⟩ := List.any_eq_true.1 h
    have := Nat.eq_of_beq_eq_true h2
    subst this
    obtain ⟨r, hr⟩ := List.getElem?_of_mem h1
    have hge : ¬ r < q := fun hlt => by have := (hd.heavy r i hr).2 hlt; rw [hun] at this; cases this
    by_cases hrq : r = q
    · rw [← hrq]; exact hr
    · have hlt : q < r := by omega
      have hrl : r < hl.length := lt_of_get hr
      have hq : hl[q]? = some hl[q] := List.getElem?_eq_getElem (by omega)
      have := (hd.heavy q _ hq).1 (hwi _ (chain_waits hC hq hr hlt).1)
      omega
  have hposs : poss W hl i q = true := by
    unfold poss
    rw [Bool.and_eq_true]
    constructor
    · refine List.all_eq_true.2 fun r hr => ?_
      have hrl := List.mem_range.1 hr
      have hg : hl[r]? = some hl[r] := List.getElem?_eq_getElem hrl
      rw [hg]
      simp only []
      by_cases hrq : r < q
      · rw [if_pos hrq]
        have hL := (hd.heavy r _ hg).2 hrq
        have hjn := Nat.blt_eq.mp (List.all_eq_true.1 hH _ (List.getElem_mem hrl))
        have h1 : Nat.beq hl[r] i = false := by
          cases hb : Nat.beq hl[r] i with
          | true => have := Nat.eq_of_beq_eq_true hb; rw [this, hun] at hL; cases hL
          | false => rfl
        have h2 : waits W hl[r] i = false := by
          cases hb : waits W hl[r] i with
          | true => exact (hwl _ _ (List.getElem?_eq_getElem hjn) hL hb).elim
          | false => rfl
        rw [h1, h2]; rfl
      · rw [if_neg hrq]
        have h2 : waits W i hl[r] = false := by
          cases hb : waits W i hl[r] with
          | true => exact absurd ((hd.heavy r _ hg).1 (hwi _ hb)) hrq
          | false => rfl
        rw [h2]; rfl
    · split
      · rename_i h; simpa using hheavy h
      · rfl
  have hq1 : q < hl.length + 1 := by have := hd.le; omega
  have hmem : (i, q) ∈ obls := by
    have := List.all_eq_true.1 (List.all_eq_true.1 hO i (List.mem_range.2 hin)) q (List.mem_range.2 hq1)
    rw [hposs] at this
    simpa using this
  have hobl := hob.get i q hmem
  simp only [Obl, ho'] at hobl
  obtain ⟨F, hF⟩ := hd.sim
  have henv : ∀ t, R F (lk (restr (envOf ops vs (fun _ => true) s.env i) (slotsOf ops.toArray o)) t) (a.tmps.getD t undef) := fun t => by
    rcases restr_lk (envOf ops vs (fun _ => true) s.env i) (slotsOf ops.toArray o) t with ⟨h1, h2⟩ | h
    · rw [h2, envOf_same (M := fun j => listed.getD j false) (b := ops.length) fun j p hp hdst => ?_]
      · exact hF.env t
      · have hjl : j < ops.length := lt_of_get hp
        by_cases hij : i = j
        · subst hij
          constructor
          · rintro ⟨h, _⟩; omega
          · rintro ⟨_, h⟩; rw [hun] at h; cases h
        · have hso := slotsOk_spec hS ho' hp h1 hdst hij
          constructor
          · rintro ⟨h, _⟩; exact ⟨hjl, hwi j (hso.1 h)⟩
          · rintro ⟨_, h⟩
            refine ⟨?_, rfl⟩
            rcases Nat.lt_trichotomy j i with h' | h' | h'
            · exact h'
            · exact absurd h'.symm hij
            · exact (hwl j p hp h (hso.2 h')).elim
    · rw [h]; exact .any _
  have key : ∀ q' v G w', (∀ r j, hl[r]? = some j → ((listed.setIfInBounds i true).getD j false = true ↔ r < q')) → q' ≤ hl.length → HStep F G (Hs.getD q []) (Hs.getD q' []) w w' → R G (vs.getD i .any) v → K (a.put o.dst v) w' := by
    intro q' v G w' hh hle h1 h2
    refine hK q' _ _ ⟨by simpa using hd.size, fun m p hp hm e he => ?_, hh, hle, ⟨G, ?_⟩⟩
    · rw [getD_set _ _ _ hsz]
      rw [getD_set _ _ _ hsz, Bool.or_eq_true] at hm
      rw [Bool.or_eq_true]
      right
      rcases hm with hm | hm
      · have := Nat.eq_of_beq_eq_true hm
        subst this
        rw [ho'] at hp; cases hp
        exact hedges e he
      · exact hd.closed m p hp hm e he
    · have hother : ∀ t, o.dst ≠ some t → lk (envOf ops vs (fun j => (listed.setIfInBounds i true).getD j false) s.env ops.length) t = lk (envOf ops vs (fun j => listed.getD j false) s.env ops.length) t := fun t ht =>
        envOf_same fun j p hp hdst => by
          have hij : i ≠ j := by rintro rfl; rw [ho'] at hp; cases hp; exact ht hdst
          show (_ ∧ (listed.setIfInBounds i true).getD j false = true) ↔ _
          rw [getD_set_ne false hij]
      have hz : a.tmps.size = s.nt := hF.size
      have hm : ∀ t, R G (lk (envOf ops vs (fun j => listed.getD j false) s.env ops.length) t) (a.tmps.getD t undef) := fun t => (hF.env t).mono h1.ext.weak
      refine ⟨?_, ?_, hF.step.trans h1, fun t => ?_, hF.base, hF.names, hF.n0⟩
      · cases hdst : o.dst with
        | none => exact hF.defers
        | some d => exact hF.defers
      · cases hdst : o.dst with
        | none => exact hz
        | some d => simpa [Act.put, hdst] using hz
      · cases hdst : o.dst with
        | none =>
          show R G (lk (envOf ops vs (fun j => (listed.setIfInBounds i true).getD j false) s.env ops.length) t) (a.tmps.getD t undef)
          rw [hother t (by rw [hdst]; simp)]
          exact hm t
        | some d =>
          show R G (lk (envOf ops vs (fun j => (listed.setIfInBounds i true).getD j false) s.env ops.length) t) ((a.tmps.setIfInBounds d v).getD t undef)
          by_cases hdt : d = t
          · subst hdt
            have hdl : d < a.tmps.size := by
              have := List.all_eq_true.1 hD o (List.mem_of_getElem? ho')
              rw [hdst] at this
              rw [hz]; exact Nat.blt_eq.mp this
            have hLi : (listed.setIfInBounds i true).getD i false = true := by rw [getD_set _ _ _ hsz]; simp
            have hv : lk (envOf ops vs (fun j => (listed.setIfInBounds i true).getD j false) s.env ops.length) d = vs.getD i .any := by
              rcases envOf_lk (ops := ops) (vs := vs) (L := fun j => (listed.setIfInBounds i true).getD j false) (env := s.env) (t := d) ops.length with ⟨j, p, b1, b2, b3, b4, b5, b6⟩ | ⟨_, b2⟩
              · by_cases hij : i = j
                · subst hij; exact b5
                · have hlj : listed.getD j false = true := by rw [← getD_set_ne false hij]; exact b2
                  have hds : d ∈ slotsOf ops.toArray o := by simp [slotsOf, hdst]
                  rcases Nat.lt_trichotomy j i with h' | h' | h'
                  · exact absurd hdst (b6 i o h' hin hLi ho')
                  · exact absurd h'.symm hij
                  · exact (hwl j p b3 hlj ((slotsOk_spec hS ho' b3 hds b4 hij).2 h')).elim
              · exact absurd hdst (b2 i o hin hLi ho')
            rw [hv]
            simpa [hdl] using h2
          · rw [hother t (by rw [hdst]; simpa using hdt)]
            have := hm t
            simpa [Array.getElem?_setIfInBounds_ne hdt] using this
  unfold wpOp
  rw [ho]
  simp only []
  have hfin := hobl a w F hF.hbase hF.step.hin henv hF.size K Q fun v G w' h1 h2 => by
    by_cases hh : hl.any (Nat.beq i) = true
    · rw [if_pos hh] at h1
      have hqi := hheavy hh
      have hql : q < hl.length := lt_of_get hqi
      refine key (q + 1) v G w' (fun r j hr => ?_) (by omega) h1 h2
      rw [getD_set _ _ _ hsz, Bool.or_eq_true, hd.heavy r j hr]
      constructor
      · rintro (h | h)
        · have := Nat.eq_of_beq_eq_true h
          subst this
          rcases Nat.lt_trichotomy r q with h' | h' | h'
          · omega
          · omega
          · exact absurd rfl (chain_waits hC hqi hr h').2
        · omega
      · intro h
        by_cases hrq : r = q
        · subst hrq; rw [hqi] at hr; cases hr; exact .inl (by simp)
        · exact .inr (by omega)
    · rw [if_neg hh] at h1
      refine key q v G w' (fun r j hr => ?_) hd.le h1 h2
      have hij : i ≠ j := by
        rintro rfl
        exact hh (List.any_eq_true.2 ⟨i, List.mem_of_getElem? hr, by simp⟩)
      rw [getD_set_ne false hij]
      exact hd.heavy r j hr
  by_cases hw : Region.wanted o (yielded ops.toArray a.tmps) = true
  · rw [if_pos hw] at hfin ⊢; exact .inl hfin
  · rw [if_neg hw] at hfin ⊢; exact hfin

theorem draw_done (hok : drawOk ops W hl s.nt obls = true) {cx : Cx} {k q : Nat} {listed : Array Bool} {a : Act} {w : World} (hd : Draw ops vs hl Hs s cx k q listed a w)
    (hr : Region.ready .any ops.toArray listed = []) : Sim cx k ⟨s.nt, envOf ops vs (fun _ => true) s.env ops.length, Hs.getD hl.length []⟩ a w := by
  simp only [drawOk, Bool.and_eq_true] at hok
  obtain ⟨⟨⟨⟨⟨hW, hS⟩, hC⟩, hH⟩, hO⟩, hD⟩ := hok
  have hall : ∀ i, i < ops.length → listed.getD i false = true := by
    intro i
    induction i using Nat.strongRecOn with
    | _ i ih =>
      intro hi
      cases hb : listed.getD i false with
      | true => rfl
      | false =>
        have hg : ops[i]? = some ops[i] := List.getElem?_eq_getElem hi
        have : i ∈ Region.ready .any ops.toArray listed := mem_ready.2 ⟨by
          have : i < listed.size := by rw [hd.size]; exact hi
          simpa [this] using hb, ops[i], by simp, fun e he hb => by
            have hlt := (waitsOk_spec hW hg).1 e.on (List.mem_filterMap.2 ⟨e, Array.mem_toList_iff.2 he, by rw [if_pos hb]⟩)
            exact ih _ hlt (by omega)⟩
        rw [hr] at this; cases this
  have hq : q = hl.length := by
    have := hd.le
    rcases Nat.lt_or_ge q hl.length with h | h
    · have hg : hl[q]? = some hl[q] := List.getElem?_eq_getElem h
      have := (hd.heavy q _ hg).1 (hall _ (Nat.blt_eq.mp (List.all_eq_true.1 hH _ (List.getElem_mem h))))
      omega
    · omega
  subst hq
  obtain ⟨F, hF⟩ := hd.sim
  refine ⟨F, hF.defers, hF.size, hF.step, fun t => ?_, hF.base, hF.names, hF.n0⟩
  rw [envOf_same (M := fun j => listed.getD j false) (b := ops.length) fun j p hp _ => ⟨fun h => ⟨h.1, hall j h.1⟩, fun h => ⟨h.1, rfl⟩⟩]
  exact hF.env t

theorem draw_run (hok : drawOk ops W hl s.nt obls = true) (hob : Obls P ops vs Hs hl s obls) {cx : Cx} {k : Nat} {Q : Exit → Act → World → Prop}
    (hQ : ∀ a w, Sim cx k ⟨s.nt, envOf ops vs (fun _ => true) s.env ops.length, Hs.getD hl.length []⟩ a w → Q .normal a w) :
    ∀ fuel q listed a w, listed.toList.count false ≤ fuel → Draw ops vs hl Hs s cx k q listed a w → wpAny P .any ops.toArray Q fuel listed a w
  | 0, q, listed, a, w, hc, hd => by
    have hr : Region.ready .any ops.toArray listed = [] := List.eq_nil_iff_forall_not_mem.2 fun i hi => by
      obtain ⟨hun, o, ho, _⟩ := mem_ready.1 hi
      have hin : i < listed.size := by rw [hd.size]; exact lt_of_get (by simpa using ho)
      have : false ∈ listed.toList := by
        have h2 : listed[i] = false := by simpa [hin] using hun
        rw [← h2]; simp
      have := List.count_pos_iff.2 this
      omega
    exact ⟨hr, hQ a w (draw_done hok hd hr)⟩
  | fuel + 1, q, listed, a, w, hc, hd => by
    refine ⟨fun hr => hQ a w (draw_done hok hd hr), fun i hi => draw_step hok hob hd hi fun q' a' w' hd' => draw_run hok hob hQ fuel q' _ a' w' ?_ hd'⟩
    obtain ⟨hun, o, ho, _⟩ := mem_ready.1 hi
    have hin : i < listed.size := by rw [hd.size]; exact lt_of_get (by simpa using ho)
    have h2 : listed[i] = false := by simpa [hin] using hun
    have : (listed.setIfInBounds i true).toList = listed.toList.set i true := by simp
    rw [this, List.count_set (by simpa using hin)]
    have hg : listed.toList[i]'(by simpa using hin) = false := by simpa using h2
    rw [hg]
    simp only [beq_self_eq_true, if_true]
    have : (true == false) = false := rfl
    rw [this]
    simp only [Bool.false_eq_true, if_false]
    omega

end

theorem IWP_region_draw {P : Program} {k id : Nat} {Q : Exit → St → Prop} {s : St} {ops : List Oper} (hm : P.follows .mixedOrders = true) (W : List (List Nat)) (hl : List Nat) (vs : List IV) (Hs : List (List HO)) (obls : List (Nat × Nat))
    (hok : drawOk ops W hl s.nt obls = true) (h0 : Hs.getD 0 [] = s.h) (hob : Obls P ops vs Hs hl s obls)
    (hQ : Q .normal ⟨s.nt, envOf ops vs (fun _ => true) s.env ops.length, Hs.getD hl.length []⟩) : IWP P k (.region id ops.toArray true) Q s := fun cx a w hs => by
  refine wp_region_any hm ?_
  refine draw_run hok hob (fun a w h => ⟨_, hQ, h⟩) _ 0 _ _ _ (by simp) ⟨by simp, fun i o _ h => ?_, fun r j _ => ⟨fun h => ?_, fun h => by omega⟩, Nat.zero_le _, ?_⟩
  · exfalso
    by_cases hi : i < ops.length <;> simp [hi] at h
  · exfalso
    by_cases hi : j < ops.length <;> simp [hi] at h
  · obtain ⟨F, hF⟩ := hs
    refine ⟨F, hF.defers, hF.size, ?_, fun t => ?_, hF.base, hF.names, hF.n0⟩
    · show HStep _ _ _ (Hs.getD 0 []) _ _
      rw [h0]; exact hF.step.drew
    · have : lk (envOf ops vs (fun j => (Array.replicate ops.toArray.size false).getD j false) s.env ops.length) t = lk s.env t := by
        rcases envOf_lk (ops := ops) (vs := vs) (L := fun j => (Array.replicate ops.toArray.size false).getD j false) (env := s.env) (t := t) ops.length with ⟨j, q, b1, b2, _⟩ | ⟨b1, _⟩
        · exfalso; simp [b1] at b2
        · exact b1
      show R F (lk (envOf ops vs (fun j => (Array.replicate ops.toArray.size false).getD j false) s.env ops.length) t) _
      rw [this]; exact hF.env t

end Go.Idl
