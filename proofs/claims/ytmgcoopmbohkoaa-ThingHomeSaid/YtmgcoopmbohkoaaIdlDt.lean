/-
  Ideal states: a region that draws its order, with heavy operations in any order.
-/
import Derived.Test.YtmgcoopmbohkoaaIdlSeg
namespace Go.Idl
open Go

def beqL : List Nat → List Nat → Bool
  | [], [] => true
  | a :: l, b :: m => Nat.beq a b && beqL l m
  | _, _ => false
theorem beqL_eq : ∀ {l m : List Nat}, beqL l m = true → l = m
  | [], [], _ => rfl
  | a :: l, b :: m, h => by
    simp only [beqL, Bool.and_eq_true] at h
    rw [Nat.eq_of_beq_eq_true h.1, beqL_eq h.2]
  | [], _ :: _, h => by cases h
  | _ :: _, [], h => by cases h
theorem beqL_rfl : ∀ l : List Nat, beqL l l = true
  | [] => rfl
  | a :: l => by simp [beqL, beqL_rfl l]

/-- What stands behind each order of the heavy ones that have come up. -/
abbrev Tree := List (List Nat × List IV × List HO)
def Tree.at (tr : Tree) (π : List Nat) : List IV × List HO :=
  match tr with
  | [] => ([], [])
  | e :: r => if beqL e.1 π then e.2 else Tree.at r π
def Tree.has (tr : Tree) (π : List Nat) : Bool := tr.any fun e => beqL e.1 π
def memN (i : Nat) (l : List Nat) : Bool := l.any (Nat.beq i)
theorem memN_iff {i : Nat} {l : List Nat} : memN i l = true ↔ i ∈ l := by
  unfold memN
  rw [List.any_eq_true]
  constructor
  · rintro ⟨x, h1, h2⟩; rwa [Nat.eq_of_beq_eq_true h2]
  · intro h; exact ⟨i, h, by simp⟩

/-- Whether operation i may come up when just these heavy ones have. -/
def possT (W : List (List Nat)) (hv : List Nat) (i : Nat) (π : List Nat) : Bool :=
  π.all (fun j => !(Nat.beq j i) && !(waits W j i)) && hv.all fun j => memN j π || !(waits W i j)

/-- One that is heavy, or not; it; behind whom. -/
abbrev Owe := Bool × Nat × List Nat
def OblT (P : Program) (ops : List Oper) (tr : Tree) (s : St) : Owe → Prop
  | (true, i, π) => Obl P ops (tr.at (π ++ [i])).1 [(tr.at π).2, (tr.at (π ++ [i])).2] [i] s i 0
  | (false, i, π) => Obl P ops (tr.at π).1 [(tr.at π).2] [] s i 0
@[reducible] def OblsT (P : Program) (ops : List Oper) (tr : Tree) (s : St) : List Owe → Prop
  | [] => True
  | (true, i, π) :: r => Obl P ops (tr.at (π ++ [i])).1 [(tr.at π).2, (tr.at (π ++ [i])).2] [i] s i 0 ∧ OblsT P ops tr s r
  | (false, i, π) :: r => Obl P ops (tr.at π).1 [(tr.at π).2] [] s i 0 ∧ OblsT P ops tr s r
theorem OblsT.get {P : Program} {ops : List Oper} {tr : Tree} {s : St} : ∀ {l : List Owe}, OblsT P ops tr s l → ∀ x, x ∈ l → OblT P ops tr s x
  | [], _, _, h => by cases h
  | (true, i, π) :: r, h, x, hm => by
    rcases List.mem_cons.1 hm with e | e
    · cases e; exact h.1
    · exact OblsT.get h.2 x e
  | (false, i, π) :: r, h, x, hm => by
    rcases List.mem_cons.1 hm with e | e
    · cases e; exact h.1
    · exact OblsT.get h.2 x e

/-- What has come up stays as it is. -/
def stayL (W : List (List Nat)) (i : Nat) (a b : List IV) : Nat → Prop
  | 0 => True
  | n + 1 => (match Nat.beq n i || waits W n i with | true => True | false => a.getD n .any = b.getD n .any) ∧ stayL W i a b n
def stayT (W : List (List Nat)) (n : Nat) (tr : Tree) : List (Nat × List Nat) → Prop
  | [] => True
  | (i, π) :: r => stayL W i (tr.at (π ++ [i])).1 (tr.at π).1 n ∧ stayT W n tr r
theorem stayL.get {W : List (List Nat)} {i : Nat} {a b : List IV} : ∀ {n : Nat}, stayL W i a b n → ∀ j, j < n → j ≠ i → waits W j i = false → a.getD j .any = b.getD j .any
  | 0, _, j, hj, _, _ => by omega
  | n + 1, h, j, hj, hne, hw => by
    by_cases e : j = n
    · subst e
      have h1 := h.1
      have hb : Nat.beq j i = false := by
        cases hb : Nat.beq j i with
        | true => exact absurd (Nat.eq_of_beq_eq_true hb) hne
        | false => rfl
      rw [hb, hw] at h1
      exact h1
    · exact stayL.get h.2 j (by omega) hne hw
theorem stayT.get {W : List (List Nat)} {n : Nat} {tr : Tree} : ∀ {l : List (Nat × List Nat)}, stayT W n tr l → ∀ i π, (i, π) ∈ l → stayL W i (tr.at (π ++ [i])).1 (tr.at π).1 n
  | [], _, _, _, h => by cases h
  | (a, b) :: r, h, i, π, hm => by
    rcases List.mem_cons.1 hm with e | e
    · cases e; exact h.1
    · exact stayT.get h.2 i π e

/-- The orders that are looked at are all that there are. -/
def treeOk (ops : List Oper) (W : List (List Nat)) (hv : List Nat) (nt : Nat) (nodes : List (List Nat)) (edges : List (Nat × List Nat)) (obls : List Owe) : Bool :=
  waitsOk ops W && slotsOk ops W && hv.all (fun i => Nat.blt i ops.length) && memL [] nodes &&
    (nodes.all fun π => (List.range ops.length).all fun i => !(possT W hv i π) || (obls.contains (memN i hv, i, π) && (!(memN i hv) || (memL (π ++ [i]) nodes && edges.contains (i, π))))) &&
    ops.all fun o => match o.dst with | some d => Nat.blt d nt | none => true
where memL (π : List Nat) (l : List (List Nat)) : Bool := l.any (beqL π)

theorem envOf_vals {ops : List Oper} {us vs : List IV} {L : Nat → Bool} {env : List (Nat × IV)} (n : Nat) (h : ∀ j, j < n → L j = true → us.getD j .any = vs.getD j .any) :
    envOf ops us L env n = envOf ops vs L env n := by
  induction n with
  | zero => rfl
  | succ n ih =>
    have ih := ih fun j hj hL => h j (by omega) hL
    unfold envOf
    rw [ih]
    by_cases hL : L n = true
    · rw [if_pos hL, if_pos hL, h n (by omega) hL]
    · rw [if_neg hL, if_neg hL]

structure DrawT (ops : List Oper) (tr : Tree) (hv : List Nat) (nodes : List (List Nat)) (s : St) (cx : Cx) (k : Nat) (π : List Nat) (listed : Array Bool) (a : Act) (w : World) : Prop where
  size : listed.size = ops.length
  closed : ∀ i o, ops[i]? = some o → listed.getD i false = true → ∀ e ∈ edgesOf o, listed.getD e false = true
  heavy : ∀ j, j ∈ hv → (listed.getD j false = true ↔ j ∈ π)
  sub : ∀ j, j ∈ π → j ∈ hv
  node : π ∈ nodes
  sim : Sim cx k ⟨s.nt, envOf ops (tr.at π).1 (fun j => listed.getD j false) s.env ops.length, (tr.at π).2⟩ a w

section
variable {P : Program} {ops : List Oper} {W : List (List Nat)} {tr : Tree} {hv : List Nat} {nodes : List (List Nat)} {edges : List (Nat × List Nat)} {s : St} {obls : List Owe}

theorem drawT_step (hok : treeOk ops W hv s.nt nodes edges obls = true) (hob : OblsT P ops tr s obls) (hst : stayT W ops.length tr edges) {cx : Cx} {k : Nat} {π : List Nat} {listed : Array Bool} {a : Act} {w : World} (hd : DrawT ops tr hv nodes s cx k π listed a w)
    {i : Nat} (hi : i ∈ Region.ready .any ops.toArray listed) {K : Act → World → Prop} {Q : Exit → Act → World → Prop}
    (hK : ∀ π' a' w', DrawT ops tr hv nodes s cx k π' (listed.setIfInBounds i true) a' w' → K a' w') : wpOp P ops.toArray Q i K a w := by
  simp only [treeOk, Bool.and_eq_true] at hok
  obtain ⟨⟨⟨⟨⟨hW, hS⟩, hH⟩, h0⟩, hO⟩, hD⟩ := hok
  obtain ⟨hun0, o, ho, hready⟩ := mem_ready.1 hi
  have ho' : ops[i]? = some o := by simpa using ho
  have hin : i < ops.length := lt_of_get ho'
  have hsz : i < listed.size := by rw [hd.size]; exact hin
  have hun : listed.getD i false = false := by simpa [hsz] using hun0
  have hedges : ∀ e ∈ edgesOf o, listed.getD e false = true := fun e he => by
    obtain ⟨ed, h1, h2⟩ := List.mem_filterMap.1 he
    split at h2
    · rename_i hb; cases h2; exact hready ed (Array.mem_toList_iff.1 h1) hb
    · cases h2
  have hwi : ∀ j, waits W i j = true → listed.getD j false = true := fun j hj => waits_listed (L := fun j => listed.getD j false) hW hd.closed i j o ho' hedges hj
  have hwl : ∀ m p, ops[m]? = some p → listed.getD m false = true → waits W m i = true → False := fun m p hp hm hw => by
    have := waits_listed (L := fun j => listed.getD j false) hW hd.closed m i p hp (hd.closed m p hp hm) hw
    rw [hun] at this; cases this
  have hhv : ∀ j, j ∈ hv → j < ops.length := fun j hj => Nat.blt_eq.mp (List.all_eq_true.1 hH j hj)
  have hposs : possT W hv i π = true := by
    unfold possT
    rw [Bool.and_eq_true]
    constructor
    · refine List.all_eq_true.2 fun j hj => ?_
      have hL := (hd.heavy j (hd.sub j hj)).2 hj
      have h1 : Nat.beq j i = false := by
        cases hb : Nat.beq j i with
        | true => have := Nat.eq_of_beq_eq_true hb; rw [this, hun] at hL; cases hL
        | false => rfl
      have h2 : waits W j i = false := by
        cases hb : waits W j i with
        | true => exact (hwl j _ (List.getElem?_eq_getElem (hhv j (hd.sub j hj))) hL hb).elim
        | false => rfl
      rw [h1, h2]; rfl
    · refine List.all_eq_true.2 fun j hj => ?_
      rw [Bool.or_eq_true]
      cases hb : waits W i j with
      | true => exact .inl (memN_iff.2 ((hd.heavy j hj).1 (hwi j hb)))
      | false => exact .inr rfl
  have hthis := List.all_eq_true.1 (List.all_eq_true.1 hO π hd.node) i (List.mem_range.2 hin)
  rw [hposs] at hthis
  simp only [Bool.not_true, Bool.false_or, Bool.and_eq_true] at hthis
  obtain ⟨hmem, hnode⟩ := hthis
  have hmem : (memN i hv, i, π) ∈ obls := by simpa using hmem
  obtain ⟨F, hF⟩ := hd.sim
  -- what i looks at
  have henv : ∀ us : List IV, (∀ j, j < ops.length → listed.getD j false = true → us.getD j .any = (tr.at π).1.getD j .any) → ∀ t, R F (lk (restr (envOf ops us (fun _ => true) s.env i) (slotsOf ops.toArray o)) t) (a.tmps.getD t undef) := fun us hus t => by
    rcases restr_lk (envOf ops us (fun _ => true) s.env i) (slotsOf ops.toArray o) t with ⟨h1, h2⟩ | h
    · have hsame : lk (envOf ops us (fun _ => true) s.env i) t = lk (envOf ops us (fun j => listed.getD j false) s.env ops.length) t := envOf_same fun j p hp hdst => by
        have hjl : j < ops.length := lt_of_get hp
        by_cases hij : i = j
        · subst hij
          constructor
          · rintro ⟨h, _⟩; omega
          · rintro ⟨_, h⟩; rw [hun] at h; cases h
        · have hso := slotsOk_spec hS ho' hp h1 hdst hij
          constructor
          · rintro ⟨h, _⟩; exact ⟨hjl, hwi j (hso.1 h)⟩
          · rintro ⟨_, h⟩
            refine ⟨?_, rfl⟩
            rcases Nat.lt_trichotomy j i with h' | h' | h'
            · exact h'
            · exact absurd h'.symm hij
            · exact (hwl j p hp h (hso.2 h')).elim
      rw [h2, hsame, envOf_vals ops.length hus]
      exact hF.env t
    · rw [h]; exact .any _
  have key : ∀ π' v G w', (∀ j, j ∈ hv → ((listed.setIfInBounds i true).getD j false = true ↔ j ∈ π')) → (∀ j, j ∈ π' → j ∈ hv) → π' ∈ nodes →
      (∀ j, j < ops.length → listed.getD j false = true → (tr.at π').1.getD j .any = (tr.at π).1.getD j .any) →
      HStep F G (tr.at π).2 (tr.at π').2 w w' → R G ((tr.at π').1.getD i .any) v → K (a.put o.dst v) w' := by
    intro π' v G w' hh hsub hnd hvals h1 h2
    refine hK π' _ _ ⟨by simpa using hd.size, fun m p hp hm e he => ?_, hh, hsub, hnd, ⟨G, ?_⟩⟩
    · rw [getD_set _ _ _ hsz]
      rw [getD_set _ _ _ hsz, Bool.or_eq_true] at hm
      rw [Bool.or_eq_true]
      right
      rcases hm with hm | hm
      · have := Nat.eq_of_beq_eq_true hm
        subst this
        rw [ho'] at hp; cases hp
        exact hedges e he
      · exact hd.closed m p hp hm e he
    · have hother : ∀ t, o.dst ≠ some t → lk (envOf ops (tr.at π').1 (fun j => (listed.setIfInBounds i true).getD j false) s.env ops.length) t = lk (envOf ops (tr.at π).1 (fun j => listed.getD j false) s.env ops.length) t := fun t ht => by
        rw [← envOf_vals ops.length hvals]
        exact envOf_same fun j p hp hdst => by
          have hij : i ≠ j := by rintro rfl; rw [ho'] at hp; cases hp; exact ht hdst
          show (_ ∧ (listed.setIfInBounds i true).getD j false = true) ↔ _
          rw [getD_set_ne false hij]
      have hz : a.tmps.size = s.nt := hF.size
      have hm : ∀ t, R G (lk (envOf ops (tr.at π).1 (fun j => listed.getD j false) s.env ops.length) t) (a.tmps.getD t undef) := fun t => (hF.env t).mono h1.ext.weak
      refine ⟨?_, ?_, hF.step.trans h1, fun t => ?_, hF.base, hF.names, hF.n0⟩
      · cases hdst : o.dst with
        | none => exact hF.defers
        | some d => exact hF.defers
      · cases hdst : o.dst with
        | none => exact hz
        | some d => simpa [Act.put, hdst] using hz
      · cases hdst : o.dst with
        | none =>
          show R G (lk (envOf ops (tr.at π').1 (fun j => (listed.setIfInBounds i true).getD j false) s.env ops.length) t) (a.tmps.getD t undef)
          rw [hother t (by rw [hdst]; simp)]
          exact hm t
        | some d =>
          show R G (lk (envOf ops (tr.at π').1 (fun j => (listed.setIfInBounds i true).getD j false) s.env ops.length) t) ((a.tmps.setIfInBounds d v).getD t undef)
          by_cases hdt : d = t
          · subst hdt
            have hdl : d < a.tmps.size := by
              have := List.all_eq_true.1 hD o (List.mem_of_getElem? ho')
              rw [hdst] at this
              rw [hz]; exact Nat.blt_eq.mp this
            have hLi : (listed.setIfInBounds i true).getD i false = true := by rw [getD_set _ _ _ hsz]; simp
            have hv' : lk (envOf ops (tr.at π').1 (fun j => (listed.setIfInBounds i true).getD j false) s.env ops.length) d = (tr.at π').1.getD i .any := by
              rcases envOf_lk (ops := ops) (vs := (tr.at π').1) (L := fun j => (listed.setIfInBounds i true).getD j false) (env := s.env) (t := d) ops.length with ⟨j, p, b1, b2, b3, b4, b5, b6⟩ | ⟨_, b2⟩
              · by_cases hij : i = j
                · subst hij; exact b5
                · have hlj : listed.getD j false = true := by rw [← getD_set_ne false hij]; exact b2
                  have hds : d ∈ slotsOf ops.toArray o := by simp [slotsOf, hdst]
                  rcases Nat.lt_trichotomy j i with h' | h' | h'
                  · exact absurd hdst (b6 i o h' hin hLi ho')
                  · exact absurd h'.symm hij
                  · exact (hwl j p b3 hlj ((slotsOk_spec hS ho' b3 hds b4 hij).2 h')).elim
              · exact absurd hdst (b2 i o hin hLi ho')
            rw [hv']
            simpa [hdl] using h2
          · rw [hother t (by rw [hdst]; simpa using hdt)]
            have := hm t
            simpa [Array.getElem?_setIfInBounds_ne hdt] using this
  have hobl := hob.get _ hmem
  unfold wpOp
  rw [ho]
  simp only []
  by_cases hh : memN i hv = true
  · rw [hh] at hobl hnode
    simp only [Bool.not_true, Bool.false_or, Bool.and_eq_true] at hnode
    have hnd : π ++ [i] ∈ nodes := by
      obtain ⟨m, hm1, hm2⟩ := List.any_eq_true.1 hnode.1
      rwa [beqL_eq hm2]
    have hed : (i, π) ∈ edges := by simpa using hnode.2
    have hstay : ∀ j, j < ops.length → listed.getD j false = true → (tr.at (π ++ [i])).1.getD j .any = (tr.at π).1.getD j .any := fun j hj hL => by
      refine (hst.get i π hed).get j hj (by rintro rfl; rw [hun] at hL; cases hL) ?_
      cases hb : waits W j i with
      | true => exact (hwl j _ (List.getElem?_eq_getElem hj) hL hb).elim
      | false => rfl
    simp only [OblT, Obl, ho'] at hobl
    have hfin := hobl a w F hF.hbase hF.step.hin (henv _ hstay) hF.size K Q fun v G w' h1 h2 => by
      have hany : [i].any (Nat.beq i) = true := by simp
      rw [if_pos hany] at h1
      refine key (π ++ [i]) v G w' (fun j hj => ?_) (fun j hj => ?_) hnd hstay h1 h2
      · rw [getD_set _ _ _ hsz, Bool.or_eq_true, hd.heavy j hj, List.mem_append, List.mem_singleton]
        constructor
        · rintro (h | h)
          · exact .inr (Nat.eq_of_beq_eq_true h).symm
          · exact .inl h
        · rintro (h | h)
          · exact .inr h
          · exact .inl (by rw [h]; simp)
      · rcases List.mem_append.1 hj with h | h
        · exact hd.sub j h
        · rw [List.mem_singleton.1 h]; exact memN_iff.1 hh
    by_cases hw : Region.wanted o (yielded ops.toArray a.tmps) = true
    · rw [if_pos hw] at hfin ⊢; exact .inl hfin
    · rw [if_neg hw] at hfin ⊢; exact hfin
  · have hh : memN i hv = false := by simpa using hh
    rw [hh] at hobl
    simp only [OblT, Obl, ho'] at hobl
    have hfin := hobl a w F hF.hbase hF.step.hin (henv _ fun _ _ _ => rfl) hF.size K Q fun v G w' h1 h2 => by
      have hany : ([] : List Nat).any (Nat.beq i) = false := rfl
      rw [if_neg (by rw [hany]; simp)] at h1
      refine key π v G w' (fun j hj => ?_) hd.sub hd.node (fun _ _ _ => rfl) h1 h2
      have hij : i ≠ j := by
        rintro rfl
        rw [memN_iff.2 hj] at hh; cases hh
      rw [getD_set_ne false hij]
      exact hd.heavy j hj
    by_cases hw : Region.wanted o (yielded ops.toArray a.tmps) = true
    · rw [if_pos hw] at hfin ⊢; exact .inl hfin
    · rw [if_neg hw] at hfin ⊢; exact hfin

theorem drawT_done (hok : treeOk ops W hv s.nt nodes edges obls = true) {cx : Cx} {k : Nat} {π : List Nat} {listed : Array Bool} {a : Act} {w : World} (hd : DrawT ops tr hv nodes s cx k π listed a w)
    (hr : Region.ready .any ops.toArray listed = []) : (π ∈ nodes ∧ hv.all (fun j => memN j π) = true) ∧ Sim cx k ⟨s.nt, envOf ops (tr.at π).1 (fun _ => true) s.env ops.length, (tr.at π).2⟩ a w := by
  simp only [treeOk, Bool.and_eq_true] at hok
  obtain ⟨⟨⟨⟨⟨hW, hS⟩, hH⟩, h0⟩, hO⟩, hD⟩ := hok
  have hall : ∀ i, i < ops.length → listed.getD i false = true := by
    intro i
    induction i using Nat.strongRecOn with
    | _ i ih =>
      intro hi
      cases hb : listed.getD i false with
      | true => rfl
      | false =>
        have hg : ops[i]? = some ops[i] := List.getElem?_eq_getElem hi
        have : i ∈ Region.ready .any ops.toArray listed := mem_ready.2 ⟨by
          have : i < listed.size := by rw [hd.size]; exact hi
          simpa [this] using hb, ops[i], by simp, fun e he hb => by
            have hlt := (waitsOk_spec hW hg).1 e.on (List.mem_filterMap.2 ⟨e, Array.mem_toList_iff.2 he, by rw [if_pos hb]⟩)
            exact ih _ hlt (by omega)⟩
        rw [hr] at this; cases this
  refine ⟨⟨hd.node, List.all_eq_true.2 fun j hj => memN_iff.2 ((hd.heavy j hj).1 (hall j (Nat.blt_eq.mp (List.all_eq_true.1 hH j hj))))⟩, ?_⟩
  obtain ⟨F, hF⟩ := hd.sim
  refine ⟨F, hF.defers, hF.size, hF.step, fun t => ?_, hF.base, hF.names, hF.n0⟩
  rw [envOf_same (M := fun j => listed.getD j false) (b := ops.length) fun j p hp _ => ⟨fun h => ⟨h.1, hall j h.1⟩, fun h => ⟨h.1, rfl⟩⟩]
  exact hF.env t

/-- All that is behind the region, for each order. -/
def endsT (hv : List Nat) (Z : List Nat → Prop) : List (List Nat) → Prop
  | [] => True
  | π :: r => (match hv.all (fun j => memN j π) with | true => Z π | false => True) ∧ endsT hv Z r
theorem endsT.get {hv : List Nat} {Z : List Nat → Prop} : ∀ {l : List (List Nat)}, endsT hv Z l → ∀ π, π ∈ l → hv.all (fun j => memN j π) = true → Z π
  | [], _, _, h, _ => by cases h
  | a :: r, h, π, hm, hf => by
    rcases List.mem_cons.1 hm with e | e
    · subst e; have := h.1; rw [hf] at this; exact this
    · exact endsT.get h.2 π e hf

theorem drawT_run (hok : treeOk ops W hv s.nt nodes edges obls = true) (hob : OblsT P ops tr s obls) (hst : stayT W ops.length tr edges) {cx : Cx} {k : Nat} {Q : Exit → Act → World → Prop}
    (hQ : ∀ π a w, (π ∈ nodes ∧ hv.all (fun j => memN j π) = true) → Sim cx k ⟨s.nt, envOf ops (tr.at π).1 (fun _ => true) s.env ops.length, (tr.at π).2⟩ a w → Q .normal a w) :
    ∀ fuel π listed a w, listed.toList.count false ≤ fuel → DrawT ops tr hv nodes s cx k π listed a w → wpAny P .any ops.toArray Q fuel listed a w
  | 0, π, listed, a, w, hc, hd => by
    have hr : Region.ready .any ops.toArray listed = [] := List.eq_nil_iff_forall_not_mem.2 fun i hi => by
      obtain ⟨hun, o, ho, _⟩ := mem_ready.1 hi
      have hin : i < listed.size := by rw [hd.size]; exact lt_of_get (by simpa using ho)
      have : false ∈ listed.toList := by
        have h2 : listed[i] = false := by simpa [hin] using hun
        rw [← h2]; simp
      have := List.count_pos_iff.2 this
      omega
    exact ⟨hr, hQ π a w (drawT_done hok hd hr).1 (drawT_done hok hd hr).2⟩
  | fuel + 1, π, listed, a, w, hc, hd => by
    refine ⟨fun hr => hQ π a w (drawT_done hok hd hr).1 (drawT_done hok hd hr).2, fun i hi => drawT_step hok hob hst hd hi fun π' a' w' hd' => drawT_run hok hob hst hQ fuel π' _ a' w' ?_ hd'⟩
    obtain ⟨hun, o, ho, _⟩ := mem_ready.1 hi
    have hin : i < listed.size := by rw [hd.size]; exact lt_of_get (by simpa using ho)
    have h2 : listed[i] = false := by simpa [hin] using hun
    have : (listed.setIfInBounds i true).toList = listed.toList.set i true := by simp
    rw [this, List.count_set (by simpa using hin)]
    have hg : listed.toList[i]'(by simpa using hin) = false := by simpa using h2
    rw [hg]
    simp only [beq_self_eq_true, if_true]
    have : (true == false) = false := rfl
    rw [this]
    simp only [Bool.false_eq_true, if_false]
    omega
end

/-- A region that draws its order, its heavy operations, too. -/
theorem IWP_region_tree {P : Program} {k id nt : Nat} {Q : Exit → St → Prop} {env : List (Nat × IV)} {h : List HO} {ops : List Oper} (hm : P.follows .mixedOrders = true) (W : List (List Nat)) (hv : List Nat) (nodes : List (List Nat)) (edges : List (Nat × List Nat)) (obls : List Owe) (tr : Tree)
    (hok : treeOk ops W hv nt nodes edges obls = true) (h0 : (tr.at []).2 = h) (hob : OblsT P ops tr ⟨nt, env, h⟩ obls) (hst : stayT W ops.length tr edges)
    (hQ : endsT hv (fun π => Q .normal ⟨nt, envOf ops (tr.at π).1 (fun _ => true) env ops.length, (tr.at π).2⟩) nodes) : IWP P k (.region id ops.toArray true) Q ⟨nt, env, h⟩ := fun cx a w hs => by
  have hn0 : ([] : List Nat) ∈ nodes := by
    have h := hok
    simp only [treeOk, Bool.and_eq_true] at h
    obtain ⟨m, hm1, hm2⟩ := List.any_eq_true.1 h.1.1.2
    rwa [beqL_eq hm2]
  refine wp_region_any hm ?_
  refine drawT_run (s := ⟨nt, env, h⟩) hok hob hst (fun π a w hπ h => ⟨_, hQ.get π hπ.1 hπ.2, h⟩) _ [] _ _ _ (by simp) ⟨by simp, fun i o _ h => ?_, fun j hj => ⟨fun h => ?_, fun h => (by cases h)⟩, fun j hj => (by cases hj), hn0, ?_⟩
  · exfalso
    by_cases hi : i < ops.length <;> simp [hi] at h
  · exfalso
    by_cases hi : j < ops.length <;> simp [hi] at h
  · obtain ⟨F, hF⟩ := hs
    refine ⟨F, hF.defers, hF.size, ?_, fun t => ?_, hF.base, hF.names, hF.n0⟩
    · show HStep _ _ _ (tr.at []).2 _ _
      rw [h0]; exact hF.step.drew
    · have : lk (envOf ops (tr.at []).1 (fun j => (Array.replicate ops.toArray.size false).getD j false) env ops.length) t = lk env t := by
        rcases envOf_lk (ops := ops) (vs := (tr.at []).1) (L := fun j => (Array.replicate ops.toArray.size false).getD j false) (env := env) (t := t) ops.length with ⟨j, q, b1, b2, _⟩ | ⟨b1, _⟩
        · exfalso; simp [b1] at b2
        · exact b1
      show R F (lk (envOf ops (tr.at []).1 (fun j => (Array.replicate ops.toArray.size false).getD j false) env ops.length) t) _
      rw [this]; exact hF.env t

/-! ### As a step -/
/-- One that is heavy, or not; it; behind whom; what is behind it; the heap ahead, and behind. -/
abbrev OweE := Bool × Nat × List Nat × List IV × List HO × List HO
@[reducible] def OblsE (P : Program) (ops : List Oper) (s : St) : List OweE → Prop
  | [] => True
  | (true, i, _, vs, H, H') :: r => Obl P ops vs [H, H'] [i] s i 0 ∧ OblsE P ops s r
  | (false, i, _, vs, H, _) :: r => Obl P ops vs [H] [] s i 0 ∧ OblsE P ops s r
@[reducible] def linkE (tr : Tree) : List OweE → Prop
  | [] => True
  | (true, i, π, vs, H, H') :: r => (tr.at (π ++ [i]) = (vs, H') ∧ tr.at π = ((tr.at π).1, H)) ∧ linkE tr r
  | (false, _, π, vs, H, _) :: r => tr.at π = (vs, H) ∧ linkE tr r
theorem OblsE.to {P : Program} {ops : List Oper} {tr : Tree} {s : St} : ∀ {l : List OweE}, OblsE P ops s l → linkE tr l → OblsT P ops tr s (l.map fun x => (x.1, x.2.1, x.2.2.1))
  | [], _, _ => trivial
  | (true, i, π, vs, H, H') :: r, h, k => by
    obtain ⟨⟨k1, k2⟩, k3⟩ := k
    refine ⟨?_, OblsE.to h.2 k3⟩
    have e1 : (tr.at (π ++ [i])).1 = vs := by rw [k1]
    have e2 : (tr.at (π ++ [i])).2 = H' := by rw [k1]
    have e3 : (tr.at π).2 = H := by rw [k2]
    rw [e1, e2, e3]; exact h.1
  | (false, i, π, vs, H, H') :: r, h, k => by
    obtain ⟨k1, k3⟩ := k
    refine ⟨?_, OblsE.to h.2 k3⟩
    rw [k1]; exact h.1
/-- What has come up stays as it is, told of lists; flags say who need not. -/
@[reducible] def stayZ : List Bool → List IV → List IV → Prop
  | true :: f, _ :: a, _ :: b => stayZ f a b
  | false :: f, x :: a, y :: b => x = y ∧ stayZ f a b
  | [], [], [] => True
  | _, _, _ => False
theorem stayZ.get : ∀ {f : List Bool} {a b : List IV}, stayZ f a b → ∀ j, f.getD j false = false → a.getD j .any = b.getD j .any
  | true :: f, x :: a, y :: b, h, 0, h1 => by cases h1
  | false :: f, x :: a, y :: b, h, 0, h1 => h.1
  | true :: f, x :: a, y :: b, h, j + 1, h1 => by
    have := stayZ.get (show stayZ f a b from h) j (by simpa using h1)
    simpa using this
  | false :: f, x :: a, y :: b, h, j + 1, h1 => by
    have := stayZ.get h.2 j (by simpa using h1)
    simpa using this
  | [], [], [], _, _, _ => rfl
abbrev Edf := Nat × List Nat × List Bool
def flagsOk (W : List (List Nat)) (n : Nat) : List Edf → Bool
  | [] => true
  | (i, _, f) :: r => ((List.range n).all fun k => (Nat.beq k i || waits W k i) || !(f.getD k false)) && flagsOk W n r
theorem stayZ.toL {W : List (List Nat)} {i : Nat} {f : List Bool} {a b : List IV} (h : stayZ f a b) : ∀ n, (∀ k, k < n → (Nat.beq k i || waits W k i) = false → f.getD k false = false) → stayL W i a b n
  | 0, _ => trivial
  | n + 1, hf => by
    refine ⟨?_, stayZ.toL h n fun k hk => hf k (by omega)⟩
    cases e : (Nat.beq n i || waits W n i) with
    | true => trivial
    | false => exact h.get n (hf n (by omega) e)
abbrev EdE := Nat × List Nat × List Bool × List IV × List HO × List IV × List HO
@[reducible] def stayE (tr : Tree) : List EdE → Prop
  | [] => True
  | (i, π, f, a, Ha, b, Hb) :: r => (tr.at (π ++ [i]) = (a, Ha) ∧ tr.at π = (b, Hb) ∧ stayZ f a b) ∧ stayE tr r
theorem stayE.to {W : List (List Nat)} {tr : Tree} {n : Nat} : ∀ {l : List EdE}, flagsOk W n (l.map fun x => (x.1, x.2.1, x.2.2.1)) = true → stayE tr l → stayT W n tr ((l.map fun x => (x.1, x.2.1, x.2.2.1)).map fun x => (x.1, x.2.1))
  | [], _, _ => trivial
  | (i, π, f, a, Ha, b, Hb) :: r, hf, h => by
    obtain ⟨⟨h1, h2, h3⟩, h4⟩ := h
    simp only [List.map_cons, flagsOk, Bool.and_eq_true] at hf
    refine ⟨?_, stayE.to hf.2 h4⟩
    have e1 : (tr.at (π ++ [i])).1 = a := by rw [h1]
    have e2 : (tr.at π).1 = b := by rw [h2]
    rw [e1, e2]
    refine h3.toL n fun k hk hw => ?_
    have := List.all_eq_true.1 hf.1 k (List.mem_range.2 hk)
    rw [hw] at this
    simpa using this
def FinQ (Q : Exit → St → Prop) (s : St) : Prop := Q .normal s
@[reducible] def endsF (Z : List Nat → Prop) : List (List Nat) → Prop
  | [] => True
  | π :: r => Z π ∧ endsF Z r
theorem endsF.get {Z : List Nat → Prop} : ∀ {l : List (List Nat)}, endsF Z l → ∀ π, π ∈ l → Z π
  | [], _, _, h => by cases h
  | a :: r, h, π, hm => by
    rcases List.mem_cons.1 hm with e | e
    · subst e; exact h.1
    · exact endsF.get h.2 π e
theorem endsT.of {hv : List Nat} {Z : List Nat → Prop} : ∀ {l : List (List Nat)}, (∀ π, π ∈ l → hv.all (fun j => memN j π) = true → Z π) → endsT hv Z l
  | [], _ => trivial
  | a :: r, h => by
    refine ⟨?_, endsT.of fun π hπ => h π (List.mem_cons_of_mem _ hπ)⟩
    cases e : hv.all (fun j => memN j a) with
    | true => exact h a (List.mem_cons_self ..) e
    | false => trivial
def fullOk (hv : List Nat) (nodes full : List (List Nat)) : Bool := nodes.all fun π => !(hv.all fun j => memN j π) || full.any (beqL π)
section
variable {P : Program} {k id nt : Nat} {Q : Exit → St → Prop} {env : List (Nat × IV)} {h : List HO} {opl : List Oper}
theorem oDt (W : List (List Nat)) (hv : List Nat) (nodes : List (List Nat)) (edges : List Edf) (full : List (List Nat)) (obls : List Owe) (tr : Tree) (ol : List OweE) (el : List EdE)
    (h0 : (tr.at []).2 = h) (hmp : (ol.map fun x => (x.1, x.2.1, x.2.2.1)) = obls) (hme : (el.map fun x => (x.1, x.2.1, x.2.2.1)) = edges) (hst : stayE tr el) (hlk : linkE tr ol) (hob : OblsE P opl ⟨nt, env, h⟩ ol)
    (hQ : endsF (fun π => FinQ Q ⟨nt, envOf opl (tr.at π).1 (fun _ => true) env opl.length, (tr.at π).2⟩) full)
    (hm : P.follows .mixedOrders = true := by first | kernel_rfl | exact rfl | fail) (hok : ((treeOk opl W hv nt nodes (edges.map fun x => (x.1, x.2.1)) obls && flagsOk W opl.length edges) && fullOk hv nodes full) = true := by first | decide +kernel | fail) :
    IWP P k (.region id opl.toArray true) Q ⟨nt, env, h⟩ := by
  rw [Bool.and_eq_true, Bool.and_eq_true] at hok
  subst hme
  refine IWP_region_tree hm W hv nodes _ obls tr hok.1.1 h0 (hmp ▸ hob.to hlk) (stayE.to hok.1.2 hst) (endsT.of fun π h1 h2 => ?_)
  have h3 := List.all_eq_true.1 hok.2 π h1
  rw [h2] at h3
  simp only [Bool.not_true, Bool.false_or] at h3
  obtain ⟨m, hm1, hm2⟩ := List.any_eq_true.1 h3
  have := hQ.get m hm1
  rw [← beqL_eq hm2] at this
  unfold FinQ at this
  exact this
theorem eF_n {Z : List Nat → Prop} : endsF Z [] := trivial
theorem eF_c {Z : List Nat → Prop} {π : List Nat} {r : List (List Nat)} (h1 : Z π) (h2 : endsF Z r) : endsF Z (π :: r) := ⟨h1, h2⟩
theorem eF_e {e E : List (Nat × IV)} {h' : List HO} (hQ : Q .normal ⟨nt, E, h'⟩) (he : frcE e = some E := by first | exact rfl | fail) (hh : frcH h = some h' := by first | exact rfl | fail) : FinQ Q ⟨nt, e, h⟩ := by
  unfold FinQ; rw [frcE_eq he, frcH_eq hh]; exact hQ
end
attribute [irreducible] FinQ
end Go.Idl
