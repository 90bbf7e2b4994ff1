/-
  A heap: the plain law.
-/
import Derived.Test.YtnlelckfhlcbgaaHeaD
namespace Go.Proofs.Ytnlelckfhlcbgaa
open Go Go.Idl
set_option linter.unusedSimpArgs false
set_option linter.unusedVariables false
set_option maxRecDepth 100000
set_option maxHeartbeats 1000000
attribute [local irreducible] Go.Idl.IWP Go.Idl.IOps Go.Idl.Obl Go.Idl.OpG Go.Idl.thenI Go.Idl.inBlockI Go.Idl.LoopU Go.Idl.noGotoI Go.Idl.jumpI
attribute [local go_sem] List.length_set
/-! ### Plain -/
theorem ec_perm : ∀ {L : List It} {k : Nat} (hk : k < L.length), (L[k] :: L.eraseIdx k).Perm L
  | a :: l, 0, _ => .refl _
  | a :: l, k + 1, hk => by
    have h := ec_perm (L := l) (k := k) (by simpa using hk)
    simp only [List.getElem_cons_succ, List.eraseIdx_cons_succ]
    exact (List.Perm.swap a _ _).trans (h.cons a)
theorem set_ec : ∀ {L : List It} {k : Nat} (hk : k < L.length) (x : It), (L.set k x).Perm (x :: L.eraseIdx k)
  | a :: l, 0, _, x => .refl _
  | a :: l, k + 1, hk, x => by
    have h := set_ec (L := l) (k := k) (by simpa using hk) x
    simp only [List.set_cons_succ, List.eraseIdx_cons_succ]
    exact (h.cons a).trans (List.Perm.swap _ _ _)
theorem nodup_le : ∀ (n : Nat) (l : List Nat), l.Nodup → (∀ x, x ∈ l → x < n) → l.length ≤ n := by
  intro n
  induction n with
  | zero =>
    intro l _ h
    cases l with
    | nil => exact Nat.le_refl _
    | cons a l => exact absurd (h a (by simp)) (Nat.not_lt_zero _)
  | succ n ih =>
    intro l hl h
    have := ih (l.erase n) (hl.erase n) (fun x hx => by
      have h1 := h x (List.mem_of_mem_erase hx)
      have h2 : x ≠ n := by rintro rfl; exact (List.Nodup.not_mem_erase hl) hx
      omega)
    rw [List.length_erase] at this
    split at this <;> omega
/-- Ids that may be, all unlike. -/
def Idn (L : List It) : Prop := (∀ y, y ∈ L → 0 ≤ y.id ∧ y.id < 64) ∧ L.Pairwise fun a b => a.id ≠ b.id
theorem Idn.perm {L M : List It} (h : Idn L) (p : M.Perm L) : Idn M :=
  ⟨fun y hy => h.1 y (p.mem_iff.1 hy), (p.pairwise_iff (fun h => Ne.symm h)).2 h.2⟩
theorem Idn.sub {L M : List It} (h : Idn L) (p : M.Sublist L) : Idn M := ⟨fun y hy => h.1 y (p.subset hy), h.2.sublist p⟩
theorem Idn.len {L : List It} (h : Idn L) : L.length ≤ 64 := by
  have := nodup_le 64 (L.map fun y => y.id.toNat) (by
    unfold List.Nodup
    rw [List.pairwise_map]
    refine h.2.imp_of_mem fun ha hb hab => ?_
    have h1 := h.1 _ ha; have h2 := h.1 _ hb
    omega) (fun x hx => by
    obtain ⟨y, hy, rfl⟩ := List.mem_map.1 hx
    have := h.1 y hy
    omega)
  rwa [List.length_map] at this
theorem gd_mem {L : List It} {i : Nat} (h : i < L.length) : gd L i ∈ L := by rw [gd_eq h]; exact List.getElem_mem h
theorem chk_iff (L : List It) : chk L = true ↔ Idn L ∧ H4 L.length L := by
  unfold chk
  rw [decide_eq_true_iff]
  constructor
  · rintro ⟨h1, h2⟩
    refine ⟨⟨fun y hy => ?_, ?_⟩, fun i h0 hi => ?_⟩
    · obtain ⟨i, hi, rfl⟩ := List.getElem_of_mem hy
      have := (h2 i hi).1
      rwa [gd_eq hi] at this
    · rw [List.pairwise_iff_getElem]
      intro i j hi hj hij
      have := (h2 j hj).2.1 i hij
      rwa [gd_eq hi, gd_eq hj] at this
    · have := (h2 i hi).2.2
      cases e : lessI (gd L i) (gd L (par i))
      · rfl
      · exact absurd ⟨h0, e⟩ this
  · rintro ⟨h, h3⟩
    refine ⟨h.len, fun i hi => ⟨h.1 _ (gd_mem hi), fun k hk => ?_, fun hh => ?_⟩⟩
    · have := (List.pairwise_iff_getElem.1 h.2) k i (by omega) hi hk
      rwa [gd_eq hi, gd_eq (by omega)]
    · have := h3 i hh.1 hi; unfold par at this; rw [this] at hh; cases hh.2
theorem gd_set_ne {L : List It} {i k : Nat} {x : It} (h : i ≠ k) : gd (L.set k x) i = gd L i := by
  simp only [gd, List.getD_eq_getElem?_getD, List.getElem?_set, if_neg (Ne.symm h)]
theorem N4_set {n k : Nat} {L : List It} {x : It} (h : H4 n L) (hk : k < n) : N4 n k (L.set k x) := by
  refine ⟨fun i h0 hi h1 h2 => ?_, fun i h0 hi h1 h2 => ?_⟩
  · rw [gd_set_ne h1, gd_set_ne h2]; exact h i h0 hi
  · have := par_lt h0; have := par_lt h2
    rw [gd_set_ne (by omega), gd_set_ne (by omega)]
    exact lessI_trans (h1 ▸ h i h0 hi) (h k h2 hk)
theorem gd_app {L : List It} {x : It} {i : Nat} (h : i < L.length) : gd (L ++ [x]) i = gd L i := by
  simp only [gd, List.getD_eq_getElem?_getD, List.getElem?_append_left h]
theorem N4_snoc {L : List It} {x : It} (h : H4 L.length L) : N4 (L.length + 1) L.length (L ++ [x]) := by
  refine ⟨fun i h0 hi h1 h2 => ?_, fun i h0 hi h1 h2 => ?_⟩
  · have := par_lt h0
    rw [gd_app (by omega), gd_app (by omega)]; exact h i h0 (by omega)
  · have := par_lt h0; omega
theorem H4.le {m n : Nat} {L : List It} (h : H4 n L) (hm : m ≤ n) : H4 m L := fun i h0 hi => h i h0 (by omega)
theorem H4.take {n : Nat} {L : List It} (h : H4 n L) (hn : n ≤ L.length) : H4 (L.take n).length (L.take n) := fun i h0 hi => by
  have hp := par_lt h0
  have hl : (L.take n).length = n := by rw [List.length_take]; omega
  have e : ∀ j, j < n → gd (L.take n) j = gd L j := fun j hj => by simp only [gd, List.getD_eq_getElem?_getD, List.getElem?_take, if_pos hj]
  rw [e i (by omega), e _ (by omega)]
  exact h i h0 (by omega)
/-- Without an id. -/
def woI (id : Int) (L : List It) : List It := L.filter fun y => decide (y.id ≠ id)
theorem woI_none {L : List It} {id : Int} (h : ∀ j, j < L.length → (gd L j).id ≠ id) : woI id L = L := by
  unfold woI
  rw [List.filter_eq_self]
  intro y hy
  obtain ⟨j, hj, rfl⟩ := List.getElem_of_mem hy
  have := h j hj
  rw [gd_eq hj] at this
  simpa using this
theorem woI_one {L : List It} {id : Int} {k : Nat} (hd : Idn L) (hk : k < L.length) (he : (gd L k).id = id) : (woI id L).Perm (L.eraseIdx k) := by
  have p : (L[k] :: L.eraseIdx k).Perm L := ec_perm hk
  have hd2 := hd.perm p
  have h1 : (woI id L).Perm (woI id (L[k] :: L.eraseIdx k)) := (p.filter _).symm
  refine h1.trans ?_
  rw [gd_eq hk] at he
  have h2 : woI id (L[k] :: L.eraseIdx k) = woI id (L.eraseIdx k) := by unfold woI; rw [List.filter_cons_of_neg (by simp [he])]
  rw [h2]
  have h3 : woI id (L.eraseIdx k) = L.eraseIdx k := by
    unfold woI
    rw [List.filter_eq_self]
    intro y hy
    have := (List.pairwise_cons.1 hd2.2).1 y hy
    rw [he] at this
    simpa using Ne.symm this
  rw [h3]
/-- What stands when one is set. -/
def upI (x : It) (L : List It) : List It := x :: woI x.id L
theorem Idn.up {L : List It} (h : Idn L) {x : It} (hx : 0 ≤ x.id ∧ x.id < 64) : Idn (upI x L) := by
  have hw : Idn (woI x.id L) := h.sub List.filter_sublist
  refine ⟨fun y hy => ?_, List.pairwise_cons.2 ⟨fun y hy => ?_, hw.2⟩⟩
  · rcases List.mem_cons.1 hy with rfl | hy
    · exact hx
    · exact hw.1 y hy
  · have := (List.mem_filter.1 hy).2
    exact fun e => by simp [e] at this
theorem Idn.wo {L : List It} (h : Idn L) (id : Int) : Idn (woI id L) := h.sub List.filter_sublist
theorem up_hit {L M : List It} {x : It} {k : Nat} (hd : Idn L) (hk : k < L.length) (he : (gd L k).id = x.id) (hM : M.Perm (L.set k x)) : M.Perm (upI x L) :=
  hM.trans ((set_ec hk x).trans ((woI_one hd hk he).symm.cons x))
theorem up_miss {L M : List It} {x : It} (hn : ∀ j, j < L.length → (gd L j).id ≠ x.id) (hM : M.Perm (L ++ [x])) : M.Perm (upI x L) := by
  unfold upI
  rw [woI_none hn]
  exact hM.trans (List.perm_append_singleton x L)
theorem take_last {M : List It} {n : Nat} {z : It} (hl : M.length = n + 1) (hz : gd M n = z) : M.Perm (z :: M.take n) := by
  have : M = M.take n ++ [z] := by
    have h := List.take_append_drop n M
    rw [List.drop_eq_getElem_cons (by omega), List.drop_of_length_le (by omega)] at h
    rw [gd_eq (by omega)] at hz
    rw [hz] at h
    exact h.symm
  have h2 : (M.take n ++ [z]).Perm (z :: M.take n) := List.perm_append_singleton z _
  rwa [← this] at h2
theorem wo_drop {L M : List It} {id : Int} {k n : Nat} (hd : Idn L) (hl : L.length = n + 1) (hk : k < n) (he : (gd L k).id = id) (hM : M.Perm (L.set k (gd L n))) (ho : ∀ i, n ≤ i → gd M i = gd (L.set k (gd L n)) i) : (M.take n).Perm (woI id L) := by
  have hml : M.length = n + 1 := by rw [hM.length_eq, List.length_set, hl]
  have h1 := take_last hml (z := gd L n) (by rw [ho n (Nat.le_refl _), gd_set_ne (by omega)])
  have h2 : M.Perm (gd L n :: L.eraseIdx k) := hM.trans (set_ec (by omega) _)
  exact ((List.perm_cons _).1 (h1.symm.trans h2)).trans (woI_one hd (by omega) he).symm
theorem wo_last {L : List It} {id : Int} {n : Nat} (hd : Idn L) (hl : L.length = n + 1) (he : (gd L n).id = id) : (L.take n).Perm (woI id L) := by
  have h1 := take_last hl rfl
  have h2 : (L[n] :: L.eraseIdx n).Perm L := ec_perm (by omega)
  rw [gd_eq (by omega)] at h1
  exact ((List.perm_cons _).1 (h1.symm.trans h2.symm)).trans (woI_one hd (by omega) he).symm
end Go.Proofs.Ytnlelckfhlcbgaa
