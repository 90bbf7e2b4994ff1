/-
  Lists whose parts are moved about: swaps, and what is sorted.
-/
import Derived.Test.YtmgcoopmbohkoaaIdlEx
namespace Go.Idl

theorem getD_drop0 {α : Type} (l : List α) (i : Nat) (d : α) : (l.drop i).getD 0 d = l.getD i d := by simp [List.getD_eq_getElem?_getD]
attribute [go_sem] getD_drop0
section
variable {α : Type} [Inhabited α]
abbrev gd (l : List α) (i : Nat) : α := l.getD i default
def sw (l : List α) (i j : Nat) : List α := (l.set i (gd l j)).set j (gd l i)
theorem gd_eq {l : List α} {i : Nat} (h : i < l.length) : gd l i = l[i] := by simp [gd, List.getD_eq_getElem?_getD, h]
theorem sw_length (l : List α) (i j : Nat) : (sw l i j).length = l.length := by simp [sw]
theorem gd_set {l : List α} {i k : Nat} {x : α} (hi : i < l.length) : gd (l.set i x) k = if k = i then x else gd l k := by
  unfold gd
  rw [List.getD_eq_getElem?_getD, List.getElem?_set]
  by_cases h : i = k
  · subst h; simp [hi]
  · rw [if_neg h, if_neg (Ne.symm h), ← List.getD_eq_getElem?_getD]
theorem gd_sw {l : List α} {i j k : Nat} (hi : i < l.length) (hj : j < l.length) : gd (sw l i j) k = if k = j then gd l i else if k = i then gd l j else gd l k := by
  unfold sw
  rw [gd_set (by simpa using hj), gd_set hi]
theorem sw_perm {l : List α} {i j : Nat} (hi : i < l.length) (hj : j < l.length) : (sw l i j).Perm l := by
  unfold sw
  rw [gd_eq hi, gd_eq hj]
  exact List.set_set_perm hi hj

/-- What stands from a up to b is moved about, nothing else. -/
structure PS (a b : Nat) (L L' : List α) : Prop where
  len : L'.length = L.length
  perm : L'.Perm L
  out : ∀ i, (i < a ∨ b ≤ i) → gd L' i = gd L i
  inn : ∀ i, a ≤ i → i < b → ∃ j, a ≤ j ∧ j < b ∧ gd L' i = gd L j
theorem PS.refl (a b : Nat) (L : List α) : PS a b L L := ⟨rfl, List.Perm.refl _, fun _ _ => rfl, fun i h1 h2 => ⟨i, h1, h2, rfl⟩⟩
theorem PS.trans {a b : Nat} {L M N : List α} (h : PS a b L M) (k : PS a b M N) : PS a b L N :=
  ⟨k.len.trans h.len, k.perm.trans h.perm, fun i hi => (k.out i hi).trans (h.out i hi), fun i h1 h2 => by
    obtain ⟨j, j1, j2, j3⟩ := k.inn i h1 h2
    obtain ⟨m, m1, m2, m3⟩ := h.inn j j1 j2
    exact ⟨m, m1, m2, j3.trans m3⟩⟩
theorem PS.widen {a b a' b' : Nat} {L M : List α} (h : PS a b L M) (ha : a' ≤ a) (hb : b ≤ b') : PS a' b' L M :=
  ⟨h.len, h.perm, fun i hi => h.out i (by omega), fun i h1 h2 => by
    by_cases hab : a ≤ i ∧ i < b
    · obtain ⟨j, j1, j2, j3⟩ := h.inn i hab.1 hab.2
      exact ⟨j, by omega, by omega, j3⟩
    · exact ⟨i, h1, h2, h.out i (by omega)⟩⟩
theorem PS.sw {a b i j : Nat} {L : List α} (hi : a ≤ i) (hi2 : i < b) (hj : a ≤ j) (hj2 : j < b) (hb : b ≤ L.length) : PS a b L (Idl.sw L i j) :=
  ⟨sw_length _ _ _, sw_perm (by omega) (by omega), fun k hk => by rw [gd_sw (by omega) (by omega), if_neg (by omega), if_neg (by omega)], fun k h1 h2 => by
    rw [gd_sw (by omega) (by omega)]
    split
    · exact ⟨i, hi, hi2, rfl⟩
    · split
      · exact ⟨j, hj, hj2, rfl⟩
      · exact ⟨k, h1, h2, rfl⟩⟩

/-- An order: who stands ahead. -/
structure OrdL (lt : α → α → Bool) : Prop where
  asym : ∀ x y, lt x y = true → lt y x = false
  trans : ∀ x y z, lt x y = false → lt y z = false → lt x z = false
omit [Inhabited α] in
theorem OrdL.irr {lt : α → α → Bool} (o : OrdL lt) (x : α) : lt x x = false := by
  cases h : lt x x with
  | false => rfl
  | true => rw [← h]; exact o.asym x x h
def SS (lt : α → α → Bool) (a b : Nat) (L : List α) : Prop := ∀ i j, a ≤ i → i < j → j < b → lt (gd L j) (gd L i) = false

variable {lt : α → α → Bool} (o : OrdL lt)

def InsI (lt : α → α → Bool) (a i j : Nat) (L : List α) : Prop := ∀ p q, a ≤ p → p < q → q ≤ i → q ≠ j → lt (gd L q) (gd L p) = false
theorem InsI.start {a i : Nat} {L : List α} (h : SS lt a i L) : InsI lt a i i L := fun p q h1 h2 h3 h4 => h p q h1 h2 (by omega)
theorem InsI.stop {a i : Nat} {L : List α} (h : InsI lt a i a L) : SS lt a (i + 1) L := fun p q h1 h2 h3 => h p q h1 h2 (by omega) (by omega)
include o in
theorem InsI.fits {a i j : Nat} {L : List α} (h : InsI lt a i j L) (hj : a < j) (hc : lt (gd L j) (gd L (j - 1)) = false) : SS lt a (i + 1) L := fun p q h1 h2 h3 => by
  by_cases hq : q = j
  · subst hq
    by_cases hp : p = q - 1
    · subst hp; exact hc
    · exact o.trans _ _ _ hc (h p (q - 1) h1 (by omega) (by omega) (by omega))
  · exact h p q h1 h2 (by omega) hq
include o in
theorem InsI.step {a i j : Nat} {L : List α} (h : InsI lt a i j L) (hj : a < j) (hji : j ≤ i) (hi : i < L.length) (hc : lt (gd L j) (gd L (j - 1)) = true) : InsI lt a i (j - 1) (sw L j (j - 1)) := fun p q h1 h2 h3 h4 => by
  rw [gd_sw (by omega) (by omega), gd_sw (by omega) (by omega), if_neg h4]
  by_cases hq : q = j
  · subst hq
    rw [if_pos rfl]
    by_cases hp : p = q - 1
    · rw [if_pos hp]; exact o.asym _ _ hc
    · rw [if_neg hp, if_neg (by omega)]; exact h p (q - 1) h1 (by omega) (by omega) (by omega)
  · rw [if_neg hq]
    by_cases hp : p = j - 1
    · rw [if_pos hp]; exact h j q (by omega) (by omega) h3 hq
    · rw [if_neg hp]
      by_cases hp2 : p = j
      · rw [if_pos hp2]; exact h (j - 1) q (by omega) (by omega) h3 hq
      · rw [if_neg hp2]; exact h p q h1 h2 h3 hq

theorem SS.join {a m b : Nat} {L : List α} (h1 : SS lt a m L) (h2 : SS lt m b L) (h3 : ∀ p q, a ≤ p → p < m → m ≤ q → q < b → lt (gd L q) (gd L p) = false) : SS lt a b L := fun p q k1 k2 k3 => by
  by_cases hp : p < m
  · by_cases hq : q < m
    · exact h1 p q k1 k2 hq
    · exact h3 p q k1 hp (by omega) k3
  · exact h2 p q (by omega) k2 k3
theorem SS.out {a b c d : Nat} {L M : List α} (h : SS lt a b L) (p : PS c d L M) (hd : d ≤ a ∨ b ≤ c) : SS lt a b M := fun i j h1 h2 h3 => by
  rw [p.out i (by omega), p.out j (by omega)]; exact h i j h1 h2 h3

omit [Inhabited α] in
theorem SS.unique (tot : ∀ x y, lt x y = false → lt y x = false → x = y) : ∀ {L M : List α}, L.Perm M → (L.Pairwise fun x y => lt y x = false) → (M.Pairwise fun x y => lt y x = false) → L = M := by
  intro L M hp h1 h2
  exact hp.eq_of_pairwise (le := fun x y => lt y x = false) (fun x y _ _ a b => tot x y b a) h1 h2
theorem SS.pairwise {L : List α} (h : SS lt 0 L.length L) : L.Pairwise fun x y => lt y x = false := by
  rw [List.pairwise_iff_getElem]
  intro i j hi hj hij
  have := h i j (Nat.zero_le _) hij hj
  rwa [gd_eq hi, gd_eq hj] at this

/-! ### A heap: no child above its parent -/
def HPx (lt : α → α → Bool) (f lo hi r : Nat) (L : List α) : Prop := ∀ p c, lo ≤ p → p ≠ r → (c = 2 * p + 1 ∨ c = 2 * p + 2) → c < hi → lt (gd L (f + p)) (gd L (f + c)) = false
def HP (lt : α → α → Bool) (f lo hi : Nat) (L : List α) : Prop := ∀ p c, lo ≤ p → (c = 2 * p + 1 ∨ c = 2 * p + 2) → c < hi → lt (gd L (f + p)) (gd L (f + c)) = false
def Dn (lt : α → α → Bool) (f lo hi r : Nat) (L : List α) : Prop := HPx lt f lo hi r L ∧ ∀ p c, lo ≤ p → (r = 2 * p + 1 ∨ r = 2 * p + 2) → (c = 2 * r + 1 ∨ c = 2 * r + 2) → c < hi → lt (gd L (f + p)) (gd L (f + c)) = false
theorem Dn.start {f lo hi : Nat} {L : List α} (h : HP lt f (lo + 1) hi L) : Dn lt f lo hi lo L :=
  ⟨fun p c h1 h2 h3 h4 => h p c (by omega) h3 h4, fun p c h1 h2 h3 h4 => by omega⟩
theorem Dn.leaf {f lo hi r : Nat} {L : List α} (h : Dn lt f lo hi r L) (hr : hi ≤ 2 * r + 1) : HP lt f lo hi L := fun p c h1 h2 h3 => by
  by_cases hp : p = r
  · subst hp; omega
  · exact h.1 p c h1 hp h2 h3
theorem Dn.stop {f lo hi r : Nat} {L : List α} (h : Dn lt f lo hi r L) (h1 : lt (gd L (f + r)) (gd L (f + (2 * r + 1))) = false) (h2 : 2 * r + 2 < hi → lt (gd L (f + r)) (gd L (f + (2 * r + 2))) = false) : HP lt f lo hi L := fun p c q1 q2 q3 => by
  by_cases hp : p = r
  · subst hp
    rcases q2 with rfl | rfl
    · exact h1
    · exact h2 q3
  · exact h.1 p c q1 hp q2 q3
include o in
theorem Dn.step {f lo hi r c : Nat} {L : List α} (h : Dn lt f lo hi r L) (hr : lo ≤ r) (hc : c = 2 * r + 1 ∨ c = 2 * r + 2) (hch : c < hi) (hl : f + hi ≤ L.length) (hlt : lt (gd L (f + r)) (gd L (f + c)) = true)
    (hmax : ∀ d, (d = 2 * r + 1 ∨ d = 2 * r + 2) → d < hi → lt (gd L (f + c)) (gd L (f + d)) = false) : Dn lt f lo hi c (sw L (f + r) (f + c)) := by
  have g : ∀ k, k < hi → gd (sw L (f + r) (f + c)) (f + k) = if k = c then gd L (f + r) else if k = r then gd L (f + c) else gd L (f + k) := fun k hk => by
    rw [gd_sw (by omega) (by omega)]
    by_cases h1 : k = c
    · subst h1; rw [if_pos rfl, if_pos rfl]
    · rw [if_neg (by omega), if_neg h1]
      by_cases h2 : k = r
      · subst h2; rw [if_pos rfl, if_pos rfl]
      · rw [if_neg (by omega), if_neg h2]
  refine ⟨fun p d h1 h2 h3 h4 => ?_, fun p d h1 h2 h3 h4 => ?_⟩
  · rw [g p (by omega), g d h4, if_neg h2]
    by_cases hp : p = r
    · subst hp
      rw [if_pos rfl]
      by_cases hd : d = c
      · rw [if_pos hd]; exact o.asym _ _ hlt
      · rw [if_neg hd, if_neg (by omega)]; exact hmax d h3 h4
    · rw [if_neg hp]
      by_cases hd : d = c
      · omega
      · rw [if_neg hd]
        by_cases hd2 : d = r
        · rw [if_pos hd2]; exact h.2 p c h1 (by omega) hc hch
        · rw [if_neg hd2]; exact h.1 p d h1 hp h3 h4
  · have hpr : p = r := by omega
    subst hpr
    rw [g p (by omega), g d h4, if_neg (by omega), if_pos rfl, if_neg (by omega), if_neg (by omega)]
    exact h.1 c d (by omega) (by omega) h3 h4
include o in
theorem HP.top {f hi : Nat} {L : List α} (h : HP lt f 0 hi L) : ∀ k, k < hi → lt (gd L f) (gd L (f + k)) = false := by
  intro k
  induction k using Nat.strongRecOn with
  | _ k ih =>
    intro hk
    rcases Nat.eq_zero_or_pos k with rfl | h0
    · exact o.irr _
    · have h1 := ih ((k - 1) / 2) (by omega) (by omega)
      exact o.trans _ _ _ h1 (h ((k - 1) / 2) k (Nat.zero_le _) (by omega) hk)

/-- Behind a partition: the lesser ones, the pivot, the others. -/
structure Part (lt : α → α → Bool) (a b m : Nat) (L : List α) : Prop where
  lo : a ≤ m
  hi : m < b
  less : ∀ p, a ≤ p → p < m → lt (gd L p) (gd L m) = true
  more : ∀ q, m < q → q < b → lt (gd L q) (gd L m) = false

/-- While it is parted: ahead of i are lesser ones, behind j others; the pivot stands at a. -/
structure PI (lt : α → α → Bool) (a b i j : Nat) (L M : List α) : Prop where
  ps : PS a b L M
  i0 : a + 1 ≤ i
  ij : i ≤ j + 1
  jb : j < b
  bl : b ≤ M.length
  less : ∀ p, a < p → p < i → lt (gd M p) (gd M a) = true
  more : ∀ q, j < q → q < b → lt (gd M q) (gd M a) = false
theorem PI.start {a b k : Nat} {L : List α} (ha : a ≤ k) (hk : k < b) (hb : b ≤ L.length) : PI lt a b (a + 1) (b - 1) L (sw L a k) :=
  ⟨.sw (by omega) (by omega) ha hk hb, by omega, by omega, by omega, by rw [sw_length]; exact hb, fun p h1 h2 => by omega, fun q h1 h2 => by omega⟩
theorem PI.incI {a b i j : Nat} {L M : List α} (h : PI lt a b i j L M) (hij : i ≤ j) (hc : lt (gd M i) (gd M a) = true) : PI lt a b (i + 1) j L M :=
  ⟨h.ps, by have := h.i0; omega, by omega, h.jb, h.bl, fun p h1 h2 => by
    by_cases e : p = i
    · subst e; exact hc
    · exact h.less p h1 (by omega), h.more⟩
theorem PI.decJ {a b i j : Nat} {L M : List α} (h : PI lt a b i j L M) (hij : i ≤ j) (hc : lt (gd M j) (gd M a) = false) : PI lt a b i (j - 1) L M :=
  ⟨h.ps, h.i0, by omega, by have := h.jb; omega, h.bl, h.less, fun q h1 h2 => by
    by_cases e : q = j
    · subst e; exact hc
    · exact h.more q (by omega) h2⟩
theorem PI.swap {a b i j : Nat} {L M : List α} (h : PI lt a b i j L M) (hij : i ≤ j) (hi : lt (gd M i) (gd M a) = false) (hj : lt (gd M j) (gd M a) = true) : i < j ∧ PI lt a b (i + 1) (j - 1) L (sw M i j) := by
  have hne : i ≠ j := by rintro rfl; rw [hi] at hj; cases hj
  have h0 := h.i0
  have hb := h.jb
  have hl := h.bl
  have ga : gd (sw M i j) a = gd M a := by rw [gd_sw (by omega) (by omega), if_neg (by omega), if_neg (by omega)]
  refine ⟨by omega, h.ps.trans (.sw (by omega) (by omega) (by omega) (by omega) hl), by omega, by omega, by omega, by rw [sw_length]; exact hl, fun p h1 h2 => ?_, fun q h1 h2 => ?_⟩
  · rw [ga, gd_sw (by omega) (by omega), if_neg (by omega)]
    by_cases e : p = i
    · rw [if_pos e]; exact hj
    · rw [if_neg e]; exact h.less p h1 (by omega)
  · rw [ga, gd_sw (by omega) (by omega)]
    by_cases e : q = j
    · rw [if_pos e]; exact hi
    · rw [if_neg e, if_neg (by omega)]; exact h.more q (by omega) h2
theorem PI.done {a b i j : Nat} {L M : List α} (h : PI lt a b i j L M) (hij : j < i) : PS a b L (sw M j a) ∧ Part lt a b j (sw M j a) := by
  have h0 := h.i0
  have h1 := h.ij
  have hb := h.jb
  have hl := h.bl
  have g : ∀ k, gd (sw M j a) k = if k = a then gd M j else if k = j then gd M a else gd M k := fun k => gd_sw (by omega) (by omega)
  have gj : gd (sw M j a) j = gd M a := by
    rw [g]
    by_cases e : j = a
    · rw [if_pos e, e]
    · rw [if_neg e, if_pos rfl]
  refine ⟨h.ps.trans (.sw (by omega) (by omega) (by omega) (by omega) hl), by omega, hb, fun p p1 p2 => ?_, fun q q1 q2 => ?_⟩
  · rw [gj, g]
    by_cases e : p = a
    · rw [if_pos e]; exact h.less j (by omega) (by omega)
    · rw [if_neg e, if_neg (by omega)]; exact h.less p (by omega) (by omega)
  · rw [gj, g, if_neg (by omega), if_neg (by omega)]; exact h.more q q1 q2

/-- While all from a0 up to b0 is sorted: what is left stands from a up to b; ahead of it, and behind, all is done. -/
structure QI (lt : α → α → Bool) (a0 b0 a b : Nat) (L M : List α) : Prop where
  ps : PS a0 b0 L M
  h1 : a0 ≤ a
  h2 : a ≤ b
  h3 : b ≤ b0
  bl : b0 ≤ M.length
  sl : SS lt a0 a M
  sr : SS lt b b0 M
  lo : ∀ p q, a0 ≤ p → p < a → a ≤ q → q < b0 → lt (gd M q) (gd M p) = false
  hi : ∀ p q, a ≤ p → p < b → b ≤ q → q < b0 → lt (gd M q) (gd M p) = false
theorem QI.start {a b : Nat} {L : List α} (h : a ≤ b) (hb : b ≤ L.length) : QI lt a b a b L L :=
  ⟨.refl _ _ _, Nat.le_refl _, h, Nat.le_refl _, hb, fun i j _ _ _ => by omega, fun i j _ _ _ => by omega, fun p q _ _ _ _ => by omega, fun p q _ _ _ _ => by omega⟩
theorem QI.perm {a0 b0 a b : Nat} {L M N : List α} (h : QI lt a0 b0 a b L M) (k : PS a b M N) : QI lt a0 b0 a b L N := by
  obtain ⟨ps, h1, h2, h3, bl, sl, sr, lo, hi⟩ := h
  refine ⟨ps.trans (k.widen h1 h3), h1, h2, h3, by rw [k.len]; exact bl, sl.out k (.inr (Nat.le_refl _)), sr.out k (.inl (Nat.le_refl _)), fun p q p1 p2 q1 q2 => ?_, fun p q p1 p2 q1 q2 => ?_⟩
  · rw [k.out p (.inl p2)]
    by_cases hq : q < b
    · obtain ⟨r, r1, r2, r3⟩ := k.inn q q1 hq
      rw [r3]; exact lo p r p1 p2 r1 (by omega)
    · rw [k.out q (.inr (by omega))]; exact lo p q p1 p2 q1 q2
  · rw [k.out q (.inr q1)]
    obtain ⟨r, r1, r2, r3⟩ := k.inn p p1 p2
    rw [r3]; exact hi r q r1 r2 q1 q2
theorem QI.done {a0 b0 a b : Nat} {L M : List α} (h : QI lt a0 b0 a b L M) (k : SS lt a b M) : SS lt a0 b0 M := by
  obtain ⟨ps, h1, h2, h3, bl, sl, sr, lo, hi⟩ := h
  exact sl.join (k.join sr fun p q p1 p2 q1 q2 => hi p q p1 p2 q1 q2) fun p q p1 p2 q1 q2 => lo p q p1 p2 q1 q2
include o in
theorem Part.cross {a b m : Nat} {M : List α} (h : Part lt a b m M) {p q : Nat} (p1 : a ≤ p) (p2 : p ≤ m) (q1 : m ≤ q) (q2 : q < b) : lt (gd M q) (gd M p) = false := by
  have e1 : lt (gd M q) (gd M m) = false := by
    rcases Nat.lt_or_ge m q with h1 | h1
    · exact h.more q h1 q2
    · obtain rfl : m = q := by omega
      exact o.irr _
  rcases Nat.lt_or_ge p m with h1 | h1
  · exact o.trans _ _ _ e1 (o.asym _ _ (h.less p p1 h1))
  · obtain rfl : p = m := by omega
    exact e1
theorem Part.left {a b m : Nat} {M N : List α} (h : Part lt a b m M) (k : PS a m M N) : Part lt a b m N :=
  ⟨h.lo, h.hi, fun p p1 p2 => by
    obtain ⟨r, r1, r2, r3⟩ := k.inn p p1 p2
    rw [r3, k.out m (.inr (Nat.le_refl _))]; exact h.less r r1 r2, fun q q1 q2 => by
    rw [k.out q (.inr (by omega)), k.out m (.inr (Nat.le_refl _))]; exact h.more q q1 q2⟩
theorem Part.right {a b m : Nat} {M N : List α} (h : Part lt a b m M) (k : PS (m + 1) b M N) : Part lt a b m N :=
  ⟨h.lo, h.hi, fun p p1 p2 => by
    rw [k.out p (.inl (by omega)), k.out m (.inl (by omega))]; exact h.less p p1 p2, fun q q1 q2 => by
    obtain ⟨r, r1, r2, r3⟩ := k.inn q (by omega) q2
    rw [r3, k.out m (.inl (by omega))]; exact h.more r (by omega) r2⟩
include o in
theorem QI.left {a0 b0 a b m : Nat} {L M : List α} (h : QI lt a0 b0 a b L M) (k : Part lt a b m M) (s : SS lt a m M) : QI lt a0 b0 (m + 1) b L M := by
  obtain ⟨ps, h1, h2, h3, bl, sl, sr, lo, hi⟩ := h
  have k1 := k.lo; have k2 := k.hi
  have s1 : SS lt a (m + 1) M := fun p q p1 p2 p3 => by
    by_cases hq : q = m
    · subst hq; exact k.cross o p1 (by omega) (Nat.le_refl _) k2
    · exact s p q p1 p2 (by omega)
  refine ⟨ps, by omega, by omega, h3, bl, sl.join s1 (fun p q p1 p2 q1 q2 => lo p q p1 p2 q1 (by omega)), sr, fun p q p1 p2 q1 q2 => ?_, fun p q p1 p2 q1 q2 => hi p q (by omega) p2 q1 q2⟩
  by_cases hp : p < a
  · exact lo p q p1 hp (by omega) q2
  · by_cases hq : q < b
    · exact k.cross o (by omega) (by omega) (by omega) hq
    · exact hi p q (by omega) (by omega) (by omega) q2
include o in
theorem QI.right {a0 b0 a b m : Nat} {L M : List α} (h : QI lt a0 b0 a b L M) (k : Part lt a b m M) (s : SS lt (m + 1) b M) : QI lt a0 b0 a m L M := by
  obtain ⟨ps, h1, h2, h3, bl, sl, sr, lo, hi⟩ := h
  have k1 := k.lo; have k2 := k.hi
  have s1 : SS lt m b M := fun p q p1 p2 p3 => by
    by_cases hp : p = m
    · subst hp; exact k.cross o k1 (Nat.le_refl _) (by omega) p3
    · exact s p q (by omega) p2 p3
  refine ⟨ps, h1, k1, by omega, bl, sl, s1.join sr (fun p q p1 p2 q1 q2 => hi p q (by omega) p2 q1 q2), lo, fun p q p1 p2 q1 q2 => ?_⟩
  by_cases hq : q < b
  · exact k.cross o p1 (by omega) q1 hq
  · exact hi p q p1 (by omega) (by omega) q2
include o in
theorem QI.like {a0 b0 a b m : Nat} {L M : List α} (h : QI lt a0 b0 a b L M) (ha : a ≤ m) (hm : m ≤ b) (x : α) (k1 : ∀ p, a ≤ p → p < m → lt (gd M p) x = false ∧ lt x (gd M p) = false) (k2 : ∀ q, m ≤ q → q < b → lt x (gd M q) = true) : QI lt a0 b0 m b L M := by
  obtain ⟨ps, h1, h2, h3, bl, sl, sr, lo, hi⟩ := h
  have s1 : SS lt a m M := fun p q p1 p2 p3 => o.trans _ _ _ (k1 q (by omega) p3).1 (k1 p p1 (by omega)).2
  refine ⟨ps, by omega, hm, h3, bl, sl.join s1 (fun p q p1 p2 q1 q2 => lo p q p1 p2 q1 (by omega)), sr, fun p q p1 p2 q1 q2 => ?_, fun p q p1 p2 q1 q2 => hi p q (by omega) p2 q1 q2⟩
  by_cases hp : p < a
  · exact lo p q p1 hp (by omega) q2
  · by_cases hq : q < b
    · exact o.trans _ _ _ (o.asym _ _ (k2 q q1 hq)) (k1 p (by omega) p2).2
    · exact hi p q (by omega) (by omega) (by omega) q2
/-- While a heap is taken away from above: k stand in it. -/
structure HS (lt : α → α → Bool) (a b k : Nat) (L M : List α) : Prop where
  ps : PS a b L M
  kb : a + k ≤ b
  bl : b ≤ M.length
  hp : HP lt a 0 k M
  ss : SS lt (a + k) b M
  cr : ∀ p q, a ≤ p → p < a + k → a + k ≤ q → q < b → lt (gd M q) (gd M p) = false
include o in
theorem HS.step {a b k : Nat} {L M : List α} (h : HS lt a b (k + 1) L M) : HP lt a 1 k (sw M a (a + k)) ∧ ∀ N, PS a (a + k) (sw M a (a + k)) N → HP lt a 0 k N → HS lt a b k L N := by
  obtain ⟨ps, kb, bl, hp, ss, cr⟩ := h
  have g : ∀ i, gd (sw M a (a + k)) i = if i = a + k then gd M a else if i = a then gd M (a + k) else gd M i := fun i => gd_sw (by omega) (by omega)
  have top := hp.top o
  refine ⟨fun p c h1 h2 h3 => ?_, fun N hN hH => ?_⟩
  · rw [g, g, if_neg (by omega), if_neg (by omega), if_neg (by omega), if_neg (by omega)]
    exact hp p c (by omega) h2 (by omega)
  · have lo : ∀ p, a ≤ p → p < a + k → ∃ r, r < k + 1 ∧ gd N p = gd M (a + r) := fun p h1 h2 => by
      obtain ⟨r, r1, r2, r3⟩ := hN.inn p h1 h2
      rw [r3, g]
      by_cases e : r = a + k
      · omega
      · rw [if_neg e]
        by_cases e2 : r = a
        · rw [if_pos e2]; exact ⟨k, by omega, rfl⟩
        · rw [if_neg e2]; exact ⟨r - a, by omega, by rw [show a + (r - a) = r by omega]⟩
    have hi : ∀ q, a + k ≤ q → gd N q = if q = a + k then gd M a else gd M q := fun q h1 => by
      rw [hN.out q (.inr h1), g]
      by_cases e : q = a + k
      · rw [if_pos e, if_pos e]
      · rw [if_neg e, if_neg e, if_neg (by omega)]
    refine ⟨(ps.trans (.sw (by omega) (by omega) (by omega) (by omega) bl)).trans (hN.widen (Nat.le_refl _) (by omega)), by omega, by rw [hN.len, sw_length]; exact bl, hH, fun p q h1 h2 h3 => ?_, fun p q h1 h2 h3 h4 => ?_⟩
    · rw [hi p h1, hi q (by omega), if_neg (show ¬ q = a + k by omega)]
      by_cases e : p = a + k
      · rw [if_pos e]; exact cr a q (Nat.le_refl _) (by omega) (by omega) h3
      · rw [if_neg e]; exact ss p q (by omega) h2 h3
    · obtain ⟨r, r1, r2⟩ := lo p h1 h2
      rw [r2, hi q h3]
      by_cases e : q = a + k
      · rw [if_pos e]; exact top r r1
      · rw [if_neg e]; exact cr (a + r) q (by omega) (by omega) (by omega) h4
end
end Go.Idl
