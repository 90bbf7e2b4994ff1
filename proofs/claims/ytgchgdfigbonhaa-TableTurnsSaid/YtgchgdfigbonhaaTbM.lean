/-
  A table: its ways, in plain Lean.
-/
import Derived.Test.YtgchgdfigbonhaaStM
import Derived.Test.YtgchgdfigbonhaaStrK
namespace Go.Proofs.Ytgchgdfigbonhaa
open Go Go.Idl
set_option linter.unusedSimpArgs false
set_option linter.unusedVariables false
set_option maxHeartbeats 4000000
structure Pl where
  key : List UInt8
  val : Int
  deriving DecidableEq
instance : Inhabited Pl := ⟨⟨[], 0⟩⟩
def plRc : Rc Pl := ⟨fun x => [.str x.key, .sc (.int .i64 x.val)], 2, fun _ => rfl⟩
def places (l : List Pl) : List IV := fl plRc l
section
variable {l a b : List Pl} {i n : Nat}
theorem places_length : (places l).length = l.length * 2 := fl_length plRc l
theorem places_drop : (places l).drop (n * 2) = places (l.drop n) := fl_drop plRc l n
theorem places_take : (places l).take (n * 2) = places (l.take n) := fl_take plRc l n
theorem places_app : places a ++ places b = places (a ++ b) := fl_app plRc a b
theorem places_one {v0 : List UInt8} {v1 : Int} : places [⟨v0, v1⟩] = [.sc (.string ⟨⟨v0⟩⟩), .sc (.int .i64 v1)] := rfl
theorem places_nil : places [] = [] := rfl
theorem places_snoc {v0 : List UInt8} {v1 : Int} : places a ++ [.sc (.string ⟨⟨v0⟩⟩), .sc (.int .i64 v1)] = places (a ++ [⟨v0, v1⟩]) := fl_app plRc a [⟨v0, v1⟩]
theorem places_part (h : i < l.length) : (places (l.drop i)).take 2 = [.sc (.string ⟨⟨(l.getD i default).key⟩⟩), .sc (.int .i64 (l.getD i default).val)] := by rw [← places_drop]; exact fl_part plRc h
theorem places_part0 (h : 0 < l.length) : (places l).take 2 = [.sc (.string ⟨⟨(l.getD 0 default).key⟩⟩), .sc (.int .i64 (l.getD 0 default).val)] := by have := places_part h; rwa [List.drop_zero] at this
theorem places_get0 (h : i < l.length) : (places l).getD (i * 2) .any = .sc (.string ⟨⟨(l.getD i default).key⟩⟩) := fl_get plRc (j := 0) h (by decide)
theorem places_set0 (h : i < l.length) {v : List UInt8} : (places l).set (i * 2) (.sc (.string ⟨⟨v⟩⟩)) = places (l.set i ⟨v, (l.getD i default).val⟩) := fl_set plRc h (j := 0) (by decide) _ _ rfl
theorem places_get1 (h : i < l.length) : (places l).getD (i * 2 + 1) .any = .sc (.int .i64 (l.getD i default).val) := fl_get plRc (j := 1) h (by decide)
theorem places_set1 (h : i < l.length) {v : Int} : (places l).set (i * 2 + 1) (.sc (.int .i64 v)) = places (l.set i ⟨(l.getD i default).key, v⟩) := fl_set plRc h (j := 1) (by decide) _ _ rfl
theorem places_splice (h : i < l.length) {v0 : List UInt8} {v1 : Int} : splice (places l) (i * 2) [.sc (.string ⟨⟨v0⟩⟩), .sc (.int .i64 v1)] = places (l.set i ⟨v0, v1⟩) := fl_splice plRc h ⟨v0, v1⟩
theorem places_zeros : zrep n [.sc (.string ⟨⟨[]⟩⟩), .sc (.int .i64 0)] = places (List.replicate n default) := fl_zeros plRc default n (by decide)
theorem places_closed : IV.closedL (places l) = true := fl_closed plRc (fun _ => rfl) l
theorem places_ones : IV.ones (places l) = true := fl_ones plRc (fun _ => rfl) l
theorem places_fresh : IV.freshL (places l) = true := fl_fresh plRc (fun _ => rfl) l
theorem places_relab : IV.relabL (places l) = places l := fl_relab plRc (fun _ => by simp [plRc, IV.relabL, IV.relab, IV.str]) l
theorem places_ren {σ : Nat → Option Nat} : IV.renL σ (places l) = places l := fl_ren plRc (fun _ => by simp [plRc, IV.renL, IV.ren, IV.str]) l
end
attribute [go_sem] places_length places_drop places_take places_app places_snoc places_part places_part0 places_get0 places_set0 places_get1 places_set1 places_zeros places_closed places_ones places_fresh places_relab places_ren
attribute [go_sem] places_splice
def hashStep (n : Int) (b : UInt8) : Int := IntKind.u64.wrap (ibits .xor .u64 n (b.toNat : Int) * 1099511628211)
def hashV (k : Ks) : Int := k.foldl hashStep 14695981039346656037
def hm (k : Ks) : Nat := (hashV k % 128).toNat
theorem hm_lt (k : Ks) : hm k < 128 := by unfold hm; omega
def ds (a b : Nat) : Nat := (b + 128 - a) % 128
def ky (l : List Pl) (i : Nat) : Ks := (gd l i).key
theorem ds_lt (a b : Nat) : ds a b < 128 := Nat.mod_lt _ (by decide)
theorem ds_inj {a p q : Nat} (ha : a < 128) (hp : p < 128) (hq : q < 128) (h : ds a p = ds a q) : p = q := by unfold ds at h; omega
/-- The way from the home of k to p is full of others. -/
def Way (l : List Pl) (k : Ks) (p : Nat) : Prop := ∀ q, q < 128 → ds (hm k) q < ds (hm k) p → ky l q ≠ [] ∧ ky l q ≠ k
def seekF (l : List Pl) (k : Ks) : Nat → Nat → Nat
  | 0, a => a
  | n + 1, a => if ky l a ≠ [] ∧ ky l a ≠ k then seekF l k n ((a + 1) % 128) else a
def seekV (l : List Pl) (k : Ks) : Nat := seekF l k 128 (hm k)
theorem seekF_way {l : List Pl} {k : Ks} {p : Nat} (hp : p < 128) (he : ky l p = [] ∨ ky l p = k) : ∀ (n j : Nat), j + n = 128 → (∀ q, q < 128 → ds (hm k) q < j → ky l q ≠ [] ∧ ky l q ≠ k) →
    seekF l k n ((hm k + j) % 128) < 128 ∧ (ky l (seekF l k n ((hm k + j) % 128)) = [] ∨ ky l (seekF l k n ((hm k + j) % 128)) = k) ∧ Way l k (seekF l k n ((hm k + j) % 128))
  | 0, j, hj, hw => by
    have := hw p hp (by have := ds_lt (hm k) p; omega)
    rcases he with h | h
    · exact absurd h this.1
    · exact absurd h this.2
  | n + 1, j, hj, hw => by
    have hh := hm_lt k
    unfold seekF
    by_cases h : ky l ((hm k + j) % 128) ≠ [] ∧ ky l ((hm k + j) % 128) ≠ k
    · rw [if_pos h, show ((hm k + j) % 128 + 1) % 128 = (hm k + (j + 1)) % 128 by omega]
      refine seekF_way hp he n (j + 1) (by omega) fun q hq hd => ?_
      by_cases e : ds (hm k) q = j
      · have : q = (hm k + j) % 128 := by unfold ds at e; omega
        rw [this]; exact h
      · exact hw q hq (by omega)
    · rw [if_neg h]
      refine ⟨Nat.mod_lt _ (by decide), ?_, fun q hq hd => hw q hq ?_⟩
      · by_cases h1 : ky l ((hm k + j) % 128) = []
        · exact .inl h1
        · exact .inr (Decidable.not_not.1 fun h2 => h ⟨h1, h2⟩)
      · unfold ds at hd ⊢; omega
theorem seek_way {l : List Pl} {k : Ks} {p : Nat} (hp : p < 128) (he : ky l p = [] ∨ ky l p = k) : seekV l k < 128 ∧ (ky l (seekV l k) = [] ∨ ky l (seekV l k) = k) ∧ Way l k (seekV l k) := by
  have := seekF_way hp he 128 0 (by omega) (fun q hq h => by omega)
  have hh := hm_lt k
  rw [show (hm k + 0) % 128 = hm k by omega] at this
  exact this
theorem seek_unique {l : List Pl} {k : Ks} {p : Nat} (hp : p < 128) (he : ky l p = [] ∨ ky l p = k) (hw : Way l k p) : seekV l k = p := by
  obtain ⟨h1, h2, h3⟩ := seek_way hp he
  rcases Nat.lt_trichotomy (ds (hm k) (seekV l k)) (ds (hm k) p) with h | h | h
  · have := hw _ h1 h
    rcases h2 with h2 | h2
    · exact absurd h2 this.1
    · exact absurd h2 this.2
  · exact ds_inj (hm_lt k) h1 hp h
  · have := h3 _ hp h
    rcases he with h2 | h2
    · exact absurd h2 this.1
    · exact absurd h2 this.2
theorem seek_lt (l : List Pl) (k : Ks) : seekV l k < 128 := by
  have : ∀ n a, a < 128 → seekF l k n a < 128 := by
    intro n
    induction n with
    | zero => intro a ha; exact ha
    | succ n ih =>
      intro a ha
      unfold seekF
      split
      · exact ih _ (Nat.mod_lt _ (by decide))
      · exact ha
  exact this 128 _ (hm_lt k)
/-! ### Setting a place -/
theorem gd_at {l : List Pl} {i : Nat} {x : Pl} (h : i < l.length) : gd (l.set i x) i = x := by
  rw [gd, List.getD_eq_getElem?_getD, List.getElem?_set_self h]; rfl
theorem gd_off {l : List Pl} {i j : Nat} {x : Pl} (h : i ≠ j) : gd (l.set i x) j = gd l j := by
  rw [gd, gd, List.getD_eq_getElem?_getD, List.getD_eq_getElem?_getD, List.getElem?_set_ne h]
theorem ky_at {l : List Pl} {i : Nat} {x : Pl} (h : i < l.length) : ky (l.set i x) i = x.key := by unfold ky; rw [gd_at h]
theorem ky_off {l : List Pl} {i j : Nat} {x : Pl} (h : i ≠ j) : ky (l.set i x) j = ky l j := by unfold ky; rw [gd_off h]
def held (l : List Pl) : Nat := (l.filter fun x => decide (x.key ≠ [])).length
theorem held_cons (a : Pl) (l : List Pl) : held (a :: l) = held l + if a.key ≠ [] then 1 else 0 := by
  unfold held
  by_cases h : a.key ≠ []
  · rw [List.filter_cons, if_pos (decide_eq_true h), if_pos h]; rfl
  · rw [List.filter_cons, if_neg (by simpa using h), if_neg h]; rfl
theorem held_set : ∀ {l : List Pl} {i : Nat} (x : Pl), i < l.length → held (l.set i x) + (if ky l i ≠ [] then 1 else 0) = held l + (if x.key ≠ [] then 1 else 0)
  | [], i, x, h => by simp at h
  | a :: l, 0, x, _ => by
    rw [List.set_cons_zero]
    show held (x :: l) + (if a.key ≠ [] then 1 else 0) = _
    rw [held_cons, held_cons]; omega
  | a :: l, i + 1, x, h => by
    have ih := held_set (l := l) (i := i) x (by simpa using h)
    have e : ky (a :: l) (i + 1) = ky l i := rfl
    rw [e, List.set_cons_succ, held_cons, held_cons]; omega
theorem held_le (l : List Pl) : held l ≤ l.length := List.length_filter_le _ _
theorem held_ex {l : List Pl} (h : held l < l.length) : ∃ p, p < l.length ∧ ky l p = [] := by
  apply Decidable.byContradiction
  intro hn
  have : ∀ x ∈ l, decide (x.key ≠ []) = true := fun x hx => by
    obtain ⟨i, hi, rfl⟩ := List.getElem_of_mem hx
    refine decide_eq_true fun e => hn ⟨i, hi, ?_⟩
    unfold ky; rw [gd_eq hi]; exact e
  have e : held l = l.length := by unfold held; rw [List.filter_eq_self.2 this]
  omega
/-! ### A table that may be -/
def keyOk (k : Ks) : Prop := 1 ≤ k.length ∧ k.length ≤ 16
instance (k : Ks) : Decidable (keyOk k) := by unfold keyOk; infer_instance
structure OkT (l : List Pl) : Prop where
  len : l.length = 128
  zero : ∀ p, p < 128 → ky l p = [] → (gd l p).val = 0
  key : ∀ p, p < 128 → ky l p ≠ [] → keyOk (ky l p)
  way : ∀ p, p < 128 → ky l p ≠ [] → Way l (ky l p) p
  few : held l ≤ 96
theorem keyOk_ne {k : Ks} (h : keyOk k) : k ≠ [] := fun e => by subst e; have := h.1; simp at this
theorem OkT.free {l : List Pl} (h : OkT l) : ∃ p, p < 128 ∧ ky l p = [] := by
  have := held_ex (l := l) (by have := h.few; have := h.len; omega)
  rwa [h.len] at this
theorem OkT.seek {l : List Pl} (h : OkT l) (k : Ks) : seekV l k < 128 ∧ (ky l (seekV l k) = [] ∨ ky l (seekV l k) = k) ∧ Way l k (seekV l k) := by
  obtain ⟨p, h1, h2⟩ := h.free
  exact seek_way h1 (.inl h2)
theorem OkT.at {l : List Pl} (h : OkT l) {p : Nat} (hp : p < 128) (hk : ky l p ≠ []) : seekV l (ky l p) = p := seek_unique hp (.inr rfl) (h.way p hp hk)
theorem OkT.inj {l : List Pl} (h : OkT l) {p q : Nat} (hp : p < 128) (hq : q < 128) (hk : ky l p ≠ []) (e : ky l p = ky l q) : p = q := by
  rw [← h.at hp hk, e, h.at hq (e ▸ hk)]
theorem OkT.mem {l : List Pl} (h : OkT l) {x : Pl} : x ∈ l ↔ ∃ p, p < 128 ∧ gd l p = x := by
  constructor
  · intro hx
    obtain ⟨i, hi, rfl⟩ := List.getElem_of_mem hx
    exact ⟨i, by rw [← h.len]; exact hi, gd_eq hi⟩
  · rintro ⟨p, hp, rfl⟩
    rw [gd_eq (by rw [h.len]; exact hp)]
    exact List.getElem_mem _
def getV (l : List Pl) (k : Ks) : Int × Bool := if k ≠ [] ∧ ky l (seekV l k) = k then ((gd l (seekV l k)).val, true) else (0, false)
theorem get_mem {l : List Pl} (h : OkT l) {k : Ks} {v : Int} (hk : k ≠ []) (hm : (⟨k, v⟩ : Pl) ∈ l) : getV l k = (v, true) := by
  obtain ⟨p, hp, e⟩ := h.mem.1 hm
  have ek : ky l p = k := by unfold ky; rw [e]
  have := h.at hp (by rw [ek]; exact hk)
  rw [ek] at this
  unfold getV
  rw [this, if_pos ⟨hk, ek⟩, e]
theorem get_non {l : List Pl} (h : OkT l) {k : Ks} (hn : ∀ x, x ∈ l → x.key ≠ k) : getV l k = (0, false) := by
  unfold getV
  rw [if_neg]
  rintro ⟨h1, h2⟩
  exact hn _ (h.mem.2 ⟨seekV l k, seek_lt l k, rfl⟩) h2
theorem get_or {l : List Pl} (h : OkT l) (k : Ks) (hk : k ≠ []) : (∃ v, (⟨k, v⟩ : Pl) ∈ l ∧ getV l k = (v, true)) ∨ ((∀ x, x ∈ l → x.key ≠ k) ∧ getV l k = (0, false)) := by
  by_cases hx : ∃ x, x ∈ l ∧ x.key = k
  · obtain ⟨⟨k', v⟩, hx, rfl⟩ := hx
    exact .inl ⟨v, hx, get_mem h hk hx⟩
  · have hn : ∀ x, x ∈ l → x.key ≠ k := fun x hx' he => hx ⟨x, hx', he⟩
    exact .inr ⟨hn, get_non h hn⟩
theorem get_nil (l : List Pl) : getV l [] = (0, false) := by unfold getV; rw [if_neg (fun h => h.1 rfl)]
theorem get_ext {l m : List Pl} (hl : OkT l) (hm : OkT m) {k : Ks} (h : ∀ v : Int, k ≠ [] → ((⟨k, v⟩ : Pl) ∈ l ↔ (⟨k, v⟩ : Pl) ∈ m)) : getV l k = getV m k := by
  by_cases hk : k = []
  · subst hk; rw [get_nil, get_nil]
  · rcases get_or hl k hk with ⟨v, h1, h2⟩ | ⟨h1, h2⟩
    · rw [h2, get_mem hm hk ((h v hk).1 h1)]
    · rw [h2, get_non hm]
      rintro ⟨k', v⟩ hx rfl
      exact h1 _ ((h v hk).2 hx) rfl
/-! ### Put -/
theorem put_ok {l : List Pl} (h : OkT l) {k : Ks} (v : Int) (hk : keyOk k) (hr : ky l (seekV l k) = k ∨ held l < 96) : OkT (l.set (seekV l k) ⟨k, v⟩) := by
  obtain ⟨h1, h2, h3⟩ := h.seek k
  have hlen := h.len
  have hne := keyOk_ne hk
  generalize seekV l k = s at h1 h2 h3 hr ⊢
  have hs : s < l.length := by omega
  refine ⟨by rw [List.length_set, hlen], fun p hp he => ?_, fun p hp he => ?_, fun p hp he => ?_, ?_⟩
  · by_cases e : s = p
    · subst e; rw [ky_at hs] at he; exact absurd he hne
    · rw [ky_off e] at he; rw [gd_off e]; exact h.zero p hp he
  · by_cases e : s = p
    · subst e; rw [ky_at hs]; exact hk
    · rw [ky_off e] at he ⊢; exact h.key p hp he
  · by_cases e : s = p
    · subst e
      rw [ky_at hs]
      intro q hq hd
      have hqs : s ≠ q := fun e => by subst e; omega
      rw [ky_off hqs]
      exact h3 q hq hd
    · rw [ky_off e] at he ⊢
      intro q hq hd
      by_cases eq : s = q
      · subst eq
        rw [ky_at hs]
        refine ⟨hne, fun e2 => ?_⟩
        have e2 : k = ky l p := e2
        have := h3 p hp
        -- k stands at p: its way is up to p
        have hw := h.way p hp he
        rw [← e2] at hw he hd
        have := seek_unique (l := l) (k := k) hp (.inr e2.symm) hw
        rcases h2 with h2 | h2
        · have := hw s h1 hd
          exact this.1 h2
        · have := hw s h1 hd
          exact this.2 h2
      · rw [ky_off eq]; exact h.way p hp he q hq hd
  · have := held_set (l := l) (i := s) ⟨k, v⟩ hs
    simp only at this
    rw [if_pos hne] at this
    have hf := h.few
    rcases hr with hr | hr
    · rw [if_pos (by rw [hr]; exact hne)] at this; omega
    · split at this <;> omega
theorem put_mem {l : List Pl} (h : OkT l) {k : Ks} (v : Int) (hk : k ≠ []) {x : Pl} (hx : x.key ≠ []) : x ∈ l.set (seekV l k) ⟨k, v⟩ ↔ x = ⟨k, v⟩ ∨ (x ∈ l ∧ x.key ≠ k) := by
  obtain ⟨h1, h2, h3⟩ := h.seek k
  have hlen := h.len
  have huniq : ∀ p, p < 128 → ky l p = k → p = seekV l k := fun p hp e => by rw [← h.at hp (by rw [e]; exact hk), e]
  generalize seekV l k = s at h1 h2 h3 huniq ⊢
  constructor
  · intro hm
    obtain ⟨i, hi, rfl⟩ := List.getElem_of_mem hm
    rw [List.length_set, hlen] at hi
    have e := gd_eq (l := l.set s ⟨k, v⟩) (i := i) (by rw [List.length_set, hlen]; exact hi)
    rw [← e] at hx ⊢
    by_cases es : s = i
    · subst es; rw [gd_at (by omega)]; exact .inl rfl
    · rw [gd_off es] at hx ⊢
      exact .inr ⟨h.mem.2 ⟨i, hi, rfl⟩, fun e2 => es (huniq i hi e2).symm⟩
  · rintro (rfl | ⟨hm, hne⟩)
    · exact List.mem_iff_getElem.2 ⟨s, by rw [List.length_set]; omega, by rw [List.getElem_set_self]⟩
    · obtain ⟨p, hp, rfl⟩ := h.mem.1 hm
      have hsp : s ≠ p := fun e => by
        subst e
        rcases h2 with h2 | h2
        · exact hx h2
        · exact hne h2
      exact List.mem_iff_getElem.2 ⟨p, by rw [List.length_set, hlen]; exact hp, by rw [List.getElem_set_ne hsp, ← gd_eq]⟩
end Go.Proofs.Ytgchgdfigbonhaa

namespace Go.Proofs.Ytgchgdfigbonhaa
open Go Go.Idl
set_option linter.unusedSimpArgs false
set_option linter.unusedVariables false
set_option maxHeartbeats 4000000
abbrev noPl : Pl := ⟨[], 0⟩
/-- One that stands behind is taken out, and laid anew. -/
def relay (t : List Pl) (a : Nat) : List Pl := (t.set a noPl).set (seekV (t.set a noPl) (ky t a)) (gd t a)
def delF : Nat → List Pl → Nat → List Pl
  | 0, t, _ => t
  | n + 1, t, a => if ky t a = [] then t else delF n (relay t a) ((a + 1) % 128)
theorem ds_zero {a p : Nat} (ha : a < 128) (hp : p < 128) : ds a p = 0 ↔ p = a := by unfold ds; omega
theorem ds_next {g a : Nat} (hg : g < 128) (ha : a < 128) (h : ds g a < 127) : ds g ((a + 1) % 128) = ds g a + 1 := by unfold ds at h ⊢; omega
theorem ds_between {g a p e : Nat} (hg : g < 128) (ha : a < 128) (hp : p < 128) (he : e < 128) (h1 : ds g a < ds g e) (h2 : ds a p < ds a e) : ds g p = ds g a + ds a p ∧ ds g p < ds g e := by
  unfold ds at h1 h2 ⊢; omega
theorem ds_path {h a p e : Nat} (hh : h < 128) (ha : a < 128) (hp : p < 128) (he : e < 128) (h1 : ds h a < ds h p) (h2 : ds h p < ds h e) : ds a p < ds a e := by
  unfold ds at h1 h2 ⊢; omega
/-- While it is laid anew: g was emptied, e is the next empty place behind it, a is whose turn it is. -/
structure DelI (l : List Pl) (g e : Nat) (t : List Pl) (a : Nat) : Prop where
  len : t.length = 128
  ha : a < 128
  h1 : 1 ≤ ds g a
  hae : ds g a ≤ ds g e
  free : ky t e = []
  zero : ∀ p, p < 128 → ky t p = [] → (gd t p).val = 0
  ok : ∀ p, p < 128 → ky t p ≠ [] → keyOk (ky t p)
  uniq : ∀ p q, p < 128 → q < 128 → ky t p ≠ [] → ky t p = ky t q → p = q
  held' : held t + 1 = held l
  mem : ∀ x : Pl, x.key ≠ [] → ((∃ p, p < 128 ∧ gd t p = x) ↔ (∃ p, p < 128 ∧ p ≠ g ∧ gd l p = x))
  todo : ∀ p, p < 128 → ds g a ≤ ds g p → ds g p < ds g e → ky t p ≠ []
  way : ∀ p, p < 128 → ky t p ≠ [] → ∀ q, q < 128 → ds (hm (ky t p)) q < ds (hm (ky t p)) p → ky t q ≠ ky t p ∧ (ky t q ≠ [] ∨ (ds g a ≤ ds g p ∧ ds g p < ds g e ∧ ds g q < ds g a))
theorem first_free {l : List Pl} (h : OkT l) {g : Nat} (hg : g < 128) (hk : ky l g ≠ []) : ∃ e, e < 128 ∧ ky l e = [] ∧ ∀ p, p < 128 → ds g p < ds g e → ky l p ≠ [] := by
  obtain ⟨p0, hp0, he0⟩ := h.free
  have key : ∀ n p, ds g p = n → p < 128 → ky l p = [] → ∃ e, e < 128 ∧ ky l e = [] ∧ ∀ p, p < 128 → ds g p < ds g e → ky l p ≠ [] := by
    intro n
    induction n using Nat.strongRecOn with
    | _ n ih =>
      intro p hn hp he
      by_cases hx : ∃ q, q < 128 ∧ ds g q < ds g p ∧ ky l q = []
      · obtain ⟨q, hq, hd, hqe⟩ := hx
        exact ih (ds g q) (by omega) q rfl hq hqe
      · exact ⟨p, hp, he, fun q hq hd hqe => hx ⟨q, hq, hd, hqe⟩⟩
  exact key _ p0 rfl hp0 he0
theorem DelI.start {l : List Pl} (h : OkT l) {g e : Nat} (hg : g < 128) (hk : ky l g ≠ []) (he : e < 128) (hfe : ky l e = []) (hff : ∀ p, p < 128 → ds g p < ds g e → ky l p ≠ []) : DelI l g e (l.set g noPl) ((g + 1) % 128) := by
  have hlen := h.len
  have hgl : g < l.length := by omega
  have hge : e ≠ g := fun x => by subst x; exact hk hfe
  have hd1 : 1 ≤ ds g e := by unfold ds; omega
  have hda : ds g ((g + 1) % 128) = 1 := by unfold ds; omega
  have hoff : ∀ p, ky (l.set g noPl) p ≠ [] → p ≠ g ∧ ky (l.set g noPl) p = ky l p := fun p hp => by
    by_cases x : g = p
    · subst x; rw [ky_at hgl] at hp; exact absurd rfl hp
    · exact ⟨fun y => x y.symm, ky_off x⟩
  refine ⟨by rw [List.length_set, hlen], Nat.mod_lt _ (by decide), by omega, by omega, by rw [ky_off (Ne.symm hge)]; exact hfe, fun p hp hz => ?_, fun p hp hz => ?_, fun p q hp hq hz heq => ?_, ?_, fun x hx => ?_, fun p hp h2 h3 => ?_, fun p hp hz q hq hd => ?_⟩
  · by_cases x : g = p
    · subst x; rw [gd_at hgl]
    · rw [ky_off x] at hz; rw [gd_off x]; exact h.zero p hp hz
  · obtain ⟨_, x⟩ := hoff p hz
    rw [x] at hz ⊢; exact h.key p hp hz
  · obtain ⟨_, x⟩ := hoff p hz
    obtain ⟨_, y⟩ := hoff q (heq ▸ hz)
    rw [x] at hz; rw [x, y] at heq
    exact h.inj hp hq hz heq
  · have := held_set (l := l) (i := g) noPl hgl
    rw [if_pos hk] at this
    simpa using this
  · constructor
    · rintro ⟨p, hp, rfl⟩
      obtain ⟨y, _⟩ := hoff p hx
      exact ⟨p, hp, y, (gd_off (Ne.symm y)).symm⟩
    · rintro ⟨p, hp, y, rfl⟩
      exact ⟨p, hp, gd_off (Ne.symm y)⟩
  · have : p ≠ g := fun x => by subst x; rw [(ds_zero hg hg).2 rfl] at h2; omega
    rw [ky_off (Ne.symm this)]
    exact hff p hp h3
  · obtain ⟨hpg, x⟩ := hoff p hz
    rw [x] at hz hd ⊢
    have hw := h.way p hp hz q hq hd
    by_cases y : g = q
    · subst y
      rw [ky_at hgl]
      refine ⟨fun z => hz z.symm, .inr ?_⟩
      have hpe : ds (hm (ky l p)) p < ds (hm (ky l p)) e := by
        have hne : p ≠ e := fun z => by subst z; exact hz hfe
        rcases Nat.lt_trichotomy (ds (hm (ky l p)) p) (ds (hm (ky l p)) e) with z | z | z
        · exact z
        · exact absurd (ds_inj (hm_lt _) hp he z) hne
        · exact absurd hfe (h.way p hp hz e he z).1
      have h5 := ds_path (hm_lt _) hg hp he hd hpe
      have hp0 : ds g p ≠ 0 := fun z => hpg ((ds_zero hg hp).1 z)
      have hg0 : ds g g = 0 := (ds_zero hg hg).2 rfl
      omega
    · rw [ky_off y]
      exact ⟨hw.2, .inl hw.1⟩
theorem DelI.done {l : List Pl} {g e : Nat} {t : List Pl} {a : Nat} (h : DelI l g e t a) (hl : OkT l) (hg : g < 128) (he : e < 128) (hka : ky t a = []) : a = e := by
  have := h.hae
  rcases Nat.lt_or_eq_of_le this with x | x
  · exact absurd hka (h.todo a h.ha (Nat.le_refl _) x)
  · exact ds_inj hg h.ha he x
theorem DelI.ok' {l : List Pl} {g e : Nat} {t : List Pl} (h : DelI l g e t e) (hl : OkT l) : OkT t := by
  refine ⟨h.len, h.zero, h.ok, fun p hp hz q hq hd => ?_, by have := h.held'; have := hl.few; omega⟩
  have := h.way p hp hz q hq hd
  refine ⟨?_, this.1⟩
  rcases this.2 with x | ⟨x, y, _⟩
  · exact x
  · omega
theorem DelI.step {l : List Pl} {g e : Nat} {t : List Pl} {a : Nat} (h : DelI l g e t a) (hg : g < 128) (he : e < 128) (hka : ky t a ≠ []) : DelI l g e (relay t a) ((a + 1) % 128) ∧ seekV (t.set a noPl) (ky t a) < 128 := by
  have hlen := h.len
  have ha := h.ha
  have hat : a < t.length := by omega
  have hane : a ≠ e := fun x => by subst x; exact hka h.free
  have hlt : ds g a < ds g e := by
    rcases Nat.lt_or_eq_of_le h.hae with x | x
    · exact x
    · exact absurd (ds_inj hg ha he x) hane
  have hnx := ds_next hg ha (by have := ds_lt g e; omega)
  have hseek := seek_way (l := t.set a noPl) (k := ky t a) ha (.inl (ky_at hat))
  unfold relay
  have hx : gd t a = ⟨ky t a, (gd t a).val⟩ := rfl
  generalize hk : ky t a = k at hka hseek hx ⊢
  generalize hsv : seekV (t.set a noPl) k = s at hseek ⊢
  obtain ⟨hs, hs2, hsw⟩ := hseek
  refine ⟨?_, hs⟩
  have hsl : s < (t.set a noPl).length := by rw [List.length_set]; omega
  -- nobody else has k
  have hnok : ∀ q, q < 128 → q ≠ a → ky t q ≠ k := fun q hq hqa x => hqa (h.uniq a q ha hq (by rw [hk]; exact hka) (by rw [hk, x])).symm
  have hs0 : ky (t.set a noPl) s = [] := by
    rcases hs2 with x | x
    · exact x
    · by_cases y : a = s
      · subst y; exact ky_at hat
      · rw [ky_off y] at x; exact absurd x (hnok s hs (Ne.symm y))
  -- s is not behind a, on the way of k
  have hsa : ds (hm k) s ≤ ds (hm k) a := by
    rcases Nat.lt_or_ge (ds (hm k) a) (ds (hm k) s) with x | x
    · exact absurd (ky_at hat) (hsw a ha x).1
    · exact x
  have hwa : ∀ q, q < 128 → ds (hm k) q < ds (hm k) a → ky t q ≠ k ∧ (ky t q ≠ [] ∨ (ds g a ≤ ds g a ∧ ds g a < ds g e ∧ ds g q < ds g a)) := fun q hq hd => by
    have := h.way a ha (by rw [hk]; exact hka) q hq (by rw [hk]; exact hd)
    rwa [hk] at this
  have hse : s ≠ e := fun x => by
    subst x
    rcases Nat.lt_or_eq_of_le hsa with y | y
    · rcases (hwa s hs y).2 with z | z
      · exact z h.free
      · omega
    · exact hane (ds_inj (hm_lt _) hs ha y).symm
  -- what stands where now
  have kS : ky ((t.set a noPl).set s (gd t a)) s = k := by rw [ky_at hsl]; exact hk
  have kA : s ≠ a → ky ((t.set a noPl).set s (gd t a)) a = [] := fun x => by rw [ky_off x, ky_at hat]
  have kO : ∀ q, q ≠ s → q ≠ a → gd ((t.set a noPl).set s (gd t a)) q = gd t q := fun q x y => by rw [gd_off (Ne.symm x), gd_off (Ne.symm y)]
  have kOk : ∀ q, q ≠ s → q ≠ a → ky ((t.set a noPl).set s (gd t a)) q = ky t q := fun q x y => by unfold ky; rw [kO q x y]
  have gS : gd ((t.set a noPl).set s (gd t a)) s = gd t a := gd_at hsl
  have hsk : ∀ q, q ≠ a → q = s → ky t q = [] := fun q x y => by subst y; rw [ky_off (Ne.symm x)] at hs0; exact hs0
  -- whoever is full now, and does not stand at s, was full, and stands as it stood
  have full : ∀ p, ky ((t.set a noPl).set s (gd t a)) p ≠ [] → p ≠ s → p ≠ a ∧ ky ((t.set a noPl).set s (gd t a)) p = ky t p := fun p hp hps => by
    by_cases x : p = a
    · subst x; exact absurd (kA (Ne.symm hps)) hp
    · exact ⟨x, kOk p hps x⟩
  generalize ht2 : (t.set a noPl).set s (gd t a) = t2 at kS kA kO kOk gS full
  have hlen2 : t2.length = 128 := by rw [← ht2, List.length_set, List.length_set, hlen]
  refine ⟨hlen2, Nat.mod_lt _ (by decide), by omega, by omega, ?_, fun p hp hz => ?_, fun p hp hz => ?_, fun p q hp hq hz heq => ?_, ?_, fun x hx => ?_, fun p hp h2 h3 => ?_, fun p hp hz q hq hd => ?_⟩
  · rw [kOk e (Ne.symm hse) (Ne.symm hane)]; exact h.free
  · by_cases x : p = s
    · subst x; rw [kS] at hz; exact absurd hz hka
    · by_cases y : p = a
      · subst y
        rw [← ht2, gd_off (Ne.symm x), gd_at hat]
      · rw [kOk p x y] at hz; rw [kO p x y]; exact h.zero p hp hz
  · by_cases x : p = s
    · subst x; rw [kS, ← hk]; exact h.ok a ha (by rw [hk]; exact hka)
    · obtain ⟨y, z⟩ := full p hz x
      rw [z] at hz ⊢; exact h.ok p hp hz
  · by_cases x : p = s
    · subst x
      by_cases y : q = p
      · exact y.symm
      · rw [kS] at heq
        have hzq : ky t2 q ≠ [] := by rw [← heq]; exact hka
        obtain ⟨z, w⟩ := full q hzq y
        rw [w] at heq
        exact absurd heq.symm (hnok q hq z)
    · obtain ⟨y, z⟩ := full p hz x
      by_cases w : q = s
      · subst w
        rw [kS, z] at heq
        exact absurd heq (hnok p hp y)
      · have hzq : ky t2 q ≠ [] := by rw [← heq]; exact hz
        obtain ⟨y2, z2⟩ := full q hzq w
        rw [z] at hz; rw [z, z2] at heq
        exact h.uniq p q hp hq hz heq
  · have e1 := held_set (l := t) (i := a) noPl hat
    have e2 := held_set (l := t.set a noPl) (i := s) (gd t a) hsl
    rw [hk, if_pos hka] at e1
    rw [hs0] at e2
    have e3 : (gd t a).key ≠ [] := by show ky t a ≠ []; rw [hk]; exact hka
    rw [if_pos e3] at e2
    have := h.held'
    rw [ht2] at e2
    simp at e1 e2
    omega
  · rw [← h.mem x hx]
    constructor
    · rintro ⟨p, hp, rfl⟩
      by_cases y : p = s
      · subst y; exact ⟨a, ha, gS.symm⟩
      · obtain ⟨z, _⟩ := full p hx y
        exact ⟨p, hp, (kO p y z).symm⟩
    · rintro ⟨p, hp, rfl⟩
      by_cases y : p = a
      · subst y; exact ⟨s, hs, gS⟩
      · have z : p ≠ s := fun z => hx (hsk p y z)
        exact ⟨p, hp, kO p z y⟩
  · have hpa : p ≠ a := fun x => by subst x; omega
    by_cases x : p = s
    · subst x; rw [kS]; exact hka
    · rw [kOk p x hpa]; exact h.todo p hp (by omega) h3
  · by_cases x : p = s
    · subst x
      rw [kS] at hd ⊢
      have := hsw q hq hd
      have hqp : q ≠ p := fun y => by subst y; omega
      by_cases y : q = a
      · subst y; exact absurd (ky_at hat) this.1
      · rw [kOk q hqp y]
        rw [ky_off (Ne.symm y)] at this
        exact ⟨this.2, .inl this.1⟩
    · obtain ⟨hpa, z⟩ := full p hz x
      rw [z] at hz hd ⊢
      have hw := h.way p hp hz q hq hd
      by_cases y : q = s
      · subst y
        rw [kS]
        exact ⟨fun w => hnok p hp hpa w.symm, .inl hka⟩
      · by_cases w : q = a
        · subst w
          rw [kA (Ne.symm y)]
          refine ⟨fun v => hz v.symm, .inr ?_⟩
          have hpe : ds (hm (ky t p)) p < ds (hm (ky t p)) e := by
            have hne : p ≠ e := fun v => by subst v; exact hz h.free
            rcases Nat.lt_trichotomy (ds (hm (ky t p)) p) (ds (hm (ky t p)) e) with v | v | v
            · exact v
            · exact absurd (ds_inj (hm_lt _) hp he v) hne
            · rcases (h.way p hp hz e he v).2 with u | u
              · exact absurd h.free u
              · omega
          have h5 := ds_path (hm_lt _) ha hp he hd hpe
          have h6 := ds_between hg ha hp he hlt h5
          have h7 : ds q p ≠ 0 := fun v => hpa ((ds_zero ha hp).1 v)
          omega
        · rw [kOk q y w]
          refine ⟨hw.1, hw.2.imp id fun ⟨u1, u2, u3⟩ => ⟨?_, u2, by omega⟩⟩
          have : ds g p ≠ ds g a := fun v => hpa (ds_inj hg hp ha v)
          omega
end Go.Proofs.Ytgchgdfigbonhaa

namespace Go.Proofs.Ytgchgdfigbonhaa
open Go Go.Idl
set_option linter.unusedSimpArgs false
set_option linter.unusedVariables false
set_option maxRecDepth 100000
set_option maxHeartbeats 4000000
theorem hash_lt (k : Ks) : 0 ≤ hashV k ∧ hashV k < 18446744073709551616 := by
  have step : ∀ n b, 0 ≤ hashStep n b ∧ hashStep n b < 18446744073709551616 := fun n b => by
    unfold hashStep
    simp only [IntKind.wrap, IntKind.bits, IntKind.signed]
    simp
    omega
  have : ∀ (k : Ks) (n : Int), (0 ≤ n ∧ n < 18446744073709551616) → 0 ≤ k.foldl hashStep n ∧ k.foldl hashStep n < 18446744073709551616 := by
    intro k
    induction k with
    | nil => intro n h; exact h
    | cons b k ih => intro n _; exact ih _ (step n b)
  exact this k _ (by decide)
theorem hash_take {k : Ks} {i : Nat} (h : i < k.length) : hashV (k.take (i + 1)) = hashStep (hashV (k.take i)) (k.getD i 0) := by
  unfold hashV
  rw [List.take_succ_eq_append_getElem h, List.foldl_append, List.getD_eq_getElem?_getD, List.getElem?_eq_getElem h]
  rfl
attribute [local irreducible] Go.Idl.IWP Go.Idl.IOps Go.Idl.Obl Go.Idl.OpG Go.Idl.thenI Go.Idl.inBlockI Go.Idl.LoopU Go.Idl.noGotoI Go.Idl.jumpI
attribute [local go_sem] List.length_set
theorem key_spec (k : Ks) : Idl.Spec Try.prog 13 [.sc (.string ⟨⟨k⟩⟩)] [] (Only (.sc (.bool (decide (keyOk k)))) []) := by
  by_cases h1 : 1 ≤ k.length
  · by_cases h2 : k.length ≤ 16
    · rw [show decide (keyOk k) = true from decide_eq_true ⟨h1, h2⟩]
      refine sB Try.func13 Try.ntmps13 ?_
      repeat' (first
        | refine IOps_nil ?_
        | refine oS ?_
        | refine IOps_s rfl rfl ?_
        | refine oT ?_
        | refine IOps_s0 rfl ?_
        | refine oZ ?_
        | refine oI ?_
        | refine thenI_n ?_
        | refine IWP_seq ?_
        | refine IWP_region ?_
        | refine IWP_ct rfl ?_
        | refine IWP_cf rfl ?_
        | refine IWP_skip ?_
        | refine IWP_ret ?_
        | refine IWP_block ?_
        | refine inB_n ?_
        | refine thenI_r ?_
        | refine thenI_e ?_
        | refine inB_r ?_
        | refine inB_hit ?_
        | refine inB_miss rfl ?_
        | refine IWP_exit ?_
        | refine IWP_scope ?_
        | refine IWP_label ?_
        | refine noG_n ?_
        | refine noG_r ?_
        | refine noG_e ?_
        | refine jmp_n ?_
        | refine jmp_r ?_
        | refine jmp_e ?_
        | refine jmp_g ?_
        | refine thenI_g ?_
        | refine inB_g ?_
        | refine IWP_goto ?_
        | refine Loop_n ?_
        | fail)
      exact pD [] ⟨rfl, rfl⟩
    · rw [show decide (keyOk k) = false from decide_eq_false fun h => h2 h.2]
      refine sB Try.func13 Try.ntmps13 ?_
      repeat' (first
        | refine IOps_nil ?_
        | refine oS ?_
        | refine IOps_s rfl rfl ?_
        | refine oT ?_
        | refine IOps_s0 rfl ?_
        | refine oZ ?_
        | refine oI ?_
        | refine thenI_n ?_
        | refine IWP_seq ?_
        | refine IWP_region ?_
        | refine IWP_ct rfl ?_
        | refine IWP_cf rfl ?_
        | refine IWP_skip ?_
        | refine IWP_ret ?_
        | refine IWP_block ?_
        | refine inB_n ?_
        | refine thenI_r ?_
        | refine thenI_e ?_
        | refine inB_r ?_
        | refine inB_hit ?_
        | refine inB_miss rfl ?_
        | refine IWP_exit ?_
        | refine IWP_scope ?_
        | refine IWP_label ?_
        | refine noG_n ?_
        | refine noG_r ?_
        | refine noG_e ?_
        | refine jmp_n ?_
        | refine jmp_r ?_
        | refine jmp_e ?_
        | refine jmp_g ?_
        | refine thenI_g ?_
        | refine inB_g ?_
        | refine IWP_goto ?_
        | refine Loop_n ?_
        | fail)
      exact pD [] ⟨rfl, rfl⟩
  · rw [show decide (keyOk k) = false from decide_eq_false fun h => h1 h.1]
    refine sB Try.func13 Try.ntmps13 ?_
    repeat' (first
      | refine IOps_nil ?_
      | refine oS ?_
      | refine IOps_s rfl rfl ?_
      | refine oT ?_
      | refine IOps_s0 rfl ?_
      | refine oZ ?_
      | refine oI ?_
      | refine thenI_n ?_
      | refine IWP_seq ?_
      | refine IWP_region ?_
      | refine IWP_ct rfl ?_
      | refine IWP_cf rfl ?_
      | refine IWP_skip ?_
      | refine IWP_ret ?_
      | refine IWP_block ?_
      | refine inB_n ?_
      | refine thenI_r ?_
      | refine thenI_e ?_
      | refine inB_r ?_
      | refine inB_hit ?_
      | refine inB_miss rfl ?_
      | refine IWP_exit ?_
      | refine IWP_scope ?_
      | refine IWP_label ?_
      | refine noG_n ?_
      | refine noG_r ?_
      | refine noG_e ?_
      | refine jmp_n ?_
      | refine jmp_r ?_
      | refine jmp_e ?_
      | refine jmp_g ?_
      | refine thenI_g ?_
      | refine inB_g ?_
      | refine IWP_goto ?_
      | refine Loop_n ?_
      | fail)
    exact pD [] ⟨rfl, rfl⟩
theorem hash_spec (k : Ks) (hk : k.length ≤ 1000000000) : Idl.Spec Try.prog 29 [.sc (.string ⟨⟨k⟩⟩)] [] (Only (.sc (.int .u64 (hashV k))) []) := by
  refine sB Try.func29 Try.ntmps29 ?_
  repeat' (first
    | refine IOps_nil ?_
    | refine oS ?_
    | refine IOps_s rfl rfl ?_
    | refine oT ?_
    | refine IOps_s0 rfl ?_
    | refine oZ ?_
    | refine oI ?_
    | refine thenI_n ?_
    | refine IWP_seq ?_
    | refine IWP_region ?_
    | refine IWP_ct rfl ?_
    | refine IWP_cf rfl ?_
    | refine IWP_skip ?_
    | refine IWP_ret ?_
    | refine IWP_block ?_
    | refine inB_n ?_
    | refine thenI_r ?_
    | refine thenI_e ?_
    | refine inB_r ?_
    | refine inB_hit ?_
    | refine inB_miss rfl ?_
    | refine IWP_exit ?_
    | refine IWP_scope ?_
    | refine IWP_label ?_
    | refine noG_n ?_
    | refine noG_r ?_
    | refine noG_e ?_
    | refine jmp_n ?_
    | refine jmp_r ?_
    | refine jmp_e ?_
    | refine jmp_g ?_
    | refine thenI_g ?_
    | refine inB_g ?_
    | refine IWP_goto ?_
    | refine Loop_n ?_
    | fail)
  refine IWP_loop (fun x : Int × Nat => ⟨19, [(0, .sc (.string ⟨⟨k⟩⟩)), (3, .sc (.int .u64 x.1)), (6, .i64 k.length), (7, .i64 x.2)], []⟩) (fun x => x.2 ≤ k.length ∧ x.1 = hashV (k.take x.2)) (fun x => k.length - x.2) (hashV [], 0) (lP []) ⟨Nat.zero_le _, rfl⟩ ?_
  rintro ⟨n, i⟩ ⟨hi, hn⟩
  simp only at hi hn ⊢
  have hlt := hash_lt (k.take i)
  rw [← hn] at hlt
  by_cases h : i < k.length
  · repeat' (first
      | refine IOps_nil ?_
      | refine oS ?_
      | refine IOps_s rfl rfl ?_
      | refine oT ?_
      | refine IOps_s0 rfl ?_
      | refine oZ ?_
      | refine oI ?_
      | refine thenI_n ?_
      | refine IWP_seq ?_
      | refine IWP_region ?_
      | refine IWP_ct rfl ?_
      | refine IWP_cf rfl ?_
      | refine IWP_skip ?_
      | refine IWP_ret ?_
      | refine IWP_block ?_
      | refine inB_n ?_
      | refine thenI_r ?_
      | refine thenI_e ?_
      | refine inB_r ?_
      | refine inB_hit ?_
      | refine inB_miss rfl ?_
      | refine IWP_exit ?_
      | refine IWP_scope ?_
      | refine IWP_label ?_
      | refine noG_n ?_
      | refine noG_r ?_
      | refine noG_e ?_
      | refine jmp_n ?_
      | refine jmp_r ?_
      | refine jmp_e ?_
      | refine jmp_g ?_
      | refine thenI_g ?_
      | refine inB_g ?_
      | refine IWP_goto ?_
      | refine Loop_n ?_
      | fail)
    exact ⟨(hashStep n (k.getD i 0), i + 1), ⟨h, by rw [hash_take h, ← hn]⟩, by simp only; omega, lP []⟩
  · obtain rfl : i = k.length := by omega
    rw [List.take_length] at hn
    repeat' (first
      | refine IOps_nil ?_
      | refine oS ?_
      | refine IOps_s rfl rfl ?_
      | refine oT ?_
      | refine IOps_s0 rfl ?_
      | refine oZ ?_
      | refine oI ?_
      | refine thenI_n ?_
      | refine IWP_seq ?_
      | refine IWP_region ?_
      | refine IWP_ct rfl ?_
      | refine IWP_cf rfl ?_
      | refine IWP_skip ?_
      | refine IWP_ret ?_
      | refine IWP_block ?_
      | refine inB_n ?_
      | refine thenI_r ?_
      | refine thenI_e ?_
      | refine inB_r ?_
      | refine inB_hit ?_
      | refine inB_miss rfl ?_
      | refine IWP_exit ?_
      | refine IWP_scope ?_
      | refine IWP_label ?_
      | refine noG_n ?_
      | refine noG_r ?_
      | refine noG_e ?_
      | refine jmp_n ?_
      | refine jmp_r ?_
      | refine jmp_e ?_
      | refine jmp_g ?_
      | refine thenI_g ?_
      | refine inB_g ?_
      | refine IWP_goto ?_
      | refine Loop_n ?_
      | fail)
    rw [← hn]
    exact pD [] ⟨rfl, rfl⟩
theorem home_spec (k : Ks) (hk : k.length ≤ 1000000000) : Idl.Spec Try.prog 26 [.sc (.string ⟨⟨k⟩⟩), .i64 128] [] (Only (.i64 (hm k)) []) := by
  have hh := hash_lt k
  refine sB Try.func26 Try.ntmps26 ?_
  repeat' (first
    | refine IOps_nil ?_
    | refine oS ?_
    | refine IOps_s rfl rfl ?_
    | refine oT ?_
    | refine IOps_s0 rfl ?_
    | refine oC (π := []) (hs := by first | exact hash_spec k hk | fail) (hx := ?_)
    | refine oZ ?_
    | refine oI ?_
    | refine thenI_n ?_
    | refine IWP_seq ?_
    | refine IWP_region ?_
    | refine IWP_ct rfl ?_
    | refine IWP_cf rfl ?_
    | refine IWP_skip ?_
    | refine IWP_ret ?_
    | refine IWP_block ?_
    | refine inB_n ?_
    | refine thenI_r ?_
    | refine thenI_e ?_
    | refine inB_r ?_
    | refine inB_hit ?_
    | refine inB_miss rfl ?_
    | refine IWP_exit ?_
    | refine IWP_scope ?_
    | refine IWP_label ?_
    | refine noG_n ?_
    | refine noG_r ?_
    | refine noG_e ?_
    | refine jmp_n ?_
    | refine jmp_r ?_
    | refine jmp_e ?_
    | refine jmp_g ?_
    | refine thenI_g ?_
    | refine inB_g ?_
    | refine IWP_goto ?_
    | refine Loop_n ?_
    | fail)
  refine pE [] ?_
  exact congrArg (fun z => IV.sc (Value.int .i64 z)) (by unfold hm; omega)
theorem tnext_spec (a : Nat) (ha : a < 128) : Idl.Spec Try.prog 24 [.i64 a] [] (Only (.i64 ((a + 1) % 128 : Nat)) []) := by
  refine sB Try.func24 Try.ntmps24 ?_
  repeat' (first
    | refine IOps_nil ?_
    | refine oS ?_
    | refine IOps_s rfl rfl ?_
    | refine oT ?_
    | refine IOps_s0 rfl ?_
    | refine oZ ?_
    | refine oI ?_
    | refine thenI_n ?_
    | refine IWP_seq ?_
    | refine IWP_region ?_
    | refine IWP_ct rfl ?_
    | refine IWP_cf rfl ?_
    | refine IWP_skip ?_
    | refine IWP_ret ?_
    | refine IWP_block ?_
    | refine inB_n ?_
    | refine thenI_r ?_
    | refine thenI_e ?_
    | refine inB_r ?_
    | refine inB_hit ?_
    | refine inB_miss rfl ?_
    | refine IWP_exit ?_
    | refine IWP_scope ?_
    | refine IWP_label ?_
    | refine noG_n ?_
    | refine noG_r ?_
    | refine noG_e ?_
    | refine jmp_n ?_
    | refine jmp_r ?_
    | refine jmp_e ?_
    | refine jmp_g ?_
    | refine thenI_g ?_
    | refine inB_g ?_
    | refine IWP_goto ?_
    | refine Loop_n ?_
    | fail)
  refine pE [] ?_
  exact congrArg (fun z => IV.sc (Value.int .i64 z)) (by first | rfl | omega | (split <;> omega) | (split <;> split <;> omega))
theorem splice_places (L : List Pl) : splice (places (List.replicate L.length default)) 0 (places L) = places L := by
  simp [splice, places_length]
attribute [local go_sem] splice_places
theorem tcopied_spec (l : List Pl) (hL : l.length ≤ 1000000) : Idl.Spec Try.prog 23 [.fz false (places l) l.length] []
    (Only (.sl 0 0 l.length l.length 2) [.arr true (places l)]) := by
  refine sB Try.func23 Try.ntmps23 ?_
  repeat' (first
    | refine IOps_nil ?_
    | refine oS ?_
    | refine IOps_s rfl rfl ?_
    | refine oT ?_
    | refine IOps_s0 rfl ?_
    | refine oZ ?_
    | refine oI ?_
    | refine thenI_n ?_
    | refine IWP_seq ?_
    | refine IWP_region ?_
    | refine IWP_ct rfl ?_
    | refine IWP_cf rfl ?_
    | refine IWP_skip ?_
    | refine IWP_ret ?_
    | refine IWP_block ?_
    | refine inB_n ?_
    | refine thenI_r ?_
    | refine thenI_e ?_
    | refine inB_r ?_
    | refine inB_hit ?_
    | refine inB_miss rfl ?_
    | refine IWP_exit ?_
    | refine IWP_scope ?_
    | refine IWP_label ?_
    | refine noG_n ?_
    | refine noG_r ?_
    | refine noG_e ?_
    | refine jmp_n ?_
    | refine jmp_r ?_
    | refine jmp_e ?_
    | refine jmp_g ?_
    | refine thenI_g ?_
    | refine inB_g ?_
    | refine IWP_goto ?_
    | refine Loop_n ?_
    | fail)
  exact pD [0] ⟨rfl, rfl⟩
theorem seek_fz (l : List Pl) (k : Ks) (hl : l.length = 128) (hk : k.length ≤ 1000000000) : Idl.Spec Try.prog 21 [.fz false (places l) l.length, .sc (.string ⟨⟨k⟩⟩)] [] (Only (.i64 (seekV l k)) []) := by
  have hhm := hm_lt k
  have hV : seekF l k 128 (hm k) = seekV l k := rfl
  generalize seekV l k = V at hV
  refine sB Try.func21 Try.ntmps21 ?_
  repeat' (first | refine IWP_seq ?_ | refine IWP_region ?_ | refine IOps_nil ?_ | refine oS ?_ | refine IOps_s rfl rfl ?_ | refine oI ?_ | refine thenI_n ?_ | fail)
  refine IWP_jumps 0 rfl (fun x : Nat × Nat => ⟨33, [(0, .fz false (places l) l.length), (1, .sc (.string ⟨⟨k⟩⟩)), (5, .i64 x.1), (6, .i64 x.2)], []⟩) (fun x => x.1 < 128 ∧ x.2 ≤ 128 ∧ seekF l k x.2 x.1 = V) (fun x => x.2) ?_ ?_
  · by_cases h0 : (l.getD (hm k) default).key = []
    · have e : hm k = V := by rw [← hV]; unfold seekF; rw [if_neg fun h => h.1 h0]
      repeat' (first
        | refine IOps_nil ?_
        | refine oS ?_
        | refine IOps_s rfl rfl ?_
        | refine oT ?_
        | refine IOps_s0 rfl ?_
        | refine oC (π := []) (hs := by first | exact home_spec k hk | fail) (hx := ?_)
        | refine oZ ?_
        | refine oI ?_
        | refine thenI_n ?_
        | refine IWP_seq ?_
        | refine IWP_region ?_
        | refine IWP_ct rfl ?_
        | refine IWP_cf rfl ?_
        | refine IWP_skip ?_
        | refine IWP_ret ?_
        | refine IWP_block ?_
        | refine inB_n ?_
        | refine thenI_r ?_
        | refine thenI_e ?_
        | refine inB_r ?_
        | refine inB_hit ?_
        | refine inB_miss rfl ?_
        | refine IWP_exit ?_
        | refine IWP_scope ?_
        | refine IWP_label ?_
        | refine noG_n ?_
        | refine noG_r ?_
        | refine noG_e ?_
        | refine jmp_n ?_
        | refine jmp_r ?_
        | refine jmp_e ?_
        | refine jmp_g ?_
        | refine thenI_g ?_
        | refine inB_g ?_
        | refine IWP_goto ?_
        | refine Loop_n ?_
        | fail)
      rw [← e]
      exact pD [] ⟨rfl, rfl⟩
    · by_cases h1 : (l.getD (hm k) default).key = k
      · have e : hm k = V := by rw [← hV]; unfold seekF; rw [if_neg fun h => h.2 h1]
        repeat' (first
          | refine IOps_nil ?_
          | refine oS ?_
          | refine IOps_s rfl rfl ?_
          | refine oT ?_
          | refine IOps_s0 rfl ?_
          | refine oC (π := []) (hs := by first | exact home_spec k hk | fail) (hx := ?_)
          | refine oZ ?_
          | refine oI ?_
          | refine thenI_n ?_
          | refine IWP_seq ?_
          | refine IWP_region ?_
          | refine IWP_ct rfl ?_
          | refine IWP_cf rfl ?_
          | refine IWP_skip ?_
          | refine IWP_ret ?_
          | refine IWP_block ?_
          | refine inB_n ?_
          | refine thenI_r ?_
          | refine thenI_e ?_
          | refine inB_r ?_
          | refine inB_hit ?_
          | refine inB_miss rfl ?_
          | refine IWP_exit ?_
          | refine IWP_scope ?_
          | refine IWP_label ?_
          | refine noG_n ?_
          | refine noG_r ?_
          | refine noG_e ?_
          | refine jmp_n ?_
          | refine jmp_r ?_
          | refine jmp_e ?_
          | refine jmp_g ?_
          | refine thenI_g ?_
          | refine inB_g ?_
          | refine IWP_goto ?_
          | refine Loop_n ?_
          | fail)
        rw [← e]
        exact pD [] ⟨rfl, rfl⟩
      · have e : seekF l k 127 ((hm k + 1) % 128) = V := by rw [← hV]; conv => rhs; unfold seekF; rw [if_pos ⟨h0, h1⟩]
        repeat' (first
          | refine IOps_nil ?_
          | refine oS ?_
          | refine IOps_s rfl rfl ?_
          | refine oT ?_
          | refine IOps_s0 rfl ?_
          | refine oC (π := []) (hs := by first | exact home_spec k hk | fail) (hx := ?_)
          | refine oC (π := []) (hs := by first | exact tnext_spec _ hhm | fail) (hx := ?_)
          | refine oZ ?_
          | refine oI ?_
          | refine thenI_n ?_
          | refine IWP_seq ?_
          | refine IWP_region ?_
          | refine IWP_ct rfl ?_
          | refine IWP_cf rfl ?_
          | refine IWP_skip ?_
          | refine IWP_ret ?_
          | refine IWP_block ?_
          | refine inB_n ?_
          | refine thenI_r ?_
          | refine thenI_e ?_
          | refine inB_r ?_
          | refine inB_hit ?_
          | refine inB_miss rfl ?_
          | refine IWP_exit ?_
          | refine IWP_scope ?_
          | refine IWP_label ?_
          | refine noG_n ?_
          | refine noG_r ?_
          | refine noG_e ?_
          | refine jmp_n ?_
          | refine jmp_r ?_
          | refine jmp_e ?_
          | refine jmp_g ?_
          | refine thenI_g ?_
          | refine inB_g ?_
          | refine IWP_goto ?_
          | refine Loop_n ?_
          | fail)
        exact ⟨((hm k + 1) % 128, 127), ⟨Nat.mod_lt _ (by decide), by simp only; omega, e⟩, lP []⟩
  · rintro ⟨a, n⟩ ⟨ha, hn, hV⟩
    simp only at ha hn hV ⊢
    cases n with
    | zero =>
      repeat' (first
        | refine IOps_nil ?_
        | refine oS ?_
        | refine IOps_s rfl rfl ?_
        | refine oT ?_
        | refine IOps_s0 rfl ?_
        | refine oZ ?_
        | refine oI ?_
        | refine thenI_n ?_
        | refine IWP_seq ?_
        | refine IWP_region ?_
        | refine IWP_ct rfl ?_
        | refine IWP_cf rfl ?_
        | refine IWP_skip ?_
        | refine IWP_ret ?_
        | refine IWP_block ?_
        | refine inB_n ?_
        | refine thenI_r ?_
        | refine thenI_e ?_
        | refine inB_r ?_
        | refine inB_hit ?_
        | refine inB_miss rfl ?_
        | refine IWP_exit ?_
        | refine IWP_scope ?_
        | refine IWP_label ?_
        | refine noG_n ?_
        | refine noG_r ?_
        | refine noG_e ?_
        | refine jmp_n ?_
        | refine jmp_r ?_
        | refine jmp_e ?_
        | refine jmp_g ?_
        | refine thenI_g ?_
        | refine inB_g ?_
        | refine IWP_goto ?_
        | refine Loop_n ?_
        | fail)
      rw [← show a = V from hV]
      exact pD [] ⟨rfl, rfl⟩
    | succ n =>
      by_cases h0 : (l.getD a default).key = []
      · have e : a = V := by rw [← hV]; unfold seekF; rw [if_neg fun h => h.1 h0]
        repeat' (first
          | refine IOps_nil ?_
          | refine oS ?_
          | refine IOps_s rfl rfl ?_
          | refine oT ?_
          | refine IOps_s0 rfl ?_
          | refine oZ ?_
          | refine oI ?_
          | refine thenI_n ?_
          | refine IWP_seq ?_
          | refine IWP_region ?_
          | refine IWP_ct rfl ?_
          | refine IWP_cf rfl ?_
          | refine IWP_skip ?_
          | refine IWP_ret ?_
          | refine IWP_block ?_
          | refine inB_n ?_
          | refine thenI_r ?_
          | refine thenI_e ?_
          | refine inB_r ?_
          | refine inB_hit ?_
          | refine inB_miss rfl ?_
          | refine IWP_exit ?_
          | refine IWP_scope ?_
          | refine IWP_label ?_
          | refine noG_n ?_
          | refine noG_r ?_
          | refine noG_e ?_
          | refine jmp_n ?_
          | refine jmp_r ?_
          | refine jmp_e ?_
          | refine jmp_g ?_
          | refine thenI_g ?_
          | refine inB_g ?_
          | refine IWP_goto ?_
          | refine Loop_n ?_
          | fail)
        rw [← e]
        exact pD [] ⟨rfl, rfl⟩
      · by_cases h1 : (l.getD a default).key = k
        · have e : a = V := by rw [← hV]; unfold seekF; rw [if_neg fun h => h.2 h1]
          repeat' (first
            | refine IOps_nil ?_
            | refine oS ?_
            | refine IOps_s rfl rfl ?_
            | refine oT ?_
            | refine IOps_s0 rfl ?_
            | refine oZ ?_
            | refine oI ?_
            | refine thenI_n ?_
            | refine IWP_seq ?_
            | refine IWP_region ?_
            | refine IWP_ct rfl ?_
            | refine IWP_cf rfl ?_
            | refine IWP_skip ?_
            | refine IWP_ret ?_
            | refine IWP_block ?_
            | refine inB_n ?_
            | refine thenI_r ?_
            | refine thenI_e ?_
            | refine inB_r ?_
            | refine inB_hit ?_
            | refine inB_miss rfl ?_
            | refine IWP_exit ?_
            | refine IWP_scope ?_
            | refine IWP_label ?_
            | refine noG_n ?_
            | refine noG_r ?_
            | refine noG_e ?_
            | refine jmp_n ?_
            | refine jmp_r ?_
            | refine jmp_e ?_
            | refine jmp_g ?_
            | refine thenI_g ?_
            | refine inB_g ?_
            | refine IWP_goto ?_
            | refine Loop_n ?_
            | fail)
          rw [← e]
          exact pD [] ⟨rfl, rfl⟩
        · have e : seekF l k n ((a + 1) % 128) = V := by rw [← hV]; conv => rhs; unfold seekF; rw [if_pos ⟨h0, h1⟩]
          repeat' (first
            | refine IOps_nil ?_
            | refine oS ?_
            | refine IOps_s rfl rfl ?_
            | refine oT ?_
            | refine IOps_s0 rfl ?_
            | refine oC (π := []) (hs := by first | exact tnext_spec _ ha | fail) (hx := ?_)
            | refine oZ ?_
            | refine oI ?_
            | refine thenI_n ?_
            | refine IWP_seq ?_
            | refine IWP_region ?_
            | refine IWP_ct rfl ?_
            | refine IWP_cf rfl ?_
            | refine IWP_skip ?_
            | refine IWP_ret ?_
            | refine IWP_block ?_
            | refine inB_n ?_
            | refine thenI_r ?_
            | refine thenI_e ?_
            | refine inB_r ?_
            | refine inB_hit ?_
            | refine inB_miss rfl ?_
            | refine IWP_exit ?_
            | refine IWP_scope ?_
            | refine IWP_label ?_
            | refine noG_n ?_
            | refine noG_r ?_
            | refine noG_e ?_
            | refine jmp_n ?_
            | refine jmp_r ?_
            | refine jmp_e ?_
            | refine jmp_g ?_
            | refine thenI_g ?_
            | refine inB_g ?_
            | refine IWP_goto ?_
            | refine Loop_n ?_
            | fail)
          exact ⟨((a + 1) % 128, n), ⟨Nat.mod_lt _ (by decide), by simp only; omega, e⟩, by simp only; omega, lP []⟩
theorem lost_fz (l : List Pl) (p : Nat) (hp : p < 128) (hl : l.length = 128) (hk : ((l.getD p default).key).length ≤ 1000000000) : Idl.Spec Try.prog 22 [.i64 p, .fp false [.fz false (places l) l.length] 0] []
    (Only (.sc (.bool (decide (seekV l (l.getD p default).key ≠ p)))) []) := by
  have hs := seek_fz l (l.getD p default).key hl hk
  by_cases h : seekV l (l.getD p default).key = p
  · rw [show decide (seekV l (l.getD p default).key ≠ p) = false from decide_eq_false fun x => x h]
    rw [h] at hs
    refine sB Try.func22 Try.ntmps22 ?_
    repeat' (first
      | refine IOps_nil ?_
      | refine oS ?_
      | refine IOps_s rfl rfl ?_
      | refine oT ?_
      | refine IOps_s0 rfl ?_
      | refine oC (π := []) (hs := by first | exact hs | fail) (hx := ?_)
      | refine oZ ?_
      | refine oI ?_
      | refine thenI_n ?_
      | refine IWP_seq ?_
      | refine IWP_region ?_
      | refine IWP_ct rfl ?_
      | refine IWP_cf rfl ?_
      | refine IWP_skip ?_
      | refine IWP_ret ?_
      | refine IWP_block ?_
      | refine inB_n ?_
      | refine thenI_r ?_
      | refine thenI_e ?_
      | refine inB_r ?_
      | refine inB_hit ?_
      | refine inB_miss rfl ?_
      | refine IWP_exit ?_
      | refine IWP_scope ?_
      | refine IWP_label ?_
      | refine noG_n ?_
      | refine noG_r ?_
      | refine noG_e ?_
      | refine jmp_n ?_
      | refine jmp_r ?_
      | refine jmp_e ?_
      | refine jmp_g ?_
      | refine thenI_g ?_
      | refine inB_g ?_
      | refine IWP_goto ?_
      | refine Loop_n ?_
      | refine oD (id := 1) W22_1 [] O22_1 [_, _, _, _, _, _, _, _, _, _] [_] rfl (by repeat' (first | exact trivial | refine And.intro ?_ ?_ | exact bS | exact bX | exact bZ | exact bI | exact bC (π := []) (hs := by first | exact hs | fail) | fail)) ?_
      | fail)
    exact pD [] ⟨rfl, rfl⟩
  · rw [show decide (seekV l (l.getD p default).key ≠ p) = true from decide_eq_true h]
    refine sB Try.func22 Try.ntmps22 ?_
    repeat' (first
      | refine IOps_nil ?_
      | refine oS ?_
      | refine IOps_s rfl rfl ?_
      | refine oT ?_
      | refine IOps_s0 rfl ?_
      | refine oC (π := []) (hs := by first | exact hs | fail) (hx := ?_)
      | refine oZ ?_
      | refine oI ?_
      | refine thenI_n ?_
      | refine IWP_seq ?_
      | refine IWP_region ?_
      | refine IWP_ct rfl ?_
      | refine IWP_cf rfl ?_
      | refine IWP_skip ?_
      | refine IWP_ret ?_
      | refine IWP_block ?_
      | refine inB_n ?_
      | refine thenI_r ?_
      | refine thenI_e ?_
      | refine inB_r ?_
      | refine inB_hit ?_
      | refine inB_miss rfl ?_
      | refine IWP_exit ?_
      | refine IWP_scope ?_
      | refine IWP_label ?_
      | refine noG_n ?_
      | refine noG_r ?_
      | refine noG_e ?_
      | refine jmp_n ?_
      | refine jmp_r ?_
      | refine jmp_e ?_
      | refine jmp_g ?_
      | refine thenI_g ?_
      | refine inB_g ?_
      | refine IWP_goto ?_
      | refine Loop_n ?_
      | refine oD (id := 1) W22_1 [] O22_1 [_, _, _, _, _, _, _, _, _, _] [_] rfl (by repeat' (first | exact trivial | refine And.intro ?_ ?_ | exact bS | exact bX | exact bZ | exact bI | exact bC (π := []) (hs := by first | exact hs | fail) | fail)) ?_
      | fail)
    exact pD [] ⟨rfl, rfl⟩
theorem seek_sl (l : List Pl) (k : Ks) (hl : l.length = 128) (hk : k.length ≤ 1000000000) : Idl.Spec Try.prog 21 [.sl 0 0 l.length l.length 2, .sc (.string ⟨⟨k⟩⟩)] [.arr false (places l)] (Only (.i64 (seekV l k)) [.arr false (places l)]) := by
  have hhm := hm_lt k
  have hV : seekF l k 128 (hm k) = seekV l k := rfl
  generalize seekV l k = V at hV
  refine sB Try.func21 Try.ntmps21 ?_
  repeat' (first | refine IWP_seq ?_ | refine IWP_region ?_ | refine IOps_nil ?_ | refine oS ?_ | refine IOps_s rfl rfl ?_ | refine oI ?_ | refine thenI_n ?_ | fail)
  refine IWP_jumps 0 rfl (fun x : Nat × Nat => ⟨33, [(0, .sl 0 0 l.length l.length 2), (1, .sc (.string ⟨⟨k⟩⟩)), (5, .i64 x.1), (6, .i64 x.2)], [.arr false (places l)]⟩) (fun x => x.1 < 128 ∧ x.2 ≤ 128 ∧ seekF l k x.2 x.1 = V) (fun x => x.2) ?_ ?_
  · by_cases h0 : (l.getD (hm k) default).key = []
    · have e : hm k = V := by rw [← hV]; unfold seekF; rw [if_neg fun h => h.1 h0]
      repeat' (first
        | refine IOps_nil ?_
        | refine oS ?_
        | refine IOps_s rfl rfl ?_
        | refine oT ?_
        | refine IOps_s0 rfl ?_
        | refine oC (π := []) (hs := by first | exact home_spec k hk | fail) (hx := ?_)
        | refine oZ ?_
        | refine oI ?_
        | refine thenI_n ?_
        | refine IWP_seq ?_
        | refine IWP_region ?_
        | refine IWP_ct rfl ?_
        | refine IWP_cf rfl ?_
        | refine IWP_skip ?_
        | refine IWP_ret ?_
        | refine IWP_block ?_
        | refine inB_n ?_
        | refine thenI_r ?_
        | refine thenI_e ?_
        | refine inB_r ?_
        | refine inB_hit ?_
        | refine inB_miss rfl ?_
        | refine IWP_exit ?_
        | refine IWP_scope ?_
        | refine IWP_label ?_
        | refine noG_n ?_
        | refine noG_r ?_
        | refine noG_e ?_
        | refine jmp_n ?_
        | refine jmp_r ?_
        | refine jmp_e ?_
        | refine jmp_g ?_
        | refine thenI_g ?_
        | refine inB_g ?_
        | refine IWP_goto ?_
        | refine Loop_n ?_
        | fail)
      rw [← e]
      exact pD [0] ⟨rfl, rfl⟩
    · by_cases h1 : (l.getD (hm k) default).key = k
      · have e : hm k = V := by rw [← hV]; unfold seekF; rw [if_neg fun h => h.2 h1]
        repeat' (first
          | refine IOps_nil ?_
          | refine oS ?_
          | refine IOps_s rfl rfl ?_
          | refine oT ?_
          | refine IOps_s0 rfl ?_
          | refine oC (π := []) (hs := by first | exact home_spec k hk | fail) (hx := ?_)
          | refine oZ ?_
          | refine oI ?_
          | refine thenI_n ?_
          | refine IWP_seq ?_
          | refine IWP_region ?_
          | refine IWP_ct rfl ?_
          | refine IWP_cf rfl ?_
          | refine IWP_skip ?_
          | refine IWP_ret ?_
          | refine IWP_block ?_
          | refine inB_n ?_
          | refine thenI_r ?_
          | refine thenI_e ?_
          | refine inB_r ?_
          | refine inB_hit ?_
          | refine inB_miss rfl ?_
          | refine IWP_exit ?_
          | refine IWP_scope ?_
          | refine IWP_label ?_
          | refine noG_n ?_
          | refine noG_r ?_
          | refine noG_e ?_
          | refine jmp_n ?_
          | refine jmp_r ?_
          | refine jmp_e ?_
          | refine jmp_g ?_
          | refine thenI_g ?_
          | refine inB_g ?_
          | refine IWP_goto ?_
          | refine Loop_n ?_
          | fail)
        rw [← e]
        exact pD [0] ⟨rfl, rfl⟩
      · have e : seekF l k 127 ((hm k + 1) % 128) = V := by rw [← hV]; conv => rhs; unfold seekF; rw [if_pos ⟨h0, h1⟩]
        repeat' (first
          | refine IOps_nil ?_
          | refine oS ?_
          | refine IOps_s rfl rfl ?_
          | refine oT ?_
          | refine IOps_s0 rfl ?_
          | refine oC (π := []) (hs := by first | exact home_spec k hk | fail) (hx := ?_)
          | refine oC (π := []) (hs := by first | exact tnext_spec _ hhm | fail) (hx := ?_)
          | refine oZ ?_
          | refine oI ?_
          | refine thenI_n ?_
          | refine IWP_seq ?_
          | refine IWP_region ?_
          | refine IWP_ct rfl ?_
          | refine IWP_cf rfl ?_
          | refine IWP_skip ?_
          | refine IWP_ret ?_
          | refine IWP_block ?_
          | refine inB_n ?_
          | refine thenI_r ?_
          | refine thenI_e ?_
          | refine inB_r ?_
          | refine inB_hit ?_
          | refine inB_miss rfl ?_
          | refine IWP_exit ?_
          | refine IWP_scope ?_
          | refine IWP_label ?_
          | refine noG_n ?_
          | refine noG_r ?_
          | refine noG_e ?_
          | refine jmp_n ?_
          | refine jmp_r ?_
          | refine jmp_e ?_
          | refine jmp_g ?_
          | refine thenI_g ?_
          | refine inB_g ?_
          | refine IWP_goto ?_
          | refine Loop_n ?_
          | fail)
        exact ⟨((hm k + 1) % 128, 127), ⟨Nat.mod_lt _ (by decide), by simp only; omega, e⟩, lP [0]⟩
  · rintro ⟨a, n⟩ ⟨ha, hn, hV⟩
    simp only at ha hn hV ⊢
    cases n with
    | zero =>
      repeat' (first
        | refine IOps_nil ?_
        | refine oS ?_
        | refine IOps_s rfl rfl ?_
        | refine oT ?_
        | refine IOps_s0 rfl ?_
        | refine oZ ?_
        | refine oI ?_
        | refine thenI_n ?_
        | refine IWP_seq ?_
        | refine IWP_region ?_
        | refine IWP_ct rfl ?_
        | refine IWP_cf rfl ?_
        | refine IWP_skip ?_
        | refine IWP_ret ?_
        | refine IWP_block ?_
        | refine inB_n ?_
        | refine thenI_r ?_
        | refine thenI_e ?_
        | refine inB_r ?_
        | refine inB_hit ?_
        | refine inB_miss rfl ?_
        | refine IWP_exit ?_
        | refine IWP_scope ?_
        | refine IWP_label ?_
        | refine noG_n ?_
        | refine noG_r ?_
        | refine noG_e ?_
        | refine jmp_n ?_
        | refine jmp_r ?_
        | refine jmp_e ?_
        | refine jmp_g ?_
        | refine thenI_g ?_
        | refine inB_g ?_
        | refine IWP_goto ?_
        | refine Loop_n ?_
        | fail)
      rw [← show a = V from hV]
      exact pD [0] ⟨rfl, rfl⟩
    | succ n =>
      by_cases h0 : (l.getD a default).key = []
      · have e : a = V := by rw [← hV]; unfold seekF; rw [if_neg fun h => h.1 h0]
        repeat' (first
          | refine IOps_nil ?_
          | refine oS ?_
          | refine IOps_s rfl rfl ?_
          | refine oT ?_
          | refine IOps_s0 rfl ?_
          | refine oZ ?_
          | refine oI ?_
          | refine thenI_n ?_
          | refine IWP_seq ?_
          | refine IWP_region ?_
          | refine IWP_ct rfl ?_
          | refine IWP_cf rfl ?_
          | refine IWP_skip ?_
          | refine IWP_ret ?_
          | refine IWP_block ?_
          | refine inB_n ?_
          | refine thenI_r ?_
          | refine thenI_e ?_
          | refine inB_r ?_
          | refine inB_hit ?_
          | refine inB_miss rfl ?_
          | refine IWP_exit ?_
          | refine IWP_scope ?_
          | refine IWP_label ?_
          | refine noG_n ?_
          | refine noG_r ?_
          | refine noG_e ?_
          | refine jmp_n ?_
          | refine jmp_r ?_
          | refine jmp_e ?_
          | refine jmp_g ?_
          | refine thenI_g ?_
          | refine inB_g ?_
          | refine IWP_goto ?_
          | refine Loop_n ?_
          | fail)
        rw [← e]
        exact pD [0] ⟨rfl, rfl⟩
      · by_cases h1 : (l.getD a default).key = k
        · have e : a = V := by rw [← hV]; unfold seekF; rw [if_neg fun h => h.2 h1]
          repeat' (first
            | refine IOps_nil ?_
            | refine oS ?_
            | refine IOps_s rfl rfl ?_
            | refine oT ?_
            | refine IOps_s0 rfl ?_
            | refine oZ ?_
            | refine oI ?_
            | refine thenI_n ?_
            | refine IWP_seq ?_
            | refine IWP_region ?_
            | refine IWP_ct rfl ?_
            | refine IWP_cf rfl ?_
            | refine IWP_skip ?_
            | refine IWP_ret ?_
            | refine IWP_block ?_
            | refine inB_n ?_
            | refine thenI_r ?_
            | refine thenI_e ?_
            | refine inB_r ?_
            | refine inB_hit ?_
            | refine inB_miss rfl ?_
            | refine IWP_exit ?_
            | refine IWP_scope ?_
            | refine IWP_label ?_
            | refine noG_n ?_
            | refine noG_r ?_
            | refine noG_e ?_
            | refine jmp_n ?_
            | refine jmp_r ?_
            | refine jmp_e ?_
            | refine jmp_g ?_
            | refine thenI_g ?_
            | refine inB_g ?_
            | refine IWP_goto ?_
            | refine Loop_n ?_
            | fail)
          rw [← e]
          exact pD [0] ⟨rfl, rfl⟩
        · have e : seekF l k n ((a + 1) % 128) = V := by rw [← hV]; conv => rhs; unfold seekF; rw [if_pos ⟨h0, h1⟩]
          repeat' (first
            | refine IOps_nil ?_
            | refine oS ?_
            | refine IOps_s rfl rfl ?_
            | refine oT ?_
            | refine IOps_s0 rfl ?_
            | refine oC (π := []) (hs := by first | exact tnext_spec _ ha | fail) (hx := ?_)
            | refine oZ ?_
            | refine oI ?_
            | refine thenI_n ?_
            | refine IWP_seq ?_
            | refine IWP_region ?_
            | refine IWP_ct rfl ?_
            | refine IWP_cf rfl ?_
            | refine IWP_skip ?_
            | refine IWP_ret ?_
            | refine IWP_block ?_
            | refine inB_n ?_
            | refine thenI_r ?_
            | refine thenI_e ?_
            | refine inB_r ?_
            | refine inB_hit ?_
            | refine inB_miss rfl ?_
            | refine IWP_exit ?_
            | refine IWP_scope ?_
            | refine IWP_label ?_
            | refine noG_n ?_
            | refine noG_r ?_
            | refine noG_e ?_
            | refine jmp_n ?_
            | refine jmp_r ?_
            | refine jmp_e ?_
            | refine jmp_g ?_
            | refine thenI_g ?_
            | refine inB_g ?_
            | refine IWP_goto ?_
            | refine Loop_n ?_
            | fail)
          exact ⟨((a + 1) % 128, n), ⟨Nat.mod_lt _ (by decide), by simp only; omega, e⟩, by simp only; omega, lP [0]⟩
theorem lost_sl (l : List Pl) (p : Nat) (hp : p < 128) (hl : l.length = 128) (hk : ((l.getD p default).key).length ≤ 1000000000) : Idl.Spec Try.prog 22 [.i64 p, .ptr 1 0] [.arr false (places l), .box [.sl 0 0 l.length l.length 2]]
    (Only (.sc (.bool (decide (seekV l (l.getD p default).key ≠ p)))) [.arr false (places l), .box [.sl 0 0 l.length l.length 2]]) := by
  have hs := seek_sl l (l.getD p default).key hl hk
  by_cases h : seekV l (l.getD p default).key = p
  · rw [show decide (seekV l (l.getD p default).key ≠ p) = false from decide_eq_false fun x => x h]
    rw [h] at hs
    refine sB Try.func22 Try.ntmps22 ?_
    repeat' (first
      | refine IOps_nil ?_
      | refine oS ?_
      | refine IOps_s rfl rfl ?_
      | refine oT ?_
      | refine IOps_s0 rfl ?_
      | refine oC (π := [0]) (hs := by first | exact hs | fail) (hx := ?_)
      | refine oC0 (π := [0]) (hs := by first | exact hs | fail) (hx := ?_)
      | refine oZ ?_
      | refine oI ?_
      | refine thenI_n ?_
      | refine IWP_seq ?_
      | refine IWP_region ?_
      | refine IWP_ct rfl ?_
      | refine IWP_cf rfl ?_
      | refine IWP_skip ?_
      | refine IWP_ret ?_
      | refine IWP_block ?_
      | refine inB_n ?_
      | refine thenI_r ?_
      | refine thenI_e ?_
      | refine inB_r ?_
      | refine inB_hit ?_
      | refine inB_miss rfl ?_
      | refine IWP_exit ?_
      | refine IWP_scope ?_
      | refine IWP_label ?_
      | refine noG_n ?_
      | refine noG_r ?_
      | refine noG_e ?_
      | refine jmp_n ?_
      | refine jmp_r ?_
      | refine jmp_e ?_
      | refine jmp_g ?_
      | refine thenI_g ?_
      | refine inB_g ?_
      | refine IWP_goto ?_
      | refine Loop_n ?_
      | refine oD (id := 1) W22_1 [] O22_1 [_, _, _, _, _, _, _, _, _, _] [_] rfl (by repeat' (first | exact trivial | refine And.intro ?_ ?_ | exact bS | exact bX | exact bZ | exact bI | exact bC (π := [0]) (hs := by first | exact hs | fail) | fail)) ?_
      | fail)
    exact pD [0, 1] ⟨rfl, rfl⟩
  · rw [show decide (seekV l (l.getD p default).key ≠ p) = true from decide_eq_true h]
    refine sB Try.func22 Try.ntmps22 ?_
    repeat' (first
      | refine IOps_nil ?_
      | refine oS ?_
      | refine IOps_s rfl rfl ?_
      | refine oT ?_
      | refine IOps_s0 rfl ?_
      | refine oC (π := [0]) (hs := by first | exact hs | fail) (hx := ?_)
      | refine oC0 (π := [0]) (hs := by first | exact hs | fail) (hx := ?_)
      | refine oZ ?_
      | refine oI ?_
      | refine thenI_n ?_
      | refine IWP_seq ?_
      | refine IWP_region ?_
      | refine IWP_ct rfl ?_
      | refine IWP_cf rfl ?_
      | refine IWP_skip ?_
      | refine IWP_ret ?_
      | refine IWP_block ?_
      | refine inB_n ?_
      | refine thenI_r ?_
      | refine thenI_e ?_
      | refine inB_r ?_
      | refine inB_hit ?_
      | refine inB_miss rfl ?_
      | refine IWP_exit ?_
      | refine IWP_scope ?_
      | refine IWP_label ?_
      | refine noG_n ?_
      | refine noG_r ?_
      | refine noG_e ?_
      | refine jmp_n ?_
      | refine jmp_r ?_
      | refine jmp_e ?_
      | refine jmp_g ?_
      | refine thenI_g ?_
      | refine inB_g ?_
      | refine IWP_goto ?_
      | refine Loop_n ?_
      | refine oD (id := 1) W22_1 [] O22_1 [_, _, _, _, _, _, _, _, _, _] [_] rfl (by repeat' (first | exact trivial | refine And.intro ?_ ?_ | exact bS | exact bX | exact bZ | exact bI | exact bC (π := [0]) (hs := by first | exact hs | fail) | fail)) ?_
      | fail)
    exact pD [0, 1] ⟨rfl, rfl⟩
end Go.Proofs.Ytgchgdfigbonhaa

namespace Go.Proofs.Ytgchgdfigbonhaa
open Go Go.Idl
set_option linter.unusedSimpArgs false
set_option linter.unusedVariables false
set_option maxRecDepth 100000
set_option maxHeartbeats 4000000
def pok (l : List Pl) (p : Nat) : Prop := ((gd l p).key = [] → (gd l p).val = 0) ∧ ((gd l p).key ≠ [] → keyOk (gd l p).key ∧ seekV l (gd l p).key = p)
instance (l : List Pl) (p : Nat) : Decidable (pok l p) := by unfold pok; infer_instance
def OkB (l : List Pl) : Prop := l.length = 128 ∧ (∀ p, p < 128 → pok l p) ∧ held l ≤ 96
instance (l : List Pl) : Decidable (OkB l) := by unfold OkB; infer_instance
def chkT (l : List Pl) : Bool := decide (OkB l)
theorem chkT_iff (l : List Pl) : chkT l = true ↔ OkT l := by
  unfold chkT
  rw [decide_eq_true_eq]
  constructor
  · rintro ⟨h1, h2, h3⟩
    exact ⟨h1, fun p hp hk => (h2 p hp).1 hk, fun p hp hk => ((h2 p hp).2 hk).1, fun p hp hk => by
      have e : seekV l (ky l p) = p := ((h2 p hp).2 hk).2
      have := (seek_way (l := l) (k := ky l p) hp (.inr rfl)).2.2
      rwa [e] at this, h3⟩
  · intro h
    exact ⟨h.len, fun p hp => ⟨h.zero p hp, fun hk => ⟨h.key p hp hk, h.at hp hk⟩⟩, h.few⟩
theorem held_take {l : List Pl} {i : Nat} (h : i < l.length) : held (l.take (i + 1)) = held (l.take i) + if (l.getD i default).key ≠ [] then 1 else 0 := by
  have e : l.take (i + 1) = l.take i ++ [gd l i] := by rw [gd_eq h]; exact List.take_succ_eq_append_getElem h
  rw [e]
  unfold held
  rw [List.filter_append, List.length_append]
  congr 1
  show (List.filter _ [l.getD i default]).length = _
  by_cases hk : (l.getD i default).key ≠ []
  · rw [if_pos hk, List.filter_cons_of_pos (by exact decide_eq_true hk)]; rfl
  · rw [if_neg hk, List.filter_cons_of_neg (by exact fun x => hk (of_decide_eq_true x))]; rfl
def keysOf (l : List Pl) : List Ks := (l.filter fun x => decide (x.key ≠ [])).map Pl.key
theorem keysOf_len (l : List Pl) : (keysOf l).length = held l := by unfold keysOf held; rw [List.length_map]
theorem keysOf_take {l : List Pl} {i : Nat} (h : i < l.length) : keysOf (l.take (i + 1)) = keysOf (l.take i) ++ if (l.getD i default).key ≠ [] then [(l.getD i default).key] else [] := by
  have e : l.take (i + 1) = l.take i ++ [gd l i] := by rw [gd_eq h]; exact List.take_succ_eq_append_getElem h
  rw [e]
  unfold keysOf
  rw [List.filter_append, List.map_append]
  congr 1
  show (List.filter _ [l.getD i default]).map Pl.key = _
  by_cases hk : (l.getD i default).key ≠ []
  · rw [if_pos hk, List.filter_cons_of_pos (by exact decide_eq_true hk)]; rfl
  · rw [if_neg hk, List.filter_cons_of_neg (by exact fun x => hk (of_decide_eq_true x))]; rfl
def leK (a b : Ks) : Bool := decide (¬ cS b a < 0)
def srtK (l : List Ks) : List Ks := l.mergeSort leK
theorem leK_trans (a b c : Ks) : leK a b = true → leK b c = true → leK a c = true := fun h k => by
  unfold leK at *
  have h := of_decide_eq_true h; have k := of_decide_eq_true k
  refine decide_eq_true fun e => ?_
  have := cS_ord.trans c b a (decide_eq_false k) (decide_eq_false h)
  rw [decide_eq_true e] at this; cases this
theorem leK_total (a b : Ks) : (leK a b || leK b a) = true := by
  unfold leK
  by_cases h : cS b a < 0
  · have := cS_ord.asym b a (decide_eq_true h)
    rw [decide_eq_true (of_decide_eq_false this), Bool.or_true]
  · rw [decide_eq_true h]; rfl
theorem srtK_perm (l : List Ks) : (srtK l).Perm l := List.mergeSort_perm l leK
theorem srtK_srt (l : List Ks) : (srtK l).Pairwise fun x y => ¬ cS y x < 0 := by
  have := List.pairwise_mergeSort (le := leK) leK_trans leK_total l
  exact this.imp fun h => of_decide_eq_true h
theorem cS_tot {x y : Ks} (h : ¬ cS x y < 0) (k : ¬ cS y x < 0) : x = y := by
  have h := fun e => h (cS_iff.2 e)
  have k := fun e => k (cS_iff.2 e)
  exact List.le_antisymm (List.not_lt.1 k) (List.not_lt.1 h)
theorem srtK_uniq {l m : List Ks} (h : m.Perm l) (hm : m.Pairwise fun x y => ¬ cS y x < 0) : m = srtK l :=
  SS.unique (lt := fun x y => decide (cS x y < 0)) (fun x y h1 h2 => cS_tot (of_decide_eq_false h1) (of_decide_eq_false h2)) (h.trans (srtK_perm l).symm) (hm.imp fun h => decide_eq_false h) ((srtK_srt l).imp fun h => decide_eq_false h)
def keysV (l : List Pl) : List Ks := if chkT l then srtK (keysOf l) else []
theorem relab_fz1 (l : List Pl) (n : Nat) : IV.relabL [.fz false (places l) n] = [.fz false (places l) n] := by simp [IV.relabL, IV.relab, places_relab]
attribute [local irreducible] Go.Idl.IWP Go.Idl.IOps Go.Idl.Obl Go.Idl.OpG Go.Idl.thenI Go.Idl.inBlockI Go.Idl.LoopU Go.Idl.noGotoI Go.Idl.jumpI
attribute [local go_sem] List.length_set splice splice_places relab_fz1
theorem tcheck_fz (l : List Pl) (hL : l.length ≤ 1000000) : Idl.Spec Try.prog 15 [.fz false (places l) l.length] [] (Only (.sc (.bool (chkT l))) []) := by
  by_cases hl : l.length = 128
  · refine sB Try.func15 Try.ntmps15 ?_
    repeat' (first
      | refine IOps_nil ?_
      | refine oS ?_
      | refine IOps_s rfl rfl ?_
      | refine oT ?_
      | refine IOps_s0 rfl ?_
      | refine oZ ?_
      | refine oI ?_
      | refine thenI_n ?_
      | refine IWP_seq ?_
      | refine IWP_region ?_
      | refine IWP_ct rfl ?_
      | refine IWP_cf rfl ?_
      | refine IWP_skip ?_
      | refine IWP_ret ?_
      | refine IWP_block ?_
      | refine inB_n ?_
      | refine thenI_r ?_
      | refine thenI_e ?_
      | refine inB_r ?_
      | refine inB_hit ?_
      | refine inB_miss rfl ?_
      | refine IWP_exit ?_
      | refine IWP_scope ?_
      | refine IWP_label ?_
      | refine noG_n ?_
      | refine noG_r ?_
      | refine noG_e ?_
      | refine jmp_n ?_
      | refine jmp_r ?_
      | refine jmp_e ?_
      | refine jmp_g ?_
      | refine thenI_g ?_
      | refine inB_g ?_
      | refine IWP_goto ?_
      | refine Loop_n ?_
      | fail)
    refine wC 1 3 ?_
    refine IWP_loop (fun x : Nat × Nat => ⟨38, [(1, .fp true [.fz false (places l) l.length] 0), (2, .sc (.bool false)), (3, .fn (.func 22) [] [.fp true [.fz false (places l) l.length] 0]), (4, .i64 x.1), (11, .fz false (places l) l.length), (12, .i64 l.length), (13, .i64 x.2)], []⟩) (fun x => x.2 ≤ 128 ∧ x.1 = held (l.take x.2) ∧ ∀ p, p < x.2 → pok l p) (fun x => 128 - x.2) (0, 0) (lP []) ⟨Nat.zero_le _, by simp [held], fun p hp => absurd hp (Nat.not_lt_zero p)⟩ ?_
    rintro ⟨n, i⟩ ⟨hi, hn, hok⟩
    simp only at hi hn hok ⊢
    have hnl : n ≤ i := by rw [hn]; exact Nat.le_trans (held_le _) (by rw [List.length_take]; omega)
    by_cases h : i < 128
    · have hno : ¬ pok l i → chkT l = false := fun x => decide_eq_false fun y => x (y.2.1 i h)
      have hht := held_take (l := l) (i := i) (by omega)
      by_cases hk : (l.getD i default).key = []
      · by_cases hv : (l.getD i default).val = 0
        · rw [if_neg (fun x => x hk), ← hn] at hht
          repeat' (first
            | refine IOps_nil ?_
            | refine oS ?_
            | refine IOps_s rfl rfl ?_
            | refine oT ?_
            | refine IOps_s0 rfl ?_
            | refine oZ ?_
            | refine oI ?_
            | refine thenI_n ?_
            | refine IWP_seq ?_
            | refine IWP_region ?_
            | refine IWP_ct rfl ?_
            | refine IWP_cf rfl ?_
            | refine IWP_skip ?_
            | refine IWP_ret ?_
            | refine IWP_block ?_
            | refine inB_n ?_
            | refine thenI_r ?_
            | refine thenI_e ?_
            | refine inB_r ?_
            | refine inB_hit ?_
            | refine inB_miss rfl ?_
            | refine IWP_exit ?_
            | refine IWP_scope ?_
            | refine IWP_label ?_
            | refine noG_n ?_
            | refine noG_r ?_
            | refine noG_e ?_
            | refine jmp_n ?_
            | refine jmp_r ?_
            | refine jmp_e ?_
            | refine jmp_g ?_
            | refine thenI_g ?_
            | refine inB_g ?_
            | refine IWP_goto ?_
            | refine Loop_n ?_
            | fail)
          exact ⟨(n, i + 1), ⟨h, hht.symm, fun p hp => by
            rcases Nat.lt_succ_iff_lt_or_eq.1 hp with x | rfl
            · exact hok p x
            · exact ⟨fun _ => hv, fun x => absurd hk x⟩⟩, by simp only; omega, lP []⟩
        · rw [hno fun x => hv (x.1 hk)]
          repeat' (first
            | refine IOps_nil ?_
            | refine oS ?_
            | refine IOps_s rfl rfl ?_
            | refine oT ?_
            | refine IOps_s0 rfl ?_
            | refine oZ ?_
            | refine oI ?_
            | refine thenI_n ?_
            | refine IWP_seq ?_
            | refine IWP_region ?_
            | refine IWP_ct rfl ?_
            | refine IWP_cf rfl ?_
            | refine IWP_skip ?_
            | refine IWP_ret ?_
            | refine IWP_block ?_
            | refine inB_n ?_
            | refine thenI_r ?_
            | refine thenI_e ?_
            | refine inB_r ?_
            | refine inB_hit ?_
            | refine inB_miss rfl ?_
            | refine IWP_exit ?_
            | refine IWP_scope ?_
            | refine IWP_label ?_
            | refine noG_n ?_
            | refine noG_r ?_
            | refine noG_e ?_
            | refine jmp_n ?_
            | refine jmp_r ?_
            | refine jmp_e ?_
            | refine jmp_g ?_
            | refine thenI_g ?_
            | refine inB_g ?_
            | refine IWP_goto ?_
            | refine Loop_n ?_
            | fail)
          exact pD [] ⟨rfl, rfl⟩
      · rw [if_pos hk, ← hn] at hht
        have hks := key_spec (l.getD i default).key
        by_cases hko : keyOk (l.getD i default).key
        · rw [decide_eq_true hko] at hks
          have hls := lost_fz l i h hl (by have := hko.2; omega)
          by_cases hse : seekV l (l.getD i default).key = i
          · rw [decide_eq_false (fun x => x hse)] at hls
            repeat' (first
              | refine IOps_nil ?_
              | refine oS ?_
              | refine IOps_s rfl rfl ?_
              | refine oT ?_
              | refine IOps_s0 rfl ?_
              | refine oC (π := []) (hs := by first | exact hks | fail) (hx := ?_)
              | refine oC (π := []) (hs := by first | exact hls | fail) (hx := ?_)
              | refine oZ ?_
              | refine oI ?_
              | refine thenI_n ?_
              | refine IWP_seq ?_
              | refine IWP_region ?_
              | refine IWP_ct rfl ?_
              | refine IWP_cf rfl ?_
              | refine IWP_skip ?_
              | refine IWP_ret ?_
              | refine IWP_block ?_
              | refine inB_n ?_
              | refine thenI_r ?_
              | refine thenI_e ?_
              | refine inB_r ?_
              | refine inB_hit ?_
              | refine inB_miss rfl ?_
              | refine IWP_exit ?_
              | refine IWP_scope ?_
              | refine IWP_label ?_
              | refine noG_n ?_
              | refine noG_r ?_
              | refine noG_e ?_
              | refine jmp_n ?_
              | refine jmp_r ?_
              | refine jmp_e ?_
              | refine jmp_g ?_
              | refine thenI_g ?_
              | refine inB_g ?_
              | refine IWP_goto ?_
              | refine Loop_n ?_
              | fail)
            exact ⟨(n + 1, i + 1), ⟨h, hht.symm, fun p hp => by
              rcases Nat.lt_succ_iff_lt_or_eq.1 hp with x | rfl
              · exact hok p x
              · exact ⟨fun x => absurd x hk, fun _ => ⟨hko, hse⟩⟩⟩, by simp only; omega, lP []⟩
          · rw [decide_eq_true hse] at hls
            rw [hno fun x => hse (x.2 hk).2]
            repeat' (first
              | refine IOps_nil ?_
              | refine oS ?_
              | refine IOps_s rfl rfl ?_
              | refine oT ?_
              | refine IOps_s0 rfl ?_
              | refine oC (π := []) (hs := by first | exact hks | fail) (hx := ?_)
              | refine oC (π := []) (hs := by first | exact hls | fail) (hx := ?_)
              | refine oZ ?_
              | refine oI ?_
              | refine thenI_n ?_
              | refine IWP_seq ?_
              | refine IWP_region ?_
              | refine IWP_ct rfl ?_
              | refine IWP_cf rfl ?_
              | refine IWP_skip ?_
              | refine IWP_ret ?_
              | refine IWP_block ?_
              | refine inB_n ?_
              | refine thenI_r ?_
              | refine thenI_e ?_
              | refine inB_r ?_
              | refine inB_hit ?_
              | refine inB_miss rfl ?_
              | refine IWP_exit ?_
              | refine IWP_scope ?_
              | refine IWP_label ?_
              | refine noG_n ?_
              | refine noG_r ?_
              | refine noG_e ?_
              | refine jmp_n ?_
              | refine jmp_r ?_
              | refine jmp_e ?_
              | refine jmp_g ?_
              | refine thenI_g ?_
              | refine inB_g ?_
              | refine IWP_goto ?_
              | refine Loop_n ?_
              | fail)
            exact pD [] ⟨rfl, rfl⟩
        · rw [decide_eq_false hko] at hks
          rw [hno fun x => hko (x.2 hk).1]
          repeat' (first
            | refine IOps_nil ?_
            | refine oS ?_
            | refine IOps_s rfl rfl ?_
            | refine oT ?_
            | refine IOps_s0 rfl ?_
            | refine oC (π := []) (hs := by first | exact hks | fail) (hx := ?_)
            | refine oZ ?_
            | refine oI ?_
            | refine thenI_n ?_
            | refine IWP_seq ?_
            | refine IWP_region ?_
            | refine IWP_ct rfl ?_
            | refine IWP_cf rfl ?_
            | refine IWP_skip ?_
            | refine IWP_ret ?_
            | refine IWP_block ?_
            | refine inB_n ?_
            | refine thenI_r ?_
            | refine thenI_e ?_
            | refine inB_r ?_
            | refine inB_hit ?_
            | refine inB_miss rfl ?_
            | refine IWP_exit ?_
            | refine IWP_scope ?_
            | refine IWP_label ?_
            | refine noG_n ?_
            | refine noG_r ?_
            | refine noG_e ?_
            | refine jmp_n ?_
            | refine jmp_r ?_
            | refine jmp_e ?_
            | refine jmp_g ?_
            | refine thenI_g ?_
            | refine inB_g ?_
            | refine IWP_goto ?_
            | refine Loop_n ?_
            | fail)
          exact pD [] ⟨rfl, rfl⟩
    · obtain rfl : i = 128 := by omega
      rw [List.take_of_length_le (by omega)] at hn
      by_cases hf : n ≤ 96
      · rw [show chkT l = true from decide_eq_true ⟨hl, hok, by omega⟩]
        repeat' (first
          | refine IOps_nil ?_
          | refine oS ?_
          | refine IOps_s rfl rfl ?_
          | refine oT ?_
          | refine IOps_s0 rfl ?_
          | refine oZ ?_
          | refine oI ?_
          | refine thenI_n ?_
          | refine IWP_seq ?_
          | refine IWP_region ?_
          | refine IWP_ct rfl ?_
          | refine IWP_cf rfl ?_
          | refine IWP_skip ?_
          | refine IWP_ret ?_
          | refine IWP_block ?_
          | refine inB_n ?_
          | refine thenI_r ?_
          | refine thenI_e ?_
          | refine inB_r ?_
          | refine inB_hit ?_
          | refine inB_miss rfl ?_
          | refine IWP_exit ?_
          | refine IWP_scope ?_
          | refine IWP_label ?_
          | refine noG_n ?_
          | refine noG_r ?_
          | refine noG_e ?_
          | refine jmp_n ?_
          | refine jmp_r ?_
          | refine jmp_e ?_
          | refine jmp_g ?_
          | refine thenI_g ?_
          | refine inB_g ?_
          | refine IWP_goto ?_
          | refine Loop_n ?_
          | fail)
        exact pD [] ⟨rfl, rfl⟩
      · rw [show chkT l = false from decide_eq_false fun x => hf (by have := x.2.2; omega)]
        repeat' (first
          | refine IOps_nil ?_
          | refine oS ?_
          | refine IOps_s rfl rfl ?_
          | refine oT ?_
          | refine IOps_s0 rfl ?_
          | refine oZ ?_
          | refine oI ?_
          | refine thenI_n ?_
          | refine IWP_seq ?_
          | refine IWP_region ?_
          | refine IWP_ct rfl ?_
          | refine IWP_cf rfl ?_
          | refine IWP_skip ?_
          | refine IWP_ret ?_
          | refine IWP_block ?_
          | refine inB_n ?_
          | refine thenI_r ?_
          | refine thenI_e ?_
          | refine inB_r ?_
          | refine inB_hit ?_
          | refine inB_miss rfl ?_
          | refine IWP_exit ?_
          | refine IWP_scope ?_
          | refine IWP_label ?_
          | refine noG_n ?_
          | refine noG_r ?_
          | refine noG_e ?_
          | refine jmp_n ?_
          | refine jmp_r ?_
          | refine jmp_e ?_
          | refine jmp_g ?_
          | refine thenI_g ?_
          | refine inB_g ?_
          | refine IWP_goto ?_
          | refine Loop_n ?_
          | fail)
        exact pD [] ⟨rfl, rfl⟩
  · rw [show chkT l = false from decide_eq_false fun x => hl x.1]
    refine sB Try.func15 Try.ntmps15 ?_
    repeat' (first
      | refine IOps_nil ?_
      | refine oS ?_
      | refine IOps_s rfl rfl ?_
      | refine oT ?_
      | refine IOps_s0 rfl ?_
      | refine oZ ?_
      | refine oI ?_
      | refine thenI_n ?_
      | refine IWP_seq ?_
      | refine IWP_region ?_
      | refine IWP_ct rfl ?_
      | refine IWP_cf rfl ?_
      | refine IWP_skip ?_
      | refine IWP_ret ?_
      | refine IWP_block ?_
      | refine inB_n ?_
      | refine thenI_r ?_
      | refine thenI_e ?_
      | refine inB_r ?_
      | refine inB_hit ?_
      | refine inB_miss rfl ?_
      | refine IWP_exit ?_
      | refine IWP_scope ?_
      | refine IWP_label ?_
      | refine noG_n ?_
      | refine noG_r ?_
      | refine noG_e ?_
      | refine jmp_n ?_
      | refine jmp_r ?_
      | refine jmp_e ?_
      | refine jmp_g ?_
      | refine thenI_g ?_
      | refine inB_g ?_
      | refine IWP_goto ?_
      | refine Loop_n ?_
      | fail)
    exact pD [] ⟨rfl, rfl⟩
theorem tkeys_fz (l : List Pl) (hL : l.length ≤ 1000000) : Idl.Spec Try.prog 19 [.fz false (places l) l.length] [] (Only (.fz true (strs (keysV l)) (keysV l).length) []) := by
  have hcs := tcheck_fz l hL
  cases hc : chkT l
  · rw [hc] at hcs
    rw [show keysV l = [] by unfold keysV; rw [hc]; rfl]
    refine sB Try.func19 Try.ntmps19 ?_
    repeat' (first
      | refine IOps_nil ?_
      | refine oS ?_
      | refine IOps_s rfl rfl ?_
      | refine oT ?_
      | refine IOps_s0 rfl ?_
      | refine oC (π := []) (hs := by first | exact hcs | fail) (hx := ?_)
      | refine oZ ?_
      | refine oI ?_
      | refine thenI_n ?_
      | refine IWP_seq ?_
      | refine IWP_region ?_
      | refine IWP_ct rfl ?_
      | refine IWP_cf rfl ?_
      | refine IWP_skip ?_
      | refine IWP_block ?_
      | refine inB_n ?_
      | refine thenI_r ?_
      | refine thenI_e ?_
      | refine inB_r ?_
      | refine inB_hit ?_
      | refine inB_miss rfl ?_
      | refine IWP_exit ?_
      | refine IWP_scope ?_
      | refine IWP_label ?_
      | refine noG_n ?_
      | refine noG_r ?_
      | refine noG_e ?_
      | refine jmp_n ?_
      | refine jmp_r ?_
      | refine jmp_e ?_
      | refine jmp_g ?_
      | refine thenI_g ?_
      | refine inB_g ?_
      | refine IWP_goto ?_
      | refine Loop_n ?_
      | fail)
    refine wN0 2 ?_
    repeat' (first
      | refine IOps_nil ?_
      | refine oS ?_
      | refine IOps_s rfl rfl ?_
      | refine oT ?_
      | refine IOps_s0 rfl ?_
      | refine oZ ?_
      | refine oI ?_
      | refine thenI_n ?_
      | refine IWP_seq ?_
      | refine IWP_region ?_
      | refine IWP_ct rfl ?_
      | refine IWP_cf rfl ?_
      | refine IWP_skip ?_
      | refine IWP_ret ?_
      | refine IWP_block ?_
      | refine inB_n ?_
      | refine thenI_r ?_
      | refine thenI_e ?_
      | refine inB_r ?_
      | refine inB_hit ?_
      | refine inB_miss rfl ?_
      | refine IWP_exit ?_
      | refine IWP_scope ?_
      | refine IWP_label ?_
      | refine noG_n ?_
      | refine noG_r ?_
      | refine noG_e ?_
      | refine jmp_n ?_
      | refine jmp_r ?_
      | refine jmp_e ?_
      | refine jmp_g ?_
      | refine thenI_g ?_
      | refine inB_g ?_
      | refine IWP_goto ?_
      | refine Loop_n ?_
      | fail)
    exact pD [] ⟨rfl, rfl⟩
  · rw [hc] at hcs
    have ho := (chkT_iff l).1 hc
    have hl := ho.len
    rw [show keysV l = srtK (keysOf l) by unfold keysV; rw [hc]; rfl]
    refine sB Try.func19 Try.ntmps19 ?_
    repeat' (first
      | refine IOps_nil ?_
      | refine oS ?_
      | refine IOps_s rfl rfl ?_
      | refine oT ?_
      | refine IOps_s0 rfl ?_
      | refine oC (π := []) (hs := by first | exact hcs | fail) (hx := ?_)
      | refine oZ ?_
      | refine oI ?_
      | refine thenI_n ?_
      | refine IWP_seq ?_
      | refine IWP_region ?_
      | refine IWP_ct rfl ?_
      | refine IWP_cf rfl ?_
      | refine IWP_skip ?_
      | refine IWP_ret ?_
      | refine IWP_block ?_
      | refine inB_n ?_
      | refine thenI_r ?_
      | refine thenI_e ?_
      | refine inB_r ?_
      | refine inB_hit ?_
      | refine inB_miss rfl ?_
      | refine IWP_exit ?_
      | refine IWP_scope ?_
      | refine IWP_label ?_
      | refine noG_n ?_
      | refine noG_r ?_
      | refine noG_e ?_
      | refine jmp_n ?_
      | refine jmp_r ?_
      | refine jmp_e ?_
      | refine jmp_g ?_
      | refine thenI_g ?_
      | refine inB_g ?_
      | refine IWP_goto ?_
      | refine Loop_n ?_
      | fail)
    refine wV 3 1 ?_
    refine IWP_loop (fun x : List Ks × Nat => ⟨27, [(3, .sl 0 0 x.1.length x.1.length 1), (9, .fz false (places l) l.length), (10, .i64 l.length), (11, .i64 x.2)], [.arr true (strs x.1)]⟩) (fun x => x.2 ≤ l.length ∧ x.1 = keysOf (l.take x.2)) (fun x => l.length - x.2) ([], 0) (lP [0]) ⟨Nat.zero_le _, rfl⟩ ?_
    rintro ⟨K, i⟩ ⟨hi, hK⟩
    simp only at hi hK ⊢
    have hKl : K.length ≤ i := by rw [hK, keysOf_len]; exact Nat.le_trans (held_le _) (by rw [List.length_take]; omega)
    by_cases h : i < l.length
    · have hkt := keysOf_take h
      by_cases hk : (l.getD i default).key = []
      · rw [if_neg (fun x => x hk), List.append_nil, ← hK] at hkt
        repeat' (first
          | refine IOps_nil ?_
          | refine oS ?_
          | refine IOps_s rfl rfl ?_
          | refine oT ?_
          | refine IOps_s0 rfl ?_
          | refine oZ ?_
          | refine oI ?_
          | refine thenI_n ?_
          | refine IWP_seq ?_
          | refine IWP_region ?_
          | refine IWP_ct rfl ?_
          | refine IWP_cf rfl ?_
          | refine IWP_skip ?_
          | refine IWP_ret ?_
          | refine IWP_block ?_
          | refine inB_n ?_
          | refine thenI_r ?_
          | refine thenI_e ?_
          | refine inB_r ?_
          | refine inB_hit ?_
          | refine inB_miss rfl ?_
          | refine IWP_exit ?_
          | refine IWP_scope ?_
          | refine IWP_label ?_
          | refine noG_n ?_
          | refine noG_r ?_
          | refine noG_e ?_
          | refine jmp_n ?_
          | refine jmp_r ?_
          | refine jmp_e ?_
          | refine jmp_g ?_
          | refine thenI_g ?_
          | refine inB_g ?_
          | refine IWP_goto ?_
          | refine Loop_n ?_
          | fail)
        exact ⟨(K, i + 1), ⟨h, hkt.symm⟩, by simp only; omega, lP [0]⟩
      · rw [if_pos hk, ← hK] at hkt
        repeat' (first
          | refine IOps_nil ?_
          | refine oS ?_
          | refine IOps_s rfl rfl ?_
          | refine oT ?_
          | refine IOps_s0 rfl ?_
          | refine oZ ?_
          | refine oI ?_
          | refine thenI_n ?_
          | refine IWP_seq ?_
          | refine IWP_region ?_
          | refine IWP_ct rfl ?_
          | refine IWP_cf rfl ?_
          | refine IWP_skip ?_
          | refine IWP_ret ?_
          | refine IWP_block ?_
          | refine inB_n ?_
          | refine thenI_r ?_
          | refine thenI_e ?_
          | refine inB_r ?_
          | refine inB_hit ?_
          | refine inB_miss rfl ?_
          | refine IWP_exit ?_
          | refine IWP_scope ?_
          | refine IWP_label ?_
          | refine noG_n ?_
          | refine noG_r ?_
          | refine noG_e ?_
          | refine jmp_n ?_
          | refine jmp_r ?_
          | refine jmp_e ?_
          | refine jmp_g ?_
          | refine thenI_g ?_
          | refine inB_g ?_
          | refine IWP_goto ?_
          | refine Loop_n ?_
          | fail)
        exact ⟨(K ++ [(l.getD i default).key], i + 1), ⟨h, hkt.symm⟩, by simp only; omega, lP [3]⟩
    · obtain rfl : i = l.length := by omega
      rw [List.take_length] at hK
      have hKh : K.length ≤ 96 := by rw [hK, keysOf_len]; exact ho.few
      repeat' (first
        | refine IOps_nil ?_
        | refine oS ?_
        | refine IOps_s rfl rfl ?_
        | refine oT ?_
        | refine IOps_s0 rfl ?_
        | refine oZ ?_
        | refine oI ?_
        | refine thenI_n ?_
        | refine IWP_seq ?_
        | refine IWP_region ?_
        | refine IWP_ct rfl ?_
        | refine IWP_cf rfl ?_
        | refine IWP_skip ?_
        | refine IWP_ret ?_
        | refine IWP_block ?_
        | refine inB_n ?_
        | refine thenI_r ?_
        | refine thenI_e ?_
        | refine inB_r ?_
        | refine inB_hit ?_
        | refine inB_miss rfl ?_
        | refine IWP_exit ?_
        | refine IWP_scope ?_
        | refine IWP_label ?_
        | refine noG_n ?_
        | refine noG_r ?_
        | refine noG_e ?_
        | refine jmp_n ?_
        | refine jmp_r ?_
        | refine jmp_e ?_
        | refine jmp_g ?_
        | refine thenI_g ?_
        | refine inB_g ?_
        | refine IWP_goto ?_
        | refine Loop_n ?_
        | fail)
      refine oE [0] (hs := sort_spec K K.length cS_ord (by omega)) (hx := ?_)
      rintro M ⟨hM1, hM2, hM3⟩
      have e : M = srtK (keysOf l) := srtK_uniq (hK ▸ hM2) hM3
      subst e
      repeat' (first
        | refine IOps_nil ?_
        | refine oS ?_
        | refine IOps_s rfl rfl ?_
        | refine oT ?_
        | refine IOps_s0 rfl ?_
        | refine oZ ?_
        | refine oI ?_
        | refine thenI_n ?_
        | refine IWP_seq ?_
        | refine IWP_region ?_
        | refine IWP_ct rfl ?_
        | refine IWP_cf rfl ?_
        | refine IWP_skip ?_
        | refine IWP_block ?_
        | refine inB_n ?_
        | refine thenI_r ?_
        | refine thenI_e ?_
        | refine inB_r ?_
        | refine inB_hit ?_
        | refine inB_miss rfl ?_
        | refine IWP_exit ?_
        | refine IWP_scope ?_
        | refine IWP_label ?_
        | refine noG_n ?_
        | refine noG_r ?_
        | refine noG_e ?_
        | refine jmp_n ?_
        | refine jmp_r ?_
        | refine jmp_e ?_
        | refine jmp_g ?_
        | refine thenI_g ?_
        | refine inB_g ?_
        | refine IWP_goto ?_
        | refine Loop_n ?_
        | fail)
      refine wF 2 ?_
      repeat' (first
        | refine IOps_nil ?_
        | refine oS ?_
        | refine IOps_s rfl rfl ?_
        | refine oT ?_
        | refine IOps_s0 rfl ?_
        | refine oZ ?_
        | refine oI ?_
        | refine thenI_n ?_
        | refine IWP_seq ?_
        | refine IWP_region ?_
        | refine IWP_ct rfl ?_
        | refine IWP_cf rfl ?_
        | refine IWP_skip ?_
        | refine IWP_ret ?_
        | refine IWP_block ?_
        | refine inB_n ?_
        | refine thenI_r ?_
        | refine thenI_e ?_
        | refine inB_r ?_
        | refine inB_hit ?_
        | refine inB_miss rfl ?_
        | refine IWP_exit ?_
        | refine IWP_scope ?_
        | refine IWP_label ?_
        | refine noG_n ?_
        | refine noG_r ?_
        | refine noG_e ?_
        | refine jmp_n ?_
        | refine jmp_r ?_
        | refine jmp_e ?_
        | refine jmp_g ?_
        | refine thenI_g ?_
        | refine inB_g ?_
        | refine IWP_goto ?_
        | refine Loop_n ?_
        | fail)
      refine pE [] ?_
      rw [hM1]
theorem tcheck_sl (l : List Pl) (hL : l.length ≤ 1000000) : Idl.Spec Try.prog 15 [.sl 0 0 l.length l.length 2] [.arr false (places l)] (Only (.sc (.bool (chkT l))) [.arr false (places l)]) := by
  by_cases hl : l.length = 128
  · refine sB Try.func15 Try.ntmps15 ?_
    repeat' (first
      | refine IOps_nil ?_
      | refine oS ?_
      | refine IOps_s rfl rfl ?_
      | refine oT ?_
      | refine IOps_s0 rfl ?_
      | refine oZ ?_
      | refine oI ?_
      | refine thenI_n ?_
      | refine IWP_seq ?_
      | refine IWP_region ?_
      | refine IWP_ct rfl ?_
      | refine IWP_cf rfl ?_
      | refine IWP_skip ?_
      | refine IWP_ret ?_
      | refine IWP_block ?_
      | refine inB_n ?_
      | refine thenI_r ?_
      | refine thenI_e ?_
      | refine inB_r ?_
      | refine inB_hit ?_
      | refine inB_miss rfl ?_
      | refine IWP_exit ?_
      | refine IWP_scope ?_
      | refine IWP_label ?_
      | refine noG_n ?_
      | refine noG_r ?_
      | refine noG_e ?_
      | refine jmp_n ?_
      | refine jmp_r ?_
      | refine jmp_e ?_
      | refine jmp_g ?_
      | refine thenI_g ?_
      | refine inB_g ?_
      | refine IWP_goto ?_
      | refine Loop_n ?_
      | fail)
    refine IWP_loop (fun x : Nat × Nat => ⟨38, [(1, .ptr 1 0), (2, .sc (.bool false)), (3, .fn (.func 22) [] [.ptr 1 0]), (4, .i64 x.1), (11, .sl 0 0 l.length l.length 2), (12, .i64 l.length), (13, .i64 x.2)], [.arr false (places l), .box [.sl 0 0 l.length l.length 2]]⟩) (fun x => x.2 ≤ 128 ∧ x.1 = held (l.take x.2) ∧ ∀ p, p < x.2 → pok l p) (fun x => 128 - x.2) (0, 0) (lP [0, 1]) ⟨Nat.zero_le _, by simp [held], fun p hp => absurd hp (Nat.not_lt_zero p)⟩ ?_
    rintro ⟨n, i⟩ ⟨hi, hn, hok⟩
    simp only at hi hn hok ⊢
    have hnl : n ≤ i := by rw [hn]; exact Nat.le_trans (held_le _) (by rw [List.length_take]; omega)
    by_cases h : i < 128
    · have hno : ¬ pok l i → chkT l = false := fun x => decide_eq_false fun y => x (y.2.1 i h)
      have hht := held_take (l := l) (i := i) (by omega)
      by_cases hk : (l.getD i default).key = []
      · by_cases hv : (l.getD i default).val = 0
        · rw [if_neg (fun x => x hk), ← hn] at hht
          repeat' (first
            | refine IOps_nil ?_
            | refine oS ?_
            | refine IOps_s rfl rfl ?_
            | refine oT ?_
            | refine IOps_s0 rfl ?_
            | refine oZ ?_
            | refine oI ?_
            | refine thenI_n ?_
            | refine IWP_seq ?_
            | refine IWP_region ?_
            | refine IWP_ct rfl ?_
            | refine IWP_cf rfl ?_
            | refine IWP_skip ?_
            | refine IWP_ret ?_
            | refine IWP_block ?_
            | refine inB_n ?_
            | refine thenI_r ?_
            | refine thenI_e ?_
            | refine inB_r ?_
            | refine inB_hit ?_
            | refine inB_miss rfl ?_
            | refine IWP_exit ?_
            | refine IWP_scope ?_
            | refine IWP_label ?_
            | refine noG_n ?_
            | refine noG_r ?_
            | refine noG_e ?_
            | refine jmp_n ?_
            | refine jmp_r ?_
            | refine jmp_e ?_
            | refine jmp_g ?_
            | refine thenI_g ?_
            | refine inB_g ?_
            | refine IWP_goto ?_
            | refine Loop_n ?_
            | fail)
          exact ⟨(n, i + 1), ⟨h, hht.symm, fun p hp => by
            rcases Nat.lt_succ_iff_lt_or_eq.1 hp with x | rfl
            · exact hok p x
            · exact ⟨fun _ => hv, fun x => absurd hk x⟩⟩, by simp only; omega, lP [0, 1]⟩
        · rw [hno fun x => hv (x.1 hk)]
          repeat' (first
            | refine IOps_nil ?_
            | refine oS ?_
            | refine IOps_s rfl rfl ?_
            | refine oT ?_
            | refine IOps_s0 rfl ?_
            | refine oZ ?_
            | refine oI ?_
            | refine thenI_n ?_
            | refine IWP_seq ?_
            | refine IWP_region ?_
            | refine IWP_ct rfl ?_
            | refine IWP_cf rfl ?_
            | refine IWP_skip ?_
            | refine IWP_ret ?_
            | refine IWP_block ?_
            | refine inB_n ?_
            | refine thenI_r ?_
            | refine thenI_e ?_
            | refine inB_r ?_
            | refine inB_hit ?_
            | refine inB_miss rfl ?_
            | refine IWP_exit ?_
            | refine IWP_scope ?_
            | refine IWP_label ?_
            | refine noG_n ?_
            | refine noG_r ?_
            | refine noG_e ?_
            | refine jmp_n ?_
            | refine jmp_r ?_
            | refine jmp_e ?_
            | refine jmp_g ?_
            | refine thenI_g ?_
            | refine inB_g ?_
            | refine IWP_goto ?_
            | refine Loop_n ?_
            | fail)
          exact pD [0] ⟨rfl, rfl⟩
      · rw [if_pos hk, ← hn] at hht
        have hks := key_spec (l.getD i default).key
        by_cases hko : keyOk (l.getD i default).key
        · rw [decide_eq_true hko] at hks
          have hls := lost_sl l i h hl (by have := hko.2; omega)
          by_cases hse : seekV l (l.getD i default).key = i
          · rw [decide_eq_false (fun x => x hse)] at hls
            repeat' (first
              | refine IOps_nil ?_
              | refine oS ?_
              | refine IOps_s rfl rfl ?_
              | refine oT ?_
              | refine IOps_s0 rfl ?_
              | refine oC (π := []) (hs := by first | exact hks | fail) (hx := ?_)
              | refine oC (π := [0, 1]) (hs := by first | exact hls | fail) (hx := ?_)
              | refine oC0 (π := [0, 1]) (hs := by first | exact hls | fail) (hx := ?_)
              | refine oZ ?_
              | refine oI ?_
              | refine thenI_n ?_
              | refine IWP_seq ?_
              | refine IWP_region ?_
              | refine IWP_ct rfl ?_
              | refine IWP_cf rfl ?_
              | refine IWP_skip ?_
              | refine IWP_ret ?_
              | refine IWP_block ?_
              | refine inB_n ?_
              | refine thenI_r ?_
              | refine thenI_e ?_
              | refine inB_r ?_
              | refine inB_hit ?_
              | refine inB_miss rfl ?_
              | refine IWP_exit ?_
              | refine IWP_scope ?_
              | refine IWP_label ?_
              | refine noG_n ?_
              | refine noG_r ?_
              | refine noG_e ?_
              | refine jmp_n ?_
              | refine jmp_r ?_
              | refine jmp_e ?_
              | refine jmp_g ?_
              | refine thenI_g ?_
              | refine inB_g ?_
              | refine IWP_goto ?_
              | refine Loop_n ?_
              | fail)
            exact ⟨(n + 1, i + 1), ⟨h, hht.symm, fun p hp => by
              rcases Nat.lt_succ_iff_lt_or_eq.1 hp with x | rfl
              · exact hok p x
              · exact ⟨fun x => absurd x hk, fun _ => ⟨hko, hse⟩⟩⟩, by simp only; omega, lP [0, 1]⟩
          · rw [decide_eq_true hse] at hls
            rw [hno fun x => hse (x.2 hk).2]
            repeat' (first
              | refine IOps_nil ?_
              | refine oS ?_
              | refine IOps_s rfl rfl ?_
              | refine oT ?_
              | refine IOps_s0 rfl ?_
              | refine oC (π := []) (hs := by first | exact hks | fail) (hx := ?_)
              | refine oC (π := [0, 1]) (hs := by first | exact hls | fail) (hx := ?_)
              | refine oC0 (π := [0, 1]) (hs := by first | exact hls | fail) (hx := ?_)
              | refine oZ ?_
              | refine oI ?_
              | refine thenI_n ?_
              | refine IWP_seq ?_
              | refine IWP_region ?_
              | refine IWP_ct rfl ?_
              | refine IWP_cf rfl ?_
              | refine IWP_skip ?_
              | refine IWP_ret ?_
              | refine IWP_block ?_
              | refine inB_n ?_
              | refine thenI_r ?_
              | refine thenI_e ?_
              | refine inB_r ?_
              | refine inB_hit ?_
              | refine inB_miss rfl ?_
              | refine IWP_exit ?_
              | refine IWP_scope ?_
              | refine IWP_label ?_
              | refine noG_n ?_
              | refine noG_r ?_
              | refine noG_e ?_
              | refine jmp_n ?_
              | refine jmp_r ?_
              | refine jmp_e ?_
              | refine jmp_g ?_
              | refine thenI_g ?_
              | refine inB_g ?_
              | refine IWP_goto ?_
              | refine Loop_n ?_
              | fail)
            exact pD [0] ⟨rfl, rfl⟩
        · rw [decide_eq_false hko] at hks
          rw [hno fun x => hko (x.2 hk).1]
          repeat' (first
            | refine IOps_nil ?_
            | refine oS ?_
            | refine IOps_s rfl rfl ?_
            | refine oT ?_
            | refine IOps_s0 rfl ?_
            | refine oC (π := []) (hs := by first | exact hks | fail) (hx := ?_)
            | refine oZ ?_
            | refine oI ?_
            | refine thenI_n ?_
            | refine IWP_seq ?_
            | refine IWP_region ?_
            | refine IWP_ct rfl ?_
            | refine IWP_cf rfl ?_
            | refine IWP_skip ?_
            | refine IWP_ret ?_
            | refine IWP_block ?_
            | refine inB_n ?_
            | refine thenI_r ?_
            | refine thenI_e ?_
            | refine inB_r ?_
            | refine inB_hit ?_
            | refine inB_miss rfl ?_
            | refine IWP_exit ?_
            | refine IWP_scope ?_
            | refine IWP_label ?_
            | refine noG_n ?_
            | refine noG_r ?_
            | refine noG_e ?_
            | refine jmp_n ?_
            | refine jmp_r ?_
            | refine jmp_e ?_
            | refine jmp_g ?_
            | refine thenI_g ?_
            | refine inB_g ?_
            | refine IWP_goto ?_
            | refine Loop_n ?_
            | fail)
          exact pD [0] ⟨rfl, rfl⟩
    · obtain rfl : i = 128 := by omega
      rw [List.take_of_length_le (by omega)] at hn
      by_cases hf : n ≤ 96
      · rw [show chkT l = true from decide_eq_true ⟨hl, hok, by omega⟩]
        repeat' (first
          | refine IOps_nil ?_
          | refine oS ?_
          | refine IOps_s rfl rfl ?_
          | refine oT ?_
          | refine IOps_s0 rfl ?_
          | refine oZ ?_
          | refine oI ?_
          | refine thenI_n ?_
          | refine IWP_seq ?_
          | refine IWP_region ?_
          | refine IWP_ct rfl ?_
          | refine IWP_cf rfl ?_
          | refine IWP_skip ?_
          | refine IWP_ret ?_
          | refine IWP_block ?_
          | refine inB_n ?_
          | refine thenI_r ?_
          | refine thenI_e ?_
          | refine inB_r ?_
          | refine inB_hit ?_
          | refine inB_miss rfl ?_
          | refine IWP_exit ?_
          | refine IWP_scope ?_
          | refine IWP_label ?_
          | refine noG_n ?_
          | refine noG_r ?_
          | refine noG_e ?_
          | refine jmp_n ?_
          | refine jmp_r ?_
          | refine jmp_e ?_
          | refine jmp_g ?_
          | refine thenI_g ?_
          | refine inB_g ?_
          | refine IWP_goto ?_
          | refine Loop_n ?_
          | fail)
        exact pD [0] ⟨rfl, rfl⟩
      · rw [show chkT l = false from decide_eq_false fun x => hf (by have := x.2.2; omega)]
        repeat' (first
          | refine IOps_nil ?_
          | refine oS ?_
          | refine IOps_s rfl rfl ?_
          | refine oT ?_
          | refine IOps_s0 rfl ?_
          | refine oZ ?_
          | refine oI ?_
          | refine thenI_n ?_
          | refine IWP_seq ?_
          | refine IWP_region ?_
          | refine IWP_ct rfl ?_
          | refine IWP_cf rfl ?_
          | refine IWP_skip ?_
          | refine IWP_ret ?_
          | refine IWP_block ?_
          | refine inB_n ?_
          | refine thenI_r ?_
          | refine thenI_e ?_
          | refine inB_r ?_
          | refine inB_hit ?_
          | refine inB_miss rfl ?_
          | refine IWP_exit ?_
          | refine IWP_scope ?_
          | refine IWP_label ?_
          | refine noG_n ?_
          | refine noG_r ?_
          | refine noG_e ?_
          | refine jmp_n ?_
          | refine jmp_r ?_
          | refine jmp_e ?_
          | refine jmp_g ?_
          | refine thenI_g ?_
          | refine inB_g ?_
          | refine IWP_goto ?_
          | refine Loop_n ?_
          | fail)
        exact pD [0] ⟨rfl, rfl⟩
  · rw [show chkT l = false from decide_eq_false fun x => hl x.1]
    refine sB Try.func15 Try.ntmps15 ?_
    repeat' (first
      | refine IOps_nil ?_
      | refine oS ?_
      | refine IOps_s rfl rfl ?_
      | refine oT ?_
      | refine IOps_s0 rfl ?_
      | refine oZ ?_
      | refine oI ?_
      | refine thenI_n ?_
      | refine IWP_seq ?_
      | refine IWP_region ?_
      | refine IWP_ct rfl ?_
      | refine IWP_cf rfl ?_
      | refine IWP_skip ?_
      | refine IWP_ret ?_
      | refine IWP_block ?_
      | refine inB_n ?_
      | refine thenI_r ?_
      | refine thenI_e ?_
      | refine inB_r ?_
      | refine inB_hit ?_
      | refine inB_miss rfl ?_
      | refine IWP_exit ?_
      | refine IWP_scope ?_
      | refine IWP_label ?_
      | refine noG_n ?_
      | refine noG_r ?_
      | refine noG_e ?_
      | refine jmp_n ?_
      | refine jmp_r ?_
      | refine jmp_e ?_
      | refine jmp_g ?_
      | refine thenI_g ?_
      | refine inB_g ?_
      | refine IWP_goto ?_
      | refine Loop_n ?_
      | fail)
    exact pD [0] ⟨rfl, rfl⟩
theorem tkeys_sl (l : List Pl) (hL : l.length ≤ 1000000) : Idl.Spec Try.prog 19 [.sl 0 0 l.length l.length 2] [.arr false (places l)] (Only (.fz true (strs (keysV l)) (keysV l).length) [.arr false (places l)]) := by
  have hcs := tcheck_sl l hL
  cases hc : chkT l
  · rw [hc] at hcs
    rw [show keysV l = [] by unfold keysV; rw [hc]; rfl]
    refine sB Try.func19 Try.ntmps19 ?_
    repeat' (first
      | refine IOps_nil ?_
      | refine oS ?_
      | refine IOps_s rfl rfl ?_
      | refine oT ?_
      | refine IOps_s0 rfl ?_
      | refine oC (π := [0]) (hs := by first | exact hcs | fail) (hx := ?_)
      | refine oC0 (π := [0]) (hs := by first | exact hcs | fail) (hx := ?_)
      | refine oZ ?_
      | refine oI ?_
      | refine thenI_n ?_
      | refine IWP_seq ?_
      | refine IWP_region ?_
      | refine IWP_ct rfl ?_
      | refine IWP_cf rfl ?_
      | refine IWP_skip ?_
      | refine IWP_block ?_
      | refine inB_n ?_
      | refine thenI_r ?_
      | refine thenI_e ?_
      | refine inB_r ?_
      | refine inB_hit ?_
      | refine inB_miss rfl ?_
      | refine IWP_exit ?_
      | refine IWP_scope ?_
      | refine IWP_label ?_
      | refine noG_n ?_
      | refine noG_r ?_
      | refine noG_e ?_
      | refine jmp_n ?_
      | refine jmp_r ?_
      | refine jmp_e ?_
      | refine jmp_g ?_
      | refine thenI_g ?_
      | refine inB_g ?_
      | refine IWP_goto ?_
      | refine Loop_n ?_
      | fail)
    refine wN0 2 ?_
    repeat' (first
      | refine IOps_nil ?_
      | refine oS ?_
      | refine IOps_s rfl rfl ?_
      | refine oT ?_
      | refine IOps_s0 rfl ?_
      | refine oZ ?_
      | refine oI ?_
      | refine thenI_n ?_
      | refine IWP_seq ?_
      | refine IWP_region ?_
      | refine IWP_ct rfl ?_
      | refine IWP_cf rfl ?_
      | refine IWP_skip ?_
      | refine IWP_ret ?_
      | refine IWP_block ?_
      | refine inB_n ?_
      | refine thenI_r ?_
      | refine thenI_e ?_
      | refine inB_r ?_
      | refine inB_hit ?_
      | refine inB_miss rfl ?_
      | refine IWP_exit ?_
      | refine IWP_scope ?_
      | refine IWP_label ?_
      | refine noG_n ?_
      | refine noG_r ?_
      | refine noG_e ?_
      | refine jmp_n ?_
      | refine jmp_r ?_
      | refine jmp_e ?_
      | refine jmp_g ?_
      | refine thenI_g ?_
      | refine inB_g ?_
      | refine IWP_goto ?_
      | refine Loop_n ?_
      | fail)
    exact pD [0] ⟨rfl, rfl⟩
  · rw [hc] at hcs
    have ho := (chkT_iff l).1 hc
    have hl := ho.len
    rw [show keysV l = srtK (keysOf l) by unfold keysV; rw [hc]; rfl]
    refine sB Try.func19 Try.ntmps19 ?_
    repeat' (first
      | refine IOps_nil ?_
      | refine oS ?_
      | refine IOps_s rfl rfl ?_
      | refine oT ?_
      | refine IOps_s0 rfl ?_
      | refine oC (π := [0]) (hs := by first | exact hcs | fail) (hx := ?_)
      | refine oC0 (π := [0]) (hs := by first | exact hcs | fail) (hx := ?_)
      | refine oZ ?_
      | refine oI ?_
      | refine thenI_n ?_
      | refine IWP_seq ?_
      | refine IWP_region ?_
      | refine IWP_ct rfl ?_
      | refine IWP_cf rfl ?_
      | refine IWP_skip ?_
      | refine IWP_ret ?_
      | refine IWP_block ?_
      | refine inB_n ?_
      | refine thenI_r ?_
      | refine thenI_e ?_
      | refine inB_r ?_
      | refine inB_hit ?_
      | refine inB_miss rfl ?_
      | refine IWP_exit ?_
      | refine IWP_scope ?_
      | refine IWP_label ?_
      | refine noG_n ?_
      | refine noG_r ?_
      | refine noG_e ?_
      | refine jmp_n ?_
      | refine jmp_r ?_
      | refine jmp_e ?_
      | refine jmp_g ?_
      | refine thenI_g ?_
      | refine inB_g ?_
      | refine IWP_goto ?_
      | refine Loop_n ?_
      | fail)
    refine wV 3 1 ?_
    refine IWP_loop (fun x : List Ks × Nat => ⟨27, [(3, .sl 1 0 x.1.length x.1.length 1), (9, .sl 0 0 l.length l.length 2), (10, .i64 l.length), (11, .i64 x.2)], [.arr false (places l), .arr true (strs x.1)]⟩) (fun x => x.2 ≤ l.length ∧ x.1 = keysOf (l.take x.2)) (fun x => l.length - x.2) ([], 0) (lP [0, 1]) ⟨Nat.zero_le _, rfl⟩ ?_
    rintro ⟨K, i⟩ ⟨hi, hK⟩
    simp only at hi hK ⊢
    have hKl : K.length ≤ i := by rw [hK, keysOf_len]; exact Nat.le_trans (held_le _) (by rw [List.length_take]; omega)
    by_cases h : i < l.length
    · have hkt := keysOf_take h
      by_cases hk : (l.getD i default).key = []
      · rw [if_neg (fun x => x hk), List.append_nil, ← hK] at hkt
        repeat' (first
          | refine IOps_nil ?_
          | refine oS ?_
          | refine IOps_s rfl rfl ?_
          | refine oT ?_
          | refine IOps_s0 rfl ?_
          | refine oZ ?_
          | refine oI ?_
          | refine thenI_n ?_
          | refine IWP_seq ?_
          | refine IWP_region ?_
          | refine IWP_ct rfl ?_
          | refine IWP_cf rfl ?_
          | refine IWP_skip ?_
          | refine IWP_ret ?_
          | refine IWP_block ?_
          | refine inB_n ?_
          | refine thenI_r ?_
          | refine thenI_e ?_
          | refine inB_r ?_
          | refine inB_hit ?_
          | refine inB_miss rfl ?_
          | refine IWP_exit ?_
          | refine IWP_scope ?_
          | refine IWP_label ?_
          | refine noG_n ?_
          | refine noG_r ?_
          | refine noG_e ?_
          | refine jmp_n ?_
          | refine jmp_r ?_
          | refine jmp_e ?_
          | refine jmp_g ?_
          | refine thenI_g ?_
          | refine inB_g ?_
          | refine IWP_goto ?_
          | refine Loop_n ?_
          | fail)
        exact ⟨(K, i + 1), ⟨h, hkt.symm⟩, by simp only; omega, lP [0, 1]⟩
      · rw [if_pos hk, ← hK] at hkt
        repeat' (first
          | refine IOps_nil ?_
          | refine oS ?_
          | refine IOps_s rfl rfl ?_
          | refine oT ?_
          | refine IOps_s0 rfl ?_
          | refine oZ ?_
          | refine oI ?_
          | refine thenI_n ?_
          | refine IWP_seq ?_
          | refine IWP_region ?_
          | refine IWP_ct rfl ?_
          | refine IWP_cf rfl ?_
          | refine IWP_skip ?_
          | refine IWP_ret ?_
          | refine IWP_block ?_
          | refine inB_n ?_
          | refine thenI_r ?_
          | refine thenI_e ?_
          | refine inB_r ?_
          | refine inB_hit ?_
          | refine inB_miss rfl ?_
          | refine IWP_exit ?_
          | refine IWP_scope ?_
          | refine IWP_label ?_
          | refine noG_n ?_
          | refine noG_r ?_
          | refine noG_e ?_
          | refine jmp_n ?_
          | refine jmp_r ?_
          | refine jmp_e ?_
          | refine jmp_g ?_
          | refine thenI_g ?_
          | refine inB_g ?_
          | refine IWP_goto ?_
          | refine Loop_n ?_
          | fail)
        exact ⟨(K ++ [(l.getD i default).key], i + 1), ⟨h, hkt.symm⟩, by simp only; omega, lP [0, 4]⟩
    · obtain rfl : i = l.length := by omega
      rw [List.take_length] at hK
      have hKh : K.length ≤ 96 := by rw [hK, keysOf_len]; exact ho.few
      repeat' (first
        | refine IOps_nil ?_
        | refine oS ?_
        | refine IOps_s rfl rfl ?_
        | refine oT ?_
        | refine IOps_s0 rfl ?_
        | refine oZ ?_
        | refine oI ?_
        | refine thenI_n ?_
        | refine IWP_seq ?_
        | refine IWP_region ?_
        | refine IWP_ct rfl ?_
        | refine IWP_cf rfl ?_
        | refine IWP_skip ?_
        | refine IWP_ret ?_
        | refine IWP_block ?_
        | refine inB_n ?_
        | refine thenI_r ?_
        | refine thenI_e ?_
        | refine inB_r ?_
        | refine inB_hit ?_
        | refine inB_miss rfl ?_
        | refine IWP_exit ?_
        | refine IWP_scope ?_
        | refine IWP_label ?_
        | refine noG_n ?_
        | refine noG_r ?_
        | refine noG_e ?_
        | refine jmp_n ?_
        | refine jmp_r ?_
        | refine jmp_e ?_
        | refine jmp_g ?_
        | refine thenI_g ?_
        | refine inB_g ?_
        | refine IWP_goto ?_
        | refine Loop_n ?_
        | fail)
      refine oE [1] (hs := sort_spec K K.length cS_ord (by omega)) (hx := ?_)
      rintro M ⟨hM1, hM2, hM3⟩
      have e : M = srtK (keysOf l) := srtK_uniq (hK ▸ hM2) hM3
      subst e
      repeat' (first
        | refine IOps_nil ?_
        | refine oS ?_
        | refine IOps_s rfl rfl ?_
        | refine oT ?_
        | refine IOps_s0 rfl ?_
        | refine oZ ?_
        | refine oI ?_
        | refine thenI_n ?_
        | refine IWP_seq ?_
        | refine IWP_region ?_
        | refine IWP_ct rfl ?_
        | refine IWP_cf rfl ?_
        | refine IWP_skip ?_
        | refine IWP_block ?_
        | refine inB_n ?_
        | refine thenI_r ?_
        | refine thenI_e ?_
        | refine inB_r ?_
        | refine inB_hit ?_
        | refine inB_miss rfl ?_
        | refine IWP_exit ?_
        | refine IWP_scope ?_
        | refine IWP_label ?_
        | refine noG_n ?_
        | refine noG_r ?_
        | refine noG_e ?_
        | refine jmp_n ?_
        | refine jmp_r ?_
        | refine jmp_e ?_
        | refine jmp_g ?_
        | refine thenI_g ?_
        | refine inB_g ?_
        | refine IWP_goto ?_
        | refine Loop_n ?_
        | fail)
      refine wF 2 ?_
      repeat' (first
        | refine IOps_nil ?_
        | refine oS ?_
        | refine IOps_s rfl rfl ?_
        | refine oT ?_
        | refine IOps_s0 rfl ?_
        | refine oZ ?_
        | refine oI ?_
        | refine thenI_n ?_
        | refine IWP_seq ?_
        | refine IWP_region ?_
        | refine IWP_ct rfl ?_
        | refine IWP_cf rfl ?_
        | refine IWP_skip ?_
        | refine IWP_ret ?_
        | refine IWP_block ?_
        | refine inB_n ?_
        | refine thenI_r ?_
        | refine thenI_e ?_
        | refine inB_r ?_
        | refine inB_hit ?_
        | refine inB_miss rfl ?_
        | refine IWP_exit ?_
        | refine IWP_scope ?_
        | refine IWP_label ?_
        | refine noG_n ?_
        | refine noG_r ?_
        | refine noG_e ?_
        | refine jmp_n ?_
        | refine jmp_r ?_
        | refine jmp_e ?_
        | refine jmp_g ?_
        | refine thenI_g ?_
        | refine inB_g ?_
        | refine IWP_goto ?_
        | refine Loop_n ?_
        | fail)
      refine pE [0] ?_
      rw [hM1]
def getT (l : List Pl) (k : Ks) : Int × Bool := if chkT l then getV l k else (0, false)
theorem tget_spec (l : List Pl) (k : Ks) (hL : l.length ≤ 1000000) (hk : k.length ≤ 1000000) : Idl.Spec Try.prog 14 [.fz false (places l) l.length, .sc (.string ⟨⟨k⟩⟩)] [] (Only (.tup [.i64 (getT l k).1, .sc (.bool (getT l k).2)]) []) := by
  by_cases h0 : k = []
  · subst h0
    rw [show getT l [] = (0, false) by unfold getT; rw [get_nil]; split <;> rfl]
    refine sB Try.func14 Try.ntmps14 ?_
    repeat' (first
      | refine IOps_nil ?_
      | refine oS ?_
      | refine IOps_s rfl rfl ?_
      | refine oT ?_
      | refine IOps_s0 rfl ?_
      | refine oZ ?_
      | refine oI ?_
      | refine thenI_n ?_
      | refine IWP_seq ?_
      | refine IWP_region ?_
      | refine IWP_ct rfl ?_
      | refine IWP_cf rfl ?_
      | refine IWP_skip ?_
      | refine IWP_ret ?_
      | refine IWP_block ?_
      | refine inB_n ?_
      | refine thenI_r ?_
      | refine thenI_e ?_
      | refine inB_r ?_
      | refine inB_hit ?_
      | refine inB_miss rfl ?_
      | refine IWP_exit ?_
      | refine IWP_scope ?_
      | refine IWP_label ?_
      | refine noG_n ?_
      | refine noG_r ?_
      | refine noG_e ?_
      | refine jmp_n ?_
      | refine jmp_r ?_
      | refine jmp_e ?_
      | refine jmp_g ?_
      | refine thenI_g ?_
      | refine inB_g ?_
      | refine IWP_goto ?_
      | refine Loop_n ?_
      | fail)
    exact pD [] ⟨rfl, rfl⟩
  · have hcs := tcheck_fz l hL
    cases hc : chkT l
    · rw [hc] at hcs
      rw [show getT l k = (0, false) by unfold getT; rw [hc]; rfl]
      refine sB Try.func14 Try.ntmps14 ?_
      repeat' (first
        | refine IOps_nil ?_
        | refine oS ?_
        | refine IOps_s rfl rfl ?_
        | refine oT ?_
        | refine IOps_s0 rfl ?_
        | refine oC (π := []) (hs := by first | exact hcs | fail) (hx := ?_)
        | refine oZ ?_
        | refine oI ?_
        | refine thenI_n ?_
        | refine IWP_seq ?_
        | refine IWP_region ?_
        | refine IWP_ct rfl ?_
        | refine IWP_cf rfl ?_
        | refine IWP_skip ?_
        | refine IWP_ret ?_
        | refine IWP_block ?_
        | refine inB_n ?_
        | refine thenI_r ?_
        | refine thenI_e ?_
        | refine inB_r ?_
        | refine inB_hit ?_
        | refine inB_miss rfl ?_
        | refine IWP_exit ?_
        | refine IWP_scope ?_
        | refine IWP_label ?_
        | refine noG_n ?_
        | refine noG_r ?_
        | refine noG_e ?_
        | refine jmp_n ?_
        | refine jmp_r ?_
        | refine jmp_e ?_
        | refine jmp_g ?_
        | refine thenI_g ?_
        | refine inB_g ?_
        | refine IWP_goto ?_
        | refine Loop_n ?_
        | fail)
      exact pD [] ⟨rfl, rfl⟩
    · rw [hc] at hcs
      have ho := (chkT_iff l).1 hc
      have hs := seek_fz l k ho.len (by omega)
      have hlt := seek_lt l k
      have hl := ho.len
      rw [show getT l k = getV l k by unfold getT; rw [hc]; rfl]
      unfold getV ky
      generalize seekV l k = s at hs hlt ⊢
      by_cases hk : (l.getD s default).key = k
      · rw [if_pos ⟨h0, hk⟩]
        refine sB Try.func14 Try.ntmps14 ?_
        repeat' (first
          | refine IOps_nil ?_
          | refine oS ?_
          | refine IOps_s rfl rfl ?_
          | refine oT ?_
          | refine IOps_s0 rfl ?_
          | refine oC (π := []) (hs := by first | exact hcs | fail) (hx := ?_)
          | refine oC (π := []) (hs := by first | exact hs | fail) (hx := ?_)
          | refine oZ ?_
          | refine oI ?_
          | refine thenI_n ?_
          | refine IWP_seq ?_
          | refine IWP_region ?_
          | refine IWP_ct rfl ?_
          | refine IWP_cf rfl ?_
          | refine IWP_skip ?_
          | refine IWP_ret ?_
          | refine IWP_block ?_
          | refine inB_n ?_
          | refine thenI_r ?_
          | refine thenI_e ?_
          | refine inB_r ?_
          | refine inB_hit ?_
          | refine inB_miss rfl ?_
          | refine IWP_exit ?_
          | refine IWP_scope ?_
          | refine IWP_label ?_
          | refine noG_n ?_
          | refine noG_r ?_
          | refine noG_e ?_
          | refine jmp_n ?_
          | refine jmp_r ?_
          | refine jmp_e ?_
          | refine jmp_g ?_
          | refine thenI_g ?_
          | refine inB_g ?_
          | refine IWP_goto ?_
          | refine Loop_n ?_
          | fail)
        exact pD [] ⟨rfl, rfl⟩
      · rw [if_neg fun x => hk x.2]
        refine sB Try.func14 Try.ntmps14 ?_
        repeat' (first
          | refine IOps_nil ?_
          | refine oS ?_
          | refine IOps_s rfl rfl ?_
          | refine oT ?_
          | refine IOps_s0 rfl ?_
          | refine oC (π := []) (hs := by first | exact hcs | fail) (hx := ?_)
          | refine oC (π := []) (hs := by first | exact hs | fail) (hx := ?_)
          | refine oZ ?_
          | refine oI ?_
          | refine thenI_n ?_
          | refine IWP_seq ?_
          | refine IWP_region ?_
          | refine IWP_ct rfl ?_
          | refine IWP_cf rfl ?_
          | refine IWP_skip ?_
          | refine IWP_ret ?_
          | refine IWP_block ?_
          | refine inB_n ?_
          | refine thenI_r ?_
          | refine thenI_e ?_
          | refine inB_r ?_
          | refine inB_hit ?_
          | refine inB_miss rfl ?_
          | refine IWP_exit ?_
          | refine IWP_scope ?_
          | refine IWP_label ?_
          | refine noG_n ?_
          | refine noG_r ?_
          | refine noG_e ?_
          | refine jmp_n ?_
          | refine jmp_r ?_
          | refine jmp_e ?_
          | refine jmp_g ?_
          | refine thenI_g ?_
          | refine inB_g ?_
          | refine IWP_goto ?_
          | refine Loop_n ?_
          | fail)
        exact pD [] ⟨rfl, rfl⟩
end Go.Proofs.Ytgchgdfigbonhaa

namespace Go.Proofs.Ytgchgdfigbonhaa
open Go Go.Idl
set_option linter.unusedSimpArgs false
set_option linter.unusedVariables false
set_option maxHeartbeats 4000000
def delV (l : List Pl) (g : Nat) : List Pl := delF 128 (l.set g noPl) ((g + 1) % 128)
theorem delF_stop {t : List Pl} {a : Nat} (h : ky t a = []) : ∀ n, delF n t a = t
  | 0 => rfl
  | n + 1 => by unfold delF; rw [if_pos h]
theorem delF_go {t : List Pl} {a n : Nat} (h : ky t a ≠ []) : delF (n + 1) t a = delF n (relay t a) ((a + 1) % 128) := by
  conv => lhs; unfold delF
  rw [if_neg h]
theorem ds_fall {a e : Nat} (ha : a < 128) (he : e < 128) (h : a ≠ e) : ds ((a + 1) % 128) e + 1 = ds a e := by unfold ds; omega
/-- How far it is until the next empty place: the loop's measure. -/
structure DelR (l : List Pl) (g e : Nat) (R : List Pl) (t : List Pl) (a : Nat) : Prop where
  inv : DelI l g e t a
  run : ∃ n, ds a e + 1 ≤ n ∧ delF n t a = R
theorem DelR.start {l : List Pl} (h : OkT l) {g e : Nat} (hg : g < 128) (hk : ky l g ≠ []) (he : e < 128) (hfe : ky l e = []) (hff : ∀ p, p < 128 → ds g p < ds g e → ky l p ≠ []) : DelR l g e (delV l g) (l.set g noPl) ((g + 1) % 128) :=
  ⟨.start h hg hk he hfe hff, 128, by have := ds_lt ((g + 1) % 128) e; omega, rfl⟩
theorem DelR.done {l : List Pl} {g e : Nat} {R t : List Pl} {a : Nat} (h : DelR l g e R t a) (hka : ky t a = []) : R = t := by
  obtain ⟨n, _, h2⟩ := h.run
  rw [← h2, delF_stop hka]
theorem DelR.step {l : List Pl} {g e : Nat} {R t : List Pl} {a : Nat} (h : DelR l g e R t a) (hg : g < 128) (he : e < 128) (hka : ky t a ≠ []) : DelR l g e R (relay t a) ((a + 1) % 128) ∧ ds ((a + 1) % 128) e < ds a e := by
  have hane : a ≠ e := fun x => by subst x; exact hka h.inv.free
  have hf := ds_fall h.inv.ha he hane
  refine ⟨⟨(h.inv.step hg he hka).1, ?_⟩, by omega⟩
  obtain ⟨n, h1, h2⟩ := h.run
  obtain ⟨m, rfl⟩ : ∃ m, n = m + 1 := ⟨n - 1, by omega⟩
  rw [delF_go hka] at h2
  exact ⟨m, by omega, h2⟩
theorem del_all {l : List Pl} (h : OkT l) {g : Nat} (hg : g < 128) (hk : ky l g ≠ []) : ∃ e, e < 128 ∧ DelI l g e (delV l g) e := by
  obtain ⟨e, he, hfe, hff⟩ := first_free h hg hk
  refine ⟨e, he, ?_⟩
  have key : ∀ n t a, DelR l g e (delV l g) t a → ds a e = n → DelI l g e (delV l g) e := by
    intro n
    induction n using Nat.strongRecOn with
    | _ n ih =>
      intro t a hR hn
      by_cases hka : ky t a = []
      · have e1 := hR.done hka
        have e2 := hR.inv.done h hg he hka
        rw [e1, ← e2]
        exact e2 ▸ hR.inv
      · obtain ⟨h1, h2⟩ := hR.step hg he hka
        exact ih _ (by omega) _ _ h1 rfl
  exact key _ _ _ (.start h hg hk he hfe hff) rfl
theorem del_ok {l : List Pl} (h : OkT l) {g : Nat} (hg : g < 128) (hk : ky l g ≠ []) : OkT (delV l g) ∧ held (delV l g) + 1 = held l ∧ ∀ x : Pl, x.key ≠ [] → (x ∈ delV l g ↔ x ∈ l ∧ x.key ≠ ky l g) := by
  obtain ⟨e, he, hI⟩ := del_all h hg hk
  have ho := hI.ok' h
  refine ⟨ho, hI.held', fun x hx => ?_⟩
  rw [ho.mem, hI.mem x hx, h.mem]
  constructor
  · rintro ⟨p, hp, hpg, rfl⟩
    exact ⟨⟨p, hp, rfl⟩, fun x => hpg (h.inj hp hg hx x)⟩
  · rintro ⟨⟨p, hp, rfl⟩, hne⟩
    exact ⟨p, hp, fun x => hne (by subst x; rfl), rfl⟩
/-! ### A key that had no place, put and deleted -/
theorem set_back {l : List Pl} {s : Nat} (hs : s < l.length) (x : Pl) : (l.set s x).set s (gd l s) = l := by
  rw [List.set_set, gd_eq hs, List.set_getElem_self]
theorem relay_self {l : List Pl} (h : OkT l) {a : Nat} (ha : a < 128) (hk : ky l a ≠ []) : relay l a = l := by
  have hal : a < l.length := by rw [h.len]; exact ha
  have : seekV (l.set a noPl) (ky l a) = a := by
    refine seek_unique ha (.inl (ky_at hal)) fun q hq hd => ?_
    have hqa : a ≠ q := fun x => by subst x; omega
    rw [ky_off hqa]
    exact h.way a ha hk q hq hd
  unfold relay
  rw [this, set_back hal]
theorem delF_self {l : List Pl} (h : OkT l) : ∀ n a, a < 128 → delF n l a = l
  | 0, _, _ => rfl
  | n + 1, a, ha => by
    by_cases hk : ky l a = []
    · exact delF_stop hk _
    · rw [delF_go hk, relay_self h ha hk]
      exact delF_self h n _ (Nat.mod_lt _ (by decide))
theorem free_is {l : List Pl} (h : OkT l) {s : Nat} (hs : s < 128) (hk : ky l s = []) : gd l s = noPl := by
  have := h.zero s hs hk
  have e : gd l s = ⟨ky l s, (gd l s).val⟩ := rfl
  rw [e, hk, this]
theorem back_del {l : List Pl} (h : OkT l) {s : Nat} (hs : s < 128) (hk : ky l s = []) (x : Pl) : delV (l.set s x) s = l := by
  unfold delV
  have : (l.set s x).set s noPl = l := by rw [← free_is h hs hk]; exact set_back (by rw [h.len]; exact hs) x
  rw [this]
  exact delF_self h _ _ (Nat.mod_lt _ (by decide))
/-! ### The answers -/
def putT (l : List Pl) (k : Ks) (v : Int) : List Pl × Int :=
  if chkT l = false then (l, 120) else if ¬ keyOk k then (l, 90) else if ky l (seekV l k) ≠ k ∧ 96 ≤ held l then (l, 110) else (l.set (seekV l k) ⟨k, v⟩, 0)
def delT (l : List Pl) (k : Ks) : List Pl × Int :=
  if k = [] ∨ chkT l = false then (l, 120) else if ky l (seekV l k) ≠ k then (l, 120) else (delV l (seekV l k), 0)
theorem keysV_len {l : List Pl} (h : chkT l = true) : (keysV l).length = held l := by
  unfold keysV
  rw [h, if_pos rfl, (srtK_perm _).length_eq, keysOf_len]
end Go.Proofs.Ytgchgdfigbonhaa

namespace Go.Proofs.Ytgchgdfigbonhaa
open Go Go.Idl
set_option linter.unusedSimpArgs false
set_option linter.unusedVariables false
set_option maxRecDepth 100000
set_option maxHeartbeats 4000000
theorem splice2 {a b c d : IV} : splice [a, b] 0 [c, d] = [c, d] := rfl
attribute [local irreducible] Go.Idl.IWP Go.Idl.IOps Go.Idl.Obl Go.Idl.OpG Go.Idl.thenI Go.Idl.inBlockI Go.Idl.LoopU Go.Idl.noGotoI Go.Idl.jumpI
attribute [local go_sem] List.length_set splice2 splice_places relab_fz1
theorem tput_spec (l : List Pl) (k : Ks) (v : Int) (hL : l.length ≤ 1000000) : Idl.Spec Try.prog 16 [.fz false (places l) l.length, .sc (.string ⟨⟨k⟩⟩), .i64 v] []
    (Only (.tup [.fz true (places (putT l k v).1) (putT l k v).1.length, .i64 (putT l k v).2]) []) := by
  have hcs := tcheck_fz l hL
  cases hc : chkT l
  · rw [hc] at hcs
    rw [show putT l k v = (l, 120) by unfold putT; rw [hc]; rfl]
    refine sB Try.func16 Try.ntmps16 ?_
    repeat' (first
      | refine IOps_nil ?_
      | refine oS ?_
      | refine IOps_s rfl rfl ?_
      | refine oT ?_
      | refine IOps_s0 rfl ?_
      | refine oC (π := []) (hs := by first | exact tcopied_spec l hL | fail) (hx := ?_)
      | refine oC (π := []) (hs := by first | exact hcs | fail) (hx := ?_)
      | refine oZ ?_
      | refine oI ?_
      | refine thenI_n ?_
      | refine IWP_seq ?_
      | refine IWP_region ?_
      | refine IWP_ct rfl ?_
      | refine IWP_cf rfl ?_
      | refine IWP_skip ?_
      | refine IWP_block ?_
      | refine inB_n ?_
      | refine thenI_r ?_
      | refine thenI_e ?_
      | refine inB_r ?_
      | refine inB_hit ?_
      | refine inB_miss rfl ?_
      | refine IWP_exit ?_
      | refine IWP_scope ?_
      | refine IWP_label ?_
      | refine noG_n ?_
      | refine noG_r ?_
      | refine noG_e ?_
      | refine jmp_n ?_
      | refine jmp_r ?_
      | refine jmp_e ?_
      | refine jmp_g ?_
      | refine thenI_g ?_
      | refine inB_g ?_
      | refine IWP_goto ?_
      | refine Loop_n ?_
      | fail)
    refine wF 6 ?_
    repeat' (first
      | refine IOps_nil ?_
      | refine oS ?_
      | refine IOps_s rfl rfl ?_
      | refine oT ?_
      | refine IOps_s0 rfl ?_
      | refine oZ ?_
      | refine oI ?_
      | refine thenI_n ?_
      | refine IWP_seq ?_
      | refine IWP_region ?_
      | refine IWP_ct rfl ?_
      | refine IWP_cf rfl ?_
      | refine IWP_skip ?_
      | refine IWP_ret ?_
      | refine IWP_block ?_
      | refine inB_n ?_
      | refine thenI_r ?_
      | refine thenI_e ?_
      | refine inB_r ?_
      | refine inB_hit ?_
      | refine inB_miss rfl ?_
      | refine IWP_exit ?_
      | refine IWP_scope ?_
      | refine IWP_label ?_
      | refine noG_n ?_
      | refine noG_r ?_
      | refine noG_e ?_
      | refine jmp_n ?_
      | refine jmp_r ?_
      | refine jmp_e ?_
      | refine jmp_g ?_
      | refine thenI_g ?_
      | refine inB_g ?_
      | refine IWP_goto ?_
      | refine Loop_n ?_
      | fail)
    exact pD [] ⟨rfl, rfl⟩
  · rw [hc] at hcs
    have hks := key_spec k
    by_cases hk : keyOk k
    · rw [decide_eq_true hk] at hks
      have ho := (chkT_iff l).1 hc
      have hl := ho.len
      have hss := seek_sl l k hl (by have := hk.2; omega)
      have hlt := seek_lt l k
      have hys := tkeys_sl l hL
      have hyl := keysV_len hc
      have hpv : putT l k v = if ky l (seekV l k) ≠ k ∧ 96 ≤ held l then (l, 110) else (l.set (seekV l k) ⟨k, v⟩, 0) := by
        unfold putT; rw [hc, if_neg (by decide), if_neg (fun x => x hk)]
      rw [hpv]
      unfold ky
      generalize seekV l k = s at hss hlt ⊢
      by_cases he : (l.getD s default).key = k
      · rw [if_neg fun x => x.1 he]
        refine sB Try.func16 Try.ntmps16 ?_
        repeat' (first
          | refine IOps_nil ?_
          | refine oS ?_
          | refine IOps_s rfl rfl ?_
          | refine oT ?_
          | refine IOps_s0 rfl ?_
          | refine oC (π := []) (hs := by first | exact tcopied_spec l hL | fail) (hx := ?_)
          | refine oC (π := []) (hs := by first | exact hcs | fail) (hx := ?_)
          | refine oC (π := []) (hs := by first | exact hks | fail) (hx := ?_)
          | refine oC (π := [0]) (hs := by first | exact hss | fail) (hx := ?_)
          | refine oC0 (π := [0]) (hs := by first | exact hss | fail) (hx := ?_)
          | refine oZ ?_
          | refine oI ?_
          | refine thenI_n ?_
          | refine IWP_seq ?_
          | refine IWP_region ?_
          | refine IWP_ct rfl ?_
          | refine IWP_cf rfl ?_
          | refine IWP_skip ?_
          | refine IWP_block ?_
          | refine inB_n ?_
          | refine thenI_r ?_
          | refine thenI_e ?_
          | refine inB_r ?_
          | refine inB_hit ?_
          | refine inB_miss rfl ?_
          | refine IWP_exit ?_
          | refine IWP_scope ?_
          | refine IWP_label ?_
          | refine noG_n ?_
          | refine noG_r ?_
          | refine noG_e ?_
          | refine jmp_n ?_
          | refine jmp_r ?_
          | refine jmp_e ?_
          | refine jmp_g ?_
          | refine thenI_g ?_
          | refine inB_g ?_
          | refine IWP_goto ?_
          | refine Loop_n ?_
          | fail)
        refine wF 6 ?_
        repeat' (first
          | refine IOps_nil ?_
          | refine oS ?_
          | refine IOps_s rfl rfl ?_
          | refine oT ?_
          | refine IOps_s0 rfl ?_
          | refine oZ ?_
          | refine oI ?_
          | refine thenI_n ?_
          | refine IWP_seq ?_
          | refine IWP_region ?_
          | refine IWP_ct rfl ?_
          | refine IWP_cf rfl ?_
          | refine IWP_skip ?_
          | refine IWP_ret ?_
          | refine IWP_block ?_
          | refine inB_n ?_
          | refine thenI_r ?_
          | refine thenI_e ?_
          | refine inB_r ?_
          | refine inB_hit ?_
          | refine inB_miss rfl ?_
          | refine IWP_exit ?_
          | refine IWP_scope ?_
          | refine IWP_label ?_
          | refine noG_n ?_
          | refine noG_r ?_
          | refine noG_e ?_
          | refine jmp_n ?_
          | refine jmp_r ?_
          | refine jmp_e ?_
          | refine jmp_g ?_
          | refine thenI_g ?_
          | refine inB_g ?_
          | refine IWP_goto ?_
          | refine Loop_n ?_
          | fail)
        refine pE [] ?_
        simp only [List.length_set]
      · by_cases hr : 96 ≤ held l
        · rw [if_pos ⟨he, hr⟩]
          refine sB Try.func16 Try.ntmps16 ?_
          repeat' (first
            | refine IOps_nil ?_
            | refine oS ?_
            | refine IOps_s rfl rfl ?_
            | refine oT ?_
            | refine IOps_s0 rfl ?_
            | refine oC (π := []) (hs := by first | exact tcopied_spec l hL | fail) (hx := ?_)
            | refine oC (π := []) (hs := by first | exact hcs | fail) (hx := ?_)
            | refine oC (π := []) (hs := by first | exact hks | fail) (hx := ?_)
            | refine oC (π := [0]) (hs := by first | exact hss | fail) (hx := ?_)
            | refine oC0 (π := [0]) (hs := by first | exact hss | fail) (hx := ?_)
            | refine oC (π := [0]) (hs := by first | exact hys | fail) (hx := ?_)
            | refine oC0 (π := [0]) (hs := by first | exact hys | fail) (hx := ?_)
            | refine oZ ?_
            | refine oI ?_
            | refine thenI_n ?_
            | refine IWP_seq ?_
            | refine IWP_region ?_
            | refine IWP_ct rfl ?_
            | refine IWP_cf rfl ?_
            | refine IWP_skip ?_
            | refine IWP_block ?_
            | refine inB_n ?_
            | refine thenI_r ?_
            | refine thenI_e ?_
            | refine inB_r ?_
            | refine inB_hit ?_
            | refine inB_miss rfl ?_
            | refine IWP_exit ?_
            | refine IWP_scope ?_
            | refine IWP_label ?_
            | refine noG_n ?_
            | refine noG_r ?_
            | refine noG_e ?_
            | refine jmp_n ?_
            | refine jmp_r ?_
            | refine jmp_e ?_
            | refine jmp_g ?_
            | refine thenI_g ?_
            | refine inB_g ?_
            | refine IWP_goto ?_
            | refine Loop_n ?_
            | fail)
          refine wF 6 ?_
          repeat' (first
            | refine IOps_nil ?_
            | refine oS ?_
            | refine IOps_s rfl rfl ?_
            | refine oT ?_
            | refine IOps_s0 rfl ?_
            | refine oZ ?_
            | refine oI ?_
            | refine thenI_n ?_
            | refine IWP_seq ?_
            | refine IWP_region ?_
            | refine IWP_ct rfl ?_
            | refine IWP_cf rfl ?_
            | refine IWP_skip ?_
            | refine IWP_ret ?_
            | refine IWP_block ?_
            | refine inB_n ?_
            | refine thenI_r ?_
            | refine thenI_e ?_
            | refine inB_r ?_
            | refine inB_hit ?_
            | refine inB_miss rfl ?_
            | refine IWP_exit ?_
            | refine IWP_scope ?_
            | refine IWP_label ?_
            | refine noG_n ?_
            | refine noG_r ?_
            | refine noG_e ?_
            | refine jmp_n ?_
            | refine jmp_r ?_
            | refine jmp_e ?_
            | refine jmp_g ?_
            | refine thenI_g ?_
            | refine inB_g ?_
            | refine IWP_goto ?_
            | refine Loop_n ?_
            | fail)
          exact pD [] ⟨rfl, rfl⟩
        · rw [if_neg fun x => hr x.2]
          refine sB Try.func16 Try.ntmps16 ?_
          repeat' (first
            | refine IOps_nil ?_
            | refine oS ?_
            | refine IOps_s rfl rfl ?_
            | refine oT ?_
            | refine IOps_s0 rfl ?_
            | refine oC (π := []) (hs := by first | exact tcopied_spec l hL | fail) (hx := ?_)
            | refine oC (π := []) (hs := by first | exact hcs | fail) (hx := ?_)
            | refine oC (π := []) (hs := by first | exact hks | fail) (hx := ?_)
            | refine oC (π := [0]) (hs := by first | exact hss | fail) (hx := ?_)
            | refine oC0 (π := [0]) (hs := by first | exact hss | fail) (hx := ?_)
            | refine oC (π := [0]) (hs := by first | exact hys | fail) (hx := ?_)
            | refine oC0 (π := [0]) (hs := by first | exact hys | fail) (hx := ?_)
            | refine oZ ?_
            | refine oI ?_
            | refine thenI_n ?_
            | refine IWP_seq ?_
            | refine IWP_region ?_
            | refine IWP_ct rfl ?_
            | refine IWP_cf rfl ?_
            | refine IWP_skip ?_
            | refine IWP_block ?_
            | refine inB_n ?_
            | refine thenI_r ?_
            | refine thenI_e ?_
            | refine inB_r ?_
            | refine inB_hit ?_
            | refine inB_miss rfl ?_
            | refine IWP_exit ?_
            | refine IWP_scope ?_
            | refine IWP_label ?_
            | refine noG_n ?_
            | refine noG_r ?_
            | refine noG_e ?_
            | refine jmp_n ?_
            | refine jmp_r ?_
            | refine jmp_e ?_
            | refine jmp_g ?_
            | refine thenI_g ?_
            | refine inB_g ?_
            | refine IWP_goto ?_
            | refine Loop_n ?_
            | fail)
          refine wF 6 ?_
          repeat' (first
            | refine IOps_nil ?_
            | refine oS ?_
            | refine IOps_s rfl rfl ?_
            | refine oT ?_
            | refine IOps_s0 rfl ?_
            | refine oZ ?_
            | refine oI ?_
            | refine thenI_n ?_
            | refine IWP_seq ?_
            | refine IWP_region ?_
            | refine IWP_ct rfl ?_
            | refine IWP_cf rfl ?_
            | refine IWP_skip ?_
            | refine IWP_ret ?_
            | refine IWP_block ?_
            | refine inB_n ?_
            | refine thenI_r ?_
            | refine thenI_e ?_
            | refine inB_r ?_
            | refine inB_hit ?_
            | refine inB_miss rfl ?_
            | refine IWP_exit ?_
            | refine IWP_scope ?_
            | refine IWP_label ?_
            | refine noG_n ?_
            | refine noG_r ?_
            | refine noG_e ?_
            | refine jmp_n ?_
            | refine jmp_r ?_
            | refine jmp_e ?_
            | refine jmp_g ?_
            | refine thenI_g ?_
            | refine inB_g ?_
            | refine IWP_goto ?_
            | refine Loop_n ?_
            | fail)
          refine pE [] ?_
          simp only [List.length_set]
    · rw [decide_eq_false hk] at hks
      rw [show putT l k v = (l, 90) by unfold putT; rw [hc, if_neg (by decide), if_pos hk]]
      refine sB Try.func16 Try.ntmps16 ?_
      repeat' (first
        | refine IOps_nil ?_
        | refine oS ?_
        | refine IOps_s rfl rfl ?_
        | refine oT ?_
        | refine IOps_s0 rfl ?_
        | refine oC (π := []) (hs := by first | exact tcopied_spec l hL | fail) (hx := ?_)
        | refine oC (π := []) (hs := by first | exact hcs | fail) (hx := ?_)
        | refine oC (π := []) (hs := by first | exact hks | fail) (hx := ?_)
        | refine oZ ?_
        | refine oI ?_
        | refine thenI_n ?_
        | refine IWP_seq ?_
        | refine IWP_region ?_
        | refine IWP_ct rfl ?_
        | refine IWP_cf rfl ?_
        | refine IWP_skip ?_
        | refine IWP_block ?_
        | refine inB_n ?_
        | refine thenI_r ?_
        | refine thenI_e ?_
        | refine inB_r ?_
        | refine inB_hit ?_
        | refine inB_miss rfl ?_
        | refine IWP_exit ?_
        | refine IWP_scope ?_
        | refine IWP_label ?_
        | refine noG_n ?_
        | refine noG_r ?_
        | refine noG_e ?_
        | refine jmp_n ?_
        | refine jmp_r ?_
        | refine jmp_e ?_
        | refine jmp_g ?_
        | refine thenI_g ?_
        | refine inB_g ?_
        | refine IWP_goto ?_
        | refine Loop_n ?_
        | fail)
      refine wF 6 ?_
      repeat' (first
        | refine IOps_nil ?_
        | refine oS ?_
        | refine IOps_s rfl rfl ?_
        | refine oT ?_
        | refine IOps_s0 rfl ?_
        | refine oZ ?_
        | refine oI ?_
        | refine thenI_n ?_
        | refine IWP_seq ?_
        | refine IWP_region ?_
        | refine IWP_ct rfl ?_
        | refine IWP_cf rfl ?_
        | refine IWP_skip ?_
        | refine IWP_ret ?_
        | refine IWP_block ?_
        | refine inB_n ?_
        | refine thenI_r ?_
        | refine thenI_e ?_
        | refine inB_r ?_
        | refine inB_hit ?_
        | refine inB_miss rfl ?_
        | refine IWP_exit ?_
        | refine IWP_scope ?_
        | refine IWP_label ?_
        | refine noG_n ?_
        | refine noG_r ?_
        | refine noG_e ?_
        | refine jmp_n ?_
        | refine jmp_r ?_
        | refine jmp_e ?_
        | refine jmp_g ?_
        | refine thenI_g ?_
        | refine inB_g ?_
        | refine IWP_goto ?_
        | refine Loop_n ?_
        | fail)
      exact pD [] ⟨rfl, rfl⟩
theorem tdel_spec (l : List Pl) (k : Ks) (hL : l.length ≤ 1000000) (hk : k.length ≤ 1000000) : Idl.Spec Try.prog 18 [.fz false (places l) l.length, .sc (.string ⟨⟨k⟩⟩)] []
    (Only (.tup [.fz true (places (delT l k).1) (delT l k).1.length, .i64 (delT l k).2]) []) := by
  by_cases h0 : k = []
  · subst h0
    rw [show delT l [] = (l, 120) from if_pos (.inl rfl)]
    refine sB Try.func18 Try.ntmps18 ?_
    repeat' (first
      | refine IOps_nil ?_
      | refine oS ?_
      | refine IOps_s rfl rfl ?_
      | refine oT ?_
      | refine IOps_s0 rfl ?_
      | refine oC (π := []) (hs := by first | exact tcopied_spec l hL | fail) (hx := ?_)
      | refine oZ ?_
      | refine oI ?_
      | refine thenI_n ?_
      | refine IWP_seq ?_
      | refine IWP_region ?_
      | refine IWP_ct rfl ?_
      | refine IWP_cf rfl ?_
      | refine IWP_skip ?_
      | refine IWP_block ?_
      | refine inB_n ?_
      | refine thenI_r ?_
      | refine thenI_e ?_
      | refine inB_r ?_
      | refine inB_hit ?_
      | refine inB_miss rfl ?_
      | refine IWP_exit ?_
      | refine IWP_scope ?_
      | refine IWP_label ?_
      | refine noG_n ?_
      | refine noG_r ?_
      | refine noG_e ?_
      | refine jmp_n ?_
      | refine jmp_r ?_
      | refine jmp_e ?_
      | refine jmp_g ?_
      | refine thenI_g ?_
      | refine inB_g ?_
      | refine IWP_goto ?_
      | refine Loop_n ?_
      | refine oD (id := 13) W18_13 [7] O18_13 [_, _, _, _, _, _, _, _] [_, _] rfl (by repeat' (first | exact trivial | refine And.intro ?_ ?_ | exact bS | exact bX | exact bZ | exact bI | exact bC (π := []) (hs := by first | exact tcopied_spec l hL | fail) | fail)) ?_
      | fail)
    refine wF 4 ?_
    repeat' (first
      | refine IOps_nil ?_
      | refine oS ?_
      | refine IOps_s rfl rfl ?_
      | refine oT ?_
      | refine IOps_s0 rfl ?_
      | refine oZ ?_
      | refine oI ?_
      | refine thenI_n ?_
      | refine IWP_seq ?_
      | refine IWP_region ?_
      | refine IWP_ct rfl ?_
      | refine IWP_cf rfl ?_
      | refine IWP_skip ?_
      | refine IWP_ret ?_
      | refine IWP_block ?_
      | refine inB_n ?_
      | refine thenI_r ?_
      | refine thenI_e ?_
      | refine inB_r ?_
      | refine inB_hit ?_
      | refine inB_miss rfl ?_
      | refine IWP_exit ?_
      | refine IWP_scope ?_
      | refine IWP_label ?_
      | refine noG_n ?_
      | refine noG_r ?_
      | refine noG_e ?_
      | refine jmp_n ?_
      | refine jmp_r ?_
      | refine jmp_e ?_
      | refine jmp_g ?_
      | refine thenI_g ?_
      | refine inB_g ?_
      | refine IWP_goto ?_
      | refine Loop_n ?_
      | refine oD (id := 13) W18_13 [7] O18_13 [_, _, _, _, _, _, _, _] [_, _] rfl (by repeat' (first | exact trivial | refine And.intro ?_ ?_ | exact bS | exact bX | exact bZ | exact bI | fail)) ?_
      | fail)
    exact pD [] ⟨rfl, rfl⟩
  · have hcs := tcheck_fz l hL
    cases hc : chkT l
    · rw [hc] at hcs
      rw [show delT l k = (l, 120) from if_pos (.inr hc)]
      refine sB Try.func18 Try.ntmps18 ?_
      repeat' (first
        | refine IOps_nil ?_
        | refine oS ?_
        | refine IOps_s rfl rfl ?_
        | refine oT ?_
        | refine IOps_s0 rfl ?_
        | refine oC (π := []) (hs := by first | exact tcopied_spec l hL | fail) (hx := ?_)
        | refine oC (π := []) (hs := by first | exact hcs | fail) (hx := ?_)
        | refine oZ ?_
        | refine oI ?_
        | refine thenI_n ?_
        | refine IWP_seq ?_
        | refine IWP_region ?_
        | refine IWP_ct rfl ?_
        | refine IWP_cf rfl ?_
        | refine IWP_skip ?_
        | refine IWP_block ?_
        | refine inB_n ?_
        | refine thenI_r ?_
        | refine thenI_e ?_
        | refine inB_r ?_
        | refine inB_hit ?_
        | refine inB_miss rfl ?_
        | refine IWP_exit ?_
        | refine IWP_scope ?_
        | refine IWP_label ?_
        | refine noG_n ?_
        | refine noG_r ?_
        | refine noG_e ?_
        | refine jmp_n ?_
        | refine jmp_r ?_
        | refine jmp_e ?_
        | refine jmp_g ?_
        | refine thenI_g ?_
        | refine inB_g ?_
        | refine IWP_goto ?_
        | refine Loop_n ?_
        | refine oD (id := 13) W18_13 [7] O18_13 [_, _, _, _, _, _, _, _] [_, _] rfl (by repeat' (first | exact trivial | refine And.intro ?_ ?_ | exact bS | exact bX | exact bZ | exact bI | exact bC (π := []) (hs := by first | exact tcopied_spec l hL | fail) | exact bC (π := []) (hs := by first | exact hcs | fail) | fail)) ?_
        | fail)
      refine wF 4 ?_
      repeat' (first
        | refine IOps_nil ?_
        | refine oS ?_
        | refine IOps_s rfl rfl ?_
        | refine oT ?_
        | refine IOps_s0 rfl ?_
        | refine oZ ?_
        | refine oI ?_
        | refine thenI_n ?_
        | refine IWP_seq ?_
        | refine IWP_region ?_
        | refine IWP_ct rfl ?_
        | refine IWP_cf rfl ?_
        | refine IWP_skip ?_
        | refine IWP_ret ?_
        | refine IWP_block ?_
        | refine inB_n ?_
        | refine thenI_r ?_
        | refine thenI_e ?_
        | refine inB_r ?_
        | refine inB_hit ?_
        | refine inB_miss rfl ?_
        | refine IWP_exit ?_
        | refine IWP_scope ?_
        | refine IWP_label ?_
        | refine noG_n ?_
        | refine noG_r ?_
        | refine noG_e ?_
        | refine jmp_n ?_
        | refine jmp_r ?_
        | refine jmp_e ?_
        | refine jmp_g ?_
        | refine thenI_g ?_
        | refine inB_g ?_
        | refine IWP_goto ?_
        | refine Loop_n ?_
        | refine oD (id := 13) W18_13 [7] O18_13 [_, _, _, _, _, _, _, _] [_, _] rfl (by repeat' (first | exact trivial | refine And.intro ?_ ?_ | exact bS | exact bX | exact bZ | exact bI | fail)) ?_
        | fail)
      exact pD [] ⟨rfl, rfl⟩
    · rw [hc] at hcs
      have ho := (chkT_iff l).1 hc
      have hl := ho.len
      have hss := seek_sl l k hl (by omega)
      have hlt := seek_lt l k
      have hdv : delT l k = if ky l (seekV l k) ≠ k then (l, 120) else (delV l (seekV l k), 0) := by
        unfold delT; rw [if_neg (fun x => x.elim h0 (fun y => by rw [hc] at y; cases y))]
      rw [hdv]
      generalize seekV l k = g at hss hlt ⊢
      by_cases he : (l.getD g default).key = k
      · have hkg : ky l g ≠ [] := fun x => h0 (he ▸ x)
        rw [if_neg fun x => x he]
        obtain ⟨e, hee, hfe, hff⟩ := first_free ho hlt hkg
        have hR := DelR.start ho hlt hkg hee hfe hff
        have hrl := (del_ok ho hlt hkg).1.len
        generalize delV l g = R at hR hrl ⊢
        refine sB Try.func18 Try.ntmps18 ?_
        repeat' (first
          | refine IOps_nil ?_
          | refine oS ?_
          | refine IOps_s rfl rfl ?_
          | refine oT ?_
          | refine IOps_s0 rfl ?_
          | refine oC (π := []) (hs := by first | exact tcopied_spec l hL | fail) (hx := ?_)
          | refine oC (π := []) (hs := by first | exact hcs | fail) (hx := ?_)
          | refine oC (π := [0]) (hs := by first | exact hss | fail) (hx := ?_)
          | refine oC0 (π := [0]) (hs := by first | exact hss | fail) (hx := ?_)
          | refine oC (π := []) (hs := by first | exact tnext_spec g hlt | fail) (hx := ?_)
          | refine oZ ?_
          | refine oI ?_
          | refine thenI_n ?_
          | refine IWP_seq ?_
          | refine IWP_region ?_
          | refine IWP_ct rfl ?_
          | refine IWP_cf rfl ?_
          | refine IWP_skip ?_
          | refine IWP_ret ?_
          | refine IWP_block ?_
          | refine inB_n ?_
          | refine thenI_r ?_
          | refine thenI_e ?_
          | refine inB_r ?_
          | refine inB_hit ?_
          | refine inB_miss rfl ?_
          | refine IWP_exit ?_
          | refine IWP_scope ?_
          | refine IWP_label ?_
          | refine noG_n ?_
          | refine noG_r ?_
          | refine noG_e ?_
          | refine jmp_n ?_
          | refine jmp_r ?_
          | refine jmp_e ?_
          | refine jmp_g ?_
          | refine thenI_g ?_
          | refine inB_g ?_
          | refine IWP_goto ?_
          | refine Loop_n ?_
          | refine oD (id := 13) W18_13 [7] O18_13 [_, _, _, _, _, _, _, _] [_, _] rfl (by repeat' (first | exact trivial | refine And.intro ?_ ?_ | exact bS | exact bX | exact bZ | exact bI | exact bC (π := []) (hs := by first | exact tcopied_spec l hL | fail) | exact bC (π := []) (hs := by first | exact hcs | fail) | exact bC (π := [0]) (hs := by first | exact hss | fail) | exact bC (π := []) (hs := by first | exact tnext_spec g hlt | fail) | fail)) ?_
          | fail)
        refine IWP_loop (fun x : List Pl × Nat => ⟨60, [(6, .sl 0 0 l.length l.length 2), (7, .i64 x.2)], [.arr true (places x.1)]⟩) (fun x => DelR l g e R x.1 x.2) (fun x => ds x.2 e) (l.set g noPl, (g + 1) % 128) (lP [0]) hR ?_
        clear hR
        rintro ⟨t, a⟩ hR
        replace hR : DelR l g e R t a := hR
        have hat := hR.inv.ha
        have htl := hR.inv.len
        by_cases hka : (t.getD a default).key = []
        · have hRt := hR.done hka
          repeat' (first
            | refine IOps_nil ?_
            | refine oS ?_
            | refine IOps_s rfl rfl ?_
            | refine oT ?_
            | refine IOps_s0 rfl ?_
            | refine oZ ?_
            | refine oI ?_
            | refine thenI_n ?_
            | refine IWP_seq ?_
            | refine IWP_region ?_
            | refine IWP_ct rfl ?_
            | refine IWP_cf rfl ?_
            | refine IWP_skip ?_
            | refine IWP_block ?_
            | refine inB_n ?_
            | refine thenI_r ?_
            | refine thenI_e ?_
            | refine inB_r ?_
            | refine inB_hit ?_
            | refine inB_miss rfl ?_
            | refine IWP_exit ?_
            | refine IWP_scope ?_
            | refine IWP_label ?_
            | refine noG_n ?_
            | refine noG_r ?_
            | refine noG_e ?_
            | refine jmp_n ?_
            | refine jmp_r ?_
            | refine jmp_e ?_
            | refine jmp_g ?_
            | refine thenI_g ?_
            | refine inB_g ?_
            | refine IWP_goto ?_
            | refine Loop_n ?_
            | refine oD (id := 13) W18_13 [7] O18_13 [_, _, _, _, _, _, _, _] [_, _] rfl (by repeat' (first | exact trivial | refine And.intro ?_ ?_ | exact bS | exact bX | exact bZ | exact bI | fail)) ?_
            | fail)
          refine wF 4 ?_
          repeat' (first
            | refine IOps_nil ?_
            | refine oS ?_
            | refine IOps_s rfl rfl ?_
            | refine oT ?_
            | refine IOps_s0 rfl ?_
            | refine oZ ?_
            | refine oI ?_
            | refine thenI_n ?_
            | refine IWP_seq ?_
            | refine IWP_region ?_
            | refine IWP_ct rfl ?_
            | refine IWP_cf rfl ?_
            | refine IWP_skip ?_
            | refine IWP_ret ?_
            | refine IWP_block ?_
            | refine inB_n ?_
            | refine thenI_r ?_
            | refine thenI_e ?_
            | refine inB_r ?_
            | refine inB_hit ?_
            | refine inB_miss rfl ?_
            | refine IWP_exit ?_
            | refine IWP_scope ?_
            | refine IWP_label ?_
            | refine noG_n ?_
            | refine noG_r ?_
            | refine noG_e ?_
            | refine jmp_n ?_
            | refine jmp_r ?_
            | refine jmp_e ?_
            | refine jmp_g ?_
            | refine thenI_g ?_
            | refine inB_g ?_
            | refine IWP_goto ?_
            | refine Loop_n ?_
            | refine oD (id := 13) W18_13 [7] O18_13 [_, _, _, _, _, _, _, _] [_, _] rfl (by repeat' (first | exact trivial | refine And.intro ?_ ?_ | exact bS | exact bX | exact bZ | exact bI | fail)) ?_
            | fail)
          rw [hRt, htl, ← hl]
          exact pD [] ⟨rfl, rfl⟩
        · have hst := (hR.inv.step hlt hee hka)
          have hok : keyOk (t.getD a default).key := hR.inv.ok a hat hka
          have hsk := seek_sl (t.set a noPl) (t.getD a default).key (by rw [List.length_set]; exact htl) (by have := hok.2; omega)
          have hs2 : seekV (t.set a noPl) (t.getD a default).key < 128 := hst.2
          rw [List.length_set, htl, ← hl] at hsk
          repeat' (first
            | refine IOps_nil ?_
            | refine oS ?_
            | refine IOps_s rfl rfl ?_
            | refine oT ?_
            | refine IOps_s0 rfl ?_
            | refine oC (π := [0]) (hs := by first | exact hsk | fail) (hx := ?_)
            | refine oC0 (π := [0]) (hs := by first | exact hsk | fail) (hx := ?_)
            | refine oC (π := []) (hs := by first | exact tnext_spec a hat | fail) (hx := ?_)
            | refine oZ ?_
            | refine oI ?_
            | refine thenI_n ?_
            | refine IWP_seq ?_
            | refine IWP_region ?_
            | refine IWP_ct rfl ?_
            | refine IWP_cf rfl ?_
            | refine IWP_skip ?_
            | refine IWP_ret ?_
            | refine IWP_block ?_
            | refine inB_n ?_
            | refine thenI_r ?_
            | refine thenI_e ?_
            | refine inB_r ?_
            | refine inB_hit ?_
            | refine inB_miss rfl ?_
            | refine IWP_exit ?_
            | refine IWP_scope ?_
            | refine IWP_label ?_
            | refine noG_n ?_
            | refine noG_r ?_
            | refine noG_e ?_
            | refine jmp_n ?_
            | refine jmp_r ?_
            | refine jmp_e ?_
            | refine jmp_g ?_
            | refine thenI_g ?_
            | refine inB_g ?_
            | refine IWP_goto ?_
            | refine Loop_n ?_
            | refine oD (id := 13) W18_13 [7] O18_13 [_, _, _, _, _, _, _, _] [_, _] rfl (by repeat' (first | exact trivial | refine And.intro ?_ ?_ | exact bS | exact bX | exact bZ | exact bI | exact bC (π := [0]) (hs := by first | exact hsk | fail) | exact bC (π := []) (hs := by first | exact tnext_spec a hat | fail) | fail)) ?_
            | fail)
          obtain ⟨hs3, hs4⟩ := hR.step hlt hee hka
          exact ⟨(relay t a, (a + 1) % 128), hs3, hs4, lP [0]⟩
      · rw [if_pos (show ky l g ≠ k from he)]
        refine sB Try.func18 Try.ntmps18 ?_
        repeat' (first
          | refine IOps_nil ?_
          | refine oS ?_
          | refine IOps_s rfl rfl ?_
          | refine oT ?_
          | refine IOps_s0 rfl ?_
          | refine oC (π := []) (hs := by first | exact tcopied_spec l hL | fail) (hx := ?_)
          | refine oC (π := []) (hs := by first | exact hcs | fail) (hx := ?_)
          | refine oC (π := [0]) (hs := by first | exact hss | fail) (hx := ?_)
          | refine oC0 (π := [0]) (hs := by first | exact hss | fail) (hx := ?_)
          | refine oZ ?_
          | refine oI ?_
          | refine thenI_n ?_
          | refine IWP_seq ?_
          | refine IWP_region ?_
          | refine IWP_ct rfl ?_
          | refine IWP_cf rfl ?_
          | refine IWP_skip ?_
          | refine IWP_block ?_
          | refine inB_n ?_
          | refine thenI_r ?_
          | refine thenI_e ?_
          | refine inB_r ?_
          | refine inB_hit ?_
          | refine inB_miss rfl ?_
          | refine IWP_exit ?_
          | refine IWP_scope ?_
          | refine IWP_label ?_
          | refine noG_n ?_
          | refine noG_r ?_
          | refine noG_e ?_
          | refine jmp_n ?_
          | refine jmp_r ?_
          | refine jmp_e ?_
          | refine jmp_g ?_
          | refine thenI_g ?_
          | refine inB_g ?_
          | refine IWP_goto ?_
          | refine Loop_n ?_
          | refine oD (id := 13) W18_13 [7] O18_13 [_, _, _, _, _, _, _, _] [_, _] rfl (by repeat' (first | exact trivial | refine And.intro ?_ ?_ | exact bS | exact bX | exact bZ | exact bI | exact bC (π := []) (hs := by first | exact tcopied_spec l hL | fail) | exact bC (π := []) (hs := by first | exact hcs | fail) | exact bC (π := [0]) (hs := by first | exact hss | fail) | fail)) ?_
          | fail)
        refine wF 4 ?_
        repeat' (first
          | refine IOps_nil ?_
          | refine oS ?_
          | refine IOps_s rfl rfl ?_
          | refine oT ?_
          | refine IOps_s0 rfl ?_
          | refine oZ ?_
          | refine oI ?_
          | refine thenI_n ?_
          | refine IWP_seq ?_
          | refine IWP_region ?_
          | refine IWP_ct rfl ?_
          | refine IWP_cf rfl ?_
          | refine IWP_skip ?_
          | refine IWP_ret ?_
          | refine IWP_block ?_
          | refine inB_n ?_
          | refine thenI_r ?_
          | refine thenI_e ?_
          | refine inB_r ?_
          | refine inB_hit ?_
          | refine inB_miss rfl ?_
          | refine IWP_exit ?_
          | refine IWP_scope ?_
          | refine IWP_label ?_
          | refine noG_n ?_
          | refine noG_r ?_
          | refine noG_e ?_
          | refine jmp_n ?_
          | refine jmp_r ?_
          | refine jmp_e ?_
          | refine jmp_g ?_
          | refine thenI_g ?_
          | refine inB_g ?_
          | refine IWP_goto ?_
          | refine Loop_n ?_
          | refine oD (id := 13) W18_13 [7] O18_13 [_, _, _, _, _, _, _, _] [_, _] rfl (by repeat' (first | exact trivial | refine And.intro ?_ ?_ | exact bS | exact bX | exact bZ | exact bI | fail)) ?_
          | fail)
        exact pD [] ⟨rfl, rfl⟩
end Go.Proofs.Ytgchgdfigbonhaa

namespace Go.Proofs.Ytgchgdfigbonhaa
open Go Go.Idl
set_option linter.unusedSimpArgs false
set_option linter.unusedVariables false
set_option maxHeartbeats 4000000
set_option maxRecDepth 100000
structure Ins (l : List Pl) (k : Ks) (v : Int) (m : List Pl) : Prop where
  ok : OkT m
  few : held m ≤ held l + 1
  mem : ∀ x : Pl, x.key ≠ [] → (x ∈ m ↔ x = ⟨k, v⟩ ∨ (x ∈ l ∧ x.key ≠ k))
structure Del (l : List Pl) (k : Ks) (m : List Pl) : Prop where
  ok : OkT m
  few : held m + 1 = held l
  mem : ∀ x : Pl, x.key ≠ [] → (x ∈ m ↔ x ∈ l ∧ x.key ≠ k)
theorem chk_ok {l : List Pl} (h : OkT l) : chkT l = true := (chkT_iff l).2 h
theorem getT_of {l : List Pl} (h : OkT l) (k : Ks) : getT l k = getV l k := by unfold getT; rw [chk_ok h]; rfl
theorem at_key {l : List Pl} (h : OkT l) {k : Ks} (hk : k ≠ []) (hn : ky l (seekV l k) ≠ k) : ∀ x, x ∈ l → x.key ≠ k := fun x hx e => by
  obtain ⟨p, hp, rfl⟩ := h.mem.1 hx
  have e : ky l p = k := e
  have := h.at hp (by rw [e]; exact hk)
  rw [e] at this
  exact hn (by rw [this]; exact e)
theorem put_cases {l : List Pl} (h : OkT l) (k : Ks) (v : Int) :
    (¬ keyOk k ∧ putT l k v = (l, 90)) ∨ (keyOk k ∧ 96 ≤ held l ∧ (∀ x, x ∈ l → x.key ≠ k) ∧ putT l k v = (l, 110)) ∨ (keyOk k ∧ (held l < 96 ∨ ∃ x, x ∈ l ∧ x.key = k) ∧ ∃ m, putT l k v = (m, 0) ∧ Ins l k v m) := by
  unfold putT
  rw [chk_ok h, if_neg (by decide)]
  by_cases hk : keyOk k
  · rw [if_neg fun x => x hk]
    have hne := keyOk_ne hk
    by_cases hr : ky l (seekV l k) ≠ k ∧ 96 ≤ held l
    · exact .inr (.inl ⟨hk, hr.2, at_key h hne hr.1, if_pos hr⟩)
    · rw [if_neg hr]
      have hr2 : ky l (seekV l k) = k ∨ held l < 96 := by
        by_cases e : ky l (seekV l k) = k
        · exact .inl e
        · exact .inr (by have : ¬ 96 ≤ held l := fun x => hr ⟨e, x⟩; omega)
      refine .inr (.inr ⟨hk, ?_, _, rfl, put_ok h v hk hr2, ?_, fun x hx => put_mem h v hne hx⟩)
      · rcases hr2 with e | e
        · exact .inr ⟨_, h.mem.2 ⟨_, seek_lt l k, rfl⟩, e⟩
        · exact .inl e
      · have := held_set (l := l) (i := seekV l k) ⟨k, v⟩ (by rw [h.len]; exact seek_lt l k)
        simp only at this
        rw [if_pos hne] at this
        split at this <;> omega
  · exact .inl ⟨hk, if_pos hk⟩
theorem get_at {l : List Pl} (h : OkT l) (k : Ks) : (getV l k).2 = true ↔ k ≠ [] ∧ ky l (seekV l k) = k := by
  unfold getV
  split
  · next e => exact ⟨fun _ => e, fun _ => rfl⟩
  · next e => exact ⟨fun x => absurd x (by decide), fun x => absurd x e⟩
theorem del_cases {l : List Pl} (h : OkT l) (k : Ks) : ((getV l k).2 = false ∧ delT l k = (l, 120)) ∨ ((getV l k).2 = true ∧ ∃ m, delT l k = (m, 0) ∧ Del l k m) := by
  have hg := get_at h k
  unfold delT
  by_cases h0 : k = []
  · refine .inl ⟨?_, if_pos (.inl h0)⟩
    subst h0; rw [get_nil]
  · rw [if_neg (fun x => x.elim h0 (fun y => by rw [chk_ok h] at y; cases y))]
    by_cases he : ky l (seekV l k) = k
    · rw [if_neg fun x => x he]
      obtain ⟨d1, d2, d3⟩ := del_ok h (seek_lt l k) (by rw [he]; exact h0)
      rw [he] at d3
      exact .inr ⟨hg.2 ⟨h0, he⟩, _, rfl, d1, d2, d3⟩
    · refine .inl ⟨?_, if_pos he⟩
      cases e : (getV l k).2 with
      | false => rfl
      | true => exact absurd (hg.1 e).2 he
theorem ins_self {l : List Pl} {k : Ks} {v : Int} {m : List Pl} (h : Ins l k v m) (hk : k ≠ []) : getV m k = (v, true) := get_mem h.ok hk ((h.mem ⟨k, v⟩ hk).2 (.inl rfl))
theorem ins_ne {l : List Pl} (hl : OkT l) {k : Ks} {v : Int} {m : List Pl} (h : Ins l k v m) {q : Ks} (hq : q ≠ k) : getV m q = getV l q :=
  get_ext h.ok hl fun w hk => by
    rw [h.mem ⟨q, w⟩ hk]
    exact ⟨fun x => x.elim (fun e => absurd (congrArg Pl.key e) hq) (·.1), fun x => .inr ⟨x, hq⟩⟩
theorem del_self {l : List Pl} {k : Ks} {m : List Pl} (h : Del l k m) : getV m k = (0, false) := by
  by_cases hk : k = []
  · subst hk; exact get_nil m
  · exact get_non h.ok fun x hx e => ((h.mem x (by rw [e]; exact hk)).1 hx).2 e
theorem del_ne {l : List Pl} (hl : OkT l) {k : Ks} {m : List Pl} (h : Del l k m) {q : Ks} (hq : q ≠ k) : getV m q = getV l q :=
  get_ext h.ok hl fun w hk => by
    rw [h.mem ⟨q, w⟩ hk]
    exact ⟨(·.1), fun x => ⟨x, hq⟩⟩
/-- A key that had no place, put: deleted again, the table is as it was. -/
theorem put_del {l : List Pl} (h : OkT l) {k : Ks} {v : Int} (hk : keyOk k) (hn : (getV l k).2 = false) (hf : held l < 96) : ∃ m, putT l k v = (m, 0) ∧ Ins l k v m ∧ delT m k = (l, 0) := by
  have hne := keyOk_ne hk
  have hna : ky l (seekV l k) ≠ k := fun e => by rw [(get_at h k).2 ⟨hne, e⟩] at hn; cases hn
  obtain ⟨s1, s2, s3⟩ := h.seek k
  have hfree : ky l (seekV l k) = [] := s2.elim id fun e => absurd e hna
  rcases put_cases h k v with ⟨x, _⟩ | ⟨_, x, _⟩ | ⟨_, _, m, hm, hi⟩
  · exact absurd hk x
  · omega
  · refine ⟨m, hm, hi, ?_⟩
    have hme : m = l.set (seekV l k) ⟨k, v⟩ := by
      have : putT l k v = (l.set (seekV l k) ⟨k, v⟩, 0) := by
        unfold putT
        rw [chk_ok h, if_neg (by decide), if_neg (fun x => x hk), if_neg (fun x => by omega)]
      rw [this] at hm
      exact (congrArg Prod.fst hm).symm
    subst hme
    have hsl : seekV l k < l.length := by rw [h.len]; exact s1
    have hat := hi.ok.at s1 (by rw [ky_at hsl]; exact hne)
    rw [ky_at hsl] at hat
    simp only at hat
    unfold delT
    rw [if_neg (fun x => x.elim hne (fun y => by rw [chk_ok hi.ok] at y; cases y)), hat, if_neg (fun x => x (ky_at hsl)), back_del h s1 hfree]
/-! ### All keys -/
theorem keys_mem {l : List Pl} (h : OkT l) (k : Ks) : k ∈ keysV l ↔ k ≠ [] ∧ ∃ v, (⟨k, v⟩ : Pl) ∈ l := by
  unfold keysV
  rw [chk_ok h, if_pos rfl, (srtK_perm _).mem_iff]
  unfold keysOf
  rw [List.mem_map]
  constructor
  · rintro ⟨⟨k', v⟩, hx, rfl⟩
    obtain ⟨h1, h2⟩ := List.mem_filter.1 hx
    exact ⟨of_decide_eq_true h2, v, h1⟩
  · rintro ⟨h1, v, h2⟩
    exact ⟨⟨k, v⟩, List.mem_filter.2 ⟨h2, decide_eq_true h1⟩, rfl⟩
theorem keysOf_nodup {l : List Pl} (h : OkT l) : (keysOf l).Pairwise fun a b => a ≠ b := by
  unfold keysOf
  rw [List.pairwise_map]
  have : l.Pairwise fun a b => a.key ≠ [] → a.key ≠ b.key := by
    rw [List.pairwise_iff_getElem]
    intro i j hi hj hij hk e
    have hl := h.len
    have hgi := gd_eq hi
    have hgj := gd_eq hj
    have := h.inj (p := i) (q := j) (by omega) (by omega) (by unfold ky; rw [hgi]; exact hk) (by unfold ky; rw [hgi, hgj]; exact e)
    omega
  refine (this.sublist List.filter_sublist).imp_of_mem fun {a b} ha _ hab => hab (of_decide_eq_true (List.mem_filter.1 ha).2)
theorem keys_up {l : List Pl} (h : OkT l) : (keysV l).Pairwise fun x y => cS x y < 0 := by
  unfold keysV
  rw [chk_ok h, if_pos rfl]
  have h1 := srtK_srt (keysOf l)
  have h2 : (srtK (keysOf l)).Pairwise fun a b => a ≠ b := ((srtK_perm _).pairwise_iff fun {a b} h => Ne.symm h).2 (keysOf_nodup h)
  refine (h1.and h2).imp fun {a b} hab => ?_
  apply Decidable.byContradiction
  intro hn
  exact hab.2 (cS_tot hn hab.1)
theorem up_ext : ∀ {l m : List Ks}, (l.Pairwise fun x y => cS x y < 0) → (m.Pairwise fun x y => cS x y < 0) → (∀ d, d ∈ l ↔ d ∈ m) → l = m
  | [], [], _, _, _ => rfl
  | [], b :: m, _, _, h => absurd ((h b).2 List.mem_cons_self) (by simp)
  | a :: l, [], _, _, h => absurd ((h a).1 List.mem_cons_self) (by simp)
  | a :: l, b :: m, hl, hm, h => by
    obtain ⟨hl1, hl2⟩ := List.pairwise_cons.1 hl
    obtain ⟨hm1, hm2⟩ := List.pairwise_cons.1 hm
    have hirr : ∀ x : Ks, ¬ cS x x < 0 := fun x hx => by
      have := cS_ord.asym x x (decide_eq_true hx)
      rw [decide_eq_true hx] at this; cases this
    have hasy : ∀ {x y : Ks}, cS x y < 0 → ¬ cS y x < 0 := fun hx hy => by
      have := cS_ord.asym _ _ (decide_eq_true hx)
      rw [decide_eq_true hy] at this; cases this
    have e : a = b := by
      rcases List.mem_cons.1 ((h a).1 List.mem_cons_self) with e | e
      · exact e
      · rcases List.mem_cons.1 ((h b).2 List.mem_cons_self) with e2 | e2
        · exact e2.symm
        · exact absurd (hl1 b e2) (hasy (hm1 a e))
    subst e
    congr 1
    refine up_ext hl2 hm2 fun d => ⟨fun hd => ?_, fun hd => ?_⟩
    · rcases List.mem_cons.1 ((h d).1 (List.mem_cons_of_mem _ hd)) with e | e
      · have := hl1 d hd; rw [e] at this; exact absurd this (hirr _)
      · exact e
    · rcases List.mem_cons.1 ((h d).2 (List.mem_cons_of_mem _ hd)) with e | e
      · have := hm1 d hd; rw [e] at this; exact absurd this (hirr _)
      · exact e
theorem keys_eq {l : List Pl} (h : OkT l) {K : List Ks} (hK : K.Pairwise fun x y => cS x y < 0) (hm : ∀ k, k ∈ K ↔ k ≠ [] ∧ ∃ v, (⟨k, v⟩ : Pl) ∈ l) : keysV l = K :=
  up_ext (keys_up h) hK fun d => by rw [keys_mem h, hm]
/-! ### The empty table -/
def noT : List Pl := List.replicate 128 default
theorem noT_len : noT.length = 128 := rfl
theorem noT_gd (p : Nat) : gd noT p = noPl := by
  unfold noT
  rw [gd, List.getD_eq_getElem?_getD, List.getElem?_replicate]
  split <;> rfl
theorem noT_ok : OkT noT := by
  refine ⟨rfl, fun p hp _ => by rw [noT_gd], fun p hp hk => ?_, fun p hp hk => ?_, by decide +kernel⟩
  · unfold ky at hk; rw [noT_gd] at hk; exact absurd rfl hk
  · unfold ky at hk; rw [noT_gd] at hk; exact absurd rfl hk
theorem noT_held : held noT = 0 := by decide +kernel
theorem noT_mem {x : Pl} (h : x ∈ noT) : x.key = [] := by
  obtain ⟨p, hp, rfl⟩ := noT_ok.mem.1 h
  rw [noT_gd]
theorem noT_get (k : Ks) : getV noT k = (0, false) := by
  by_cases hk : k = []
  · subst hk; exact get_nil _
  · exact get_non noT_ok fun x hx e => hk (by rw [← e]; exact noT_mem hx)
end Go.Proofs.Ytgchgdfigbonhaa

namespace Go.Proofs.Ytgchgdfigbonhaa
open Go Go.Idl
set_option linter.unusedSimpArgs false
set_option linter.unusedVariables false
set_option maxRecDepth 100000
set_option maxHeartbeats 4000000
structure Ts where
  del : Bool
  key : List UInt8
  val : Int
  deriving DecidableEq
instance : Inhabited Ts := ⟨⟨false, [], 0⟩⟩
def tsRc : Rc Ts := ⟨fun x => [.sc (.bool x.del), .str x.key, .sc (.int .i64 x.val)], 3, fun _ => rfl⟩
def steps (l : List Ts) : List IV := fl tsRc l
section
variable {l a b : List Ts} {i n : Nat}
theorem steps_length : (steps l).length = l.length * 3 := fl_length tsRc l
theorem steps_drop : (steps l).drop (n * 3) = steps (l.drop n) := fl_drop tsRc l n
theorem steps_take : (steps l).take (n * 3) = steps (l.take n) := fl_take tsRc l n
theorem steps_app : steps a ++ steps b = steps (a ++ b) := fl_app tsRc a b
theorem steps_one {v0 : Bool} {v1 : List UInt8} {v2 : Int} : steps [⟨v0, v1, v2⟩] = [.sc (.bool v0), .sc (.string ⟨⟨v1⟩⟩), .sc (.int .i64 v2)] := rfl
theorem steps_nil : steps [] = [] := rfl
theorem steps_snoc {v0 : Bool} {v1 : List UInt8} {v2 : Int} : steps a ++ [.sc (.bool v0), .sc (.string ⟨⟨v1⟩⟩), .sc (.int .i64 v2)] = steps (a ++ [⟨v0, v1, v2⟩]) := fl_app tsRc a [⟨v0, v1, v2⟩]
theorem steps_part (h : i < l.length) : (steps (l.drop i)).take 3 = [.sc (.bool (l.getD i default).del), .sc (.string ⟨⟨(l.getD i default).key⟩⟩), .sc (.int .i64 (l.getD i default).val)] := by rw [← steps_drop]; exact fl_part tsRc h
theorem steps_part0 (h : 0 < l.length) : (steps l).take 3 = [.sc (.bool (l.getD 0 default).del), .sc (.string ⟨⟨(l.getD 0 default).key⟩⟩), .sc (.int .i64 (l.getD 0 default).val)] := by have := steps_part h; rwa [List.drop_zero] at this
theorem steps_get0 (h : i < l.length) : (steps l).getD (i * 3) .any = .sc (.bool (l.getD i default).del) := fl_get tsRc (j := 0) h (by decide)
theorem steps_set0 (h : i < l.length) {v : Bool} : (steps l).set (i * 3) (.sc (.bool v)) = steps (l.set i ⟨v, (l.getD i default).key, (l.getD i default).val⟩) := fl_set tsRc h (j := 0) (by decide) _ _ rfl
theorem steps_get1 (h : i < l.length) : (steps l).getD (i * 3 + 1) .any = .sc (.string ⟨⟨(l.getD i default).key⟩⟩) := fl_get tsRc (j := 1) h (by decide)
theorem steps_set1 (h : i < l.length) {v : List UInt8} : (steps l).set (i * 3 + 1) (.sc (.string ⟨⟨v⟩⟩)) = steps (l.set i ⟨(l.getD i default).del, v, (l.getD i default).val⟩) := fl_set tsRc h (j := 1) (by decide) _ _ rfl
theorem steps_get2 (h : i < l.length) : (steps l).getD (i * 3 + 2) .any = .sc (.int .i64 (l.getD i default).val) := fl_get tsRc (j := 2) h (by decide)
theorem steps_set2 (h : i < l.length) {v : Int} : (steps l).set (i * 3 + 2) (.sc (.int .i64 v)) = steps (l.set i ⟨(l.getD i default).del, (l.getD i default).key, v⟩) := fl_set tsRc h (j := 2) (by decide) _ _ rfl
theorem steps_splice (h : i < l.length) {v0 : Bool} {v1 : List UInt8} {v2 : Int} : splice (steps l) (i * 3) [.sc (.bool v0), .sc (.string ⟨⟨v1⟩⟩), .sc (.int .i64 v2)] = steps (l.set i ⟨v0, v1, v2⟩) := fl_splice tsRc h ⟨v0, v1, v2⟩
theorem steps_zeros : zrep n [.sc (.bool false), .sc (.string ⟨⟨[]⟩⟩), .sc (.int .i64 0)] = steps (List.replicate n default) := fl_zeros tsRc default n (by decide)
theorem steps_closed : IV.closedL (steps l) = true := fl_closed tsRc (fun _ => rfl) l
theorem steps_ones : IV.ones (steps l) = true := fl_ones tsRc (fun _ => rfl) l
theorem steps_fresh : IV.freshL (steps l) = true := fl_fresh tsRc (fun _ => rfl) l
theorem steps_relab : IV.relabL (steps l) = steps l := fl_relab tsRc (fun _ => by simp [tsRc, IV.relabL, IV.relab, IV.str]) l
theorem steps_ren {σ : Nat → Option Nat} : IV.renL σ (steps l) = steps l := fl_ren tsRc (fun _ => by simp [tsRc, IV.renL, IV.ren, IV.str]) l
end
attribute [go_sem] steps_length steps_drop steps_take steps_app steps_snoc steps_part steps_part0 steps_get0 steps_set0 steps_get1 steps_set1 steps_get2 steps_set2 steps_zeros steps_closed steps_ones steps_fresh steps_relab steps_ren
attribute [go_sem] steps_splice
def fewP (l : List Ts) (m : Int) : Prop := (∀ i, i < l.length → (l.getD i default).key.length ≤ 100) ∧ (l.length : Int) ≤ m
instance (l : List Ts) (m : Int) : Decidable (fewP l m) := by unfold fewP; infer_instance
attribute [local irreducible] Go.Idl.IWP Go.Idl.IOps Go.Idl.Obl Go.Idl.OpG Go.Idl.thenI Go.Idl.inBlockI Go.Idl.LoopU Go.Idl.noGotoI Go.Idl.jumpI
attribute [local go_sem] List.length_set splice2 splice_places relab_fz1
theorem few_spec (l : List Ts) (m : Int) (hL : l.length ≤ 9223372036854775807) : Idl.Spec Try.prog 9 [.fz false (steps l) l.length, .i64 m] [] (Only (.sc (.bool (decide (fewP l m)))) []) := by
  refine sB Try.func9 Try.ntmps9 ?_
  repeat' (first
    | refine IOps_nil ?_
    | refine oS ?_
    | refine IOps_s rfl rfl ?_
    | refine oT ?_
    | refine IOps_s0 rfl ?_
    | refine oZ ?_
    | refine oI ?_
    | refine thenI_n ?_
    | refine IWP_seq ?_
    | refine IWP_region ?_
    | refine IWP_ct rfl ?_
    | refine IWP_cf rfl ?_
    | refine IWP_skip ?_
    | refine IWP_ret ?_
    | refine IWP_block ?_
    | refine inB_n ?_
    | refine thenI_r ?_
    | refine thenI_e ?_
    | refine inB_r ?_
    | refine inB_hit ?_
    | refine inB_miss rfl ?_
    | refine IWP_exit ?_
    | refine IWP_scope ?_
    | refine IWP_label ?_
    | refine noG_n ?_
    | refine noG_r ?_
    | refine noG_e ?_
    | refine jmp_n ?_
    | refine jmp_r ?_
    | refine jmp_e ?_
    | refine jmp_g ?_
    | refine thenI_g ?_
    | refine inB_g ?_
    | refine IWP_goto ?_
    | refine Loop_n ?_
    | fail)
  refine IWP_loop (fun i : Nat => ⟨23, [(0, .fz false (steps l) l.length), (1, .i64 m), (4, .sc (.bool false)), (5, .i64 i)], []⟩) (fun i => i ≤ l.length ∧ ∀ j, j < i → (l.getD j default).key.length ≤ 100) (fun i => l.length - i) 0 (lP []) ⟨Nat.zero_le _, fun j h => by omega⟩ ?_
  rintro i ⟨hi, hok⟩
  by_cases h : i < l.length
  · by_cases hk : (l.getD i default).key.length ≤ 100
    · repeat' (first
        | refine IOps_nil ?_
        | refine oS ?_
        | refine IOps_s rfl rfl ?_
        | refine oT ?_
        | refine IOps_s0 rfl ?_
        | refine oZ ?_
        | refine oI ?_
        | refine thenI_n ?_
        | refine IWP_seq ?_
        | refine IWP_region ?_
        | refine IWP_ct rfl ?_
        | refine IWP_cf rfl ?_
        | refine IWP_skip ?_
        | refine IWP_ret ?_
        | refine IWP_block ?_
        | refine inB_n ?_
        | refine thenI_r ?_
        | refine thenI_e ?_
        | refine inB_r ?_
        | refine inB_hit ?_
        | refine inB_miss rfl ?_
        | refine IWP_exit ?_
        | refine IWP_scope ?_
        | refine IWP_label ?_
        | refine noG_n ?_
        | refine noG_r ?_
        | refine noG_e ?_
        | refine jmp_n ?_
        | refine jmp_r ?_
        | refine jmp_e ?_
        | refine jmp_g ?_
        | refine thenI_g ?_
        | refine inB_g ?_
        | refine IWP_goto ?_
        | refine Loop_n ?_
        | fail)
      exact ⟨i + 1, ⟨h, fun j hj => by
        rcases Nat.lt_succ_iff_lt_or_eq.1 hj with x | rfl
        · exact hok j x
        · exact hk⟩, by omega, lP []⟩
    · rw [show decide (fewP l m) = false from decide_eq_false fun x => hk (x.1 i h)]
      repeat' (first
        | refine IOps_nil ?_
        | refine oS ?_
        | refine IOps_s rfl rfl ?_
        | refine oT ?_
        | refine IOps_s0 rfl ?_
        | refine oZ ?_
        | refine oI ?_
        | refine thenI_n ?_
        | refine IWP_seq ?_
        | refine IWP_region ?_
        | refine IWP_ct rfl ?_
        | refine IWP_cf rfl ?_
        | refine IWP_skip ?_
        | refine IWP_ret ?_
        | refine IWP_block ?_
        | refine inB_n ?_
        | refine thenI_r ?_
        | refine thenI_e ?_
        | refine inB_r ?_
        | refine inB_hit ?_
        | refine inB_miss rfl ?_
        | refine IWP_exit ?_
        | refine IWP_scope ?_
        | refine IWP_label ?_
        | refine noG_n ?_
        | refine noG_r ?_
        | refine noG_e ?_
        | refine jmp_n ?_
        | refine jmp_r ?_
        | refine jmp_e ?_
        | refine jmp_g ?_
        | refine thenI_g ?_
        | refine inB_g ?_
        | refine IWP_goto ?_
        | refine Loop_n ?_
        | fail)
      exact pD [] ⟨rfl, rfl⟩
  · by_cases hm : (l.length : Int) ≤ m
    · rw [show decide (fewP l m) = true from decide_eq_true ⟨fun j hj => hok j (by omega), hm⟩]
      repeat' (first
        | refine IOps_nil ?_
        | refine oS ?_
        | refine IOps_s rfl rfl ?_
        | refine oT ?_
        | refine IOps_s0 rfl ?_
        | refine oZ ?_
        | refine oI ?_
        | refine thenI_n ?_
        | refine IWP_seq ?_
        | refine IWP_region ?_
        | refine IWP_ct rfl ?_
        | refine IWP_cf rfl ?_
        | refine IWP_skip ?_
        | refine IWP_ret ?_
        | refine IWP_block ?_
        | refine inB_n ?_
        | refine thenI_r ?_
        | refine thenI_e ?_
        | refine inB_r ?_
        | refine inB_hit ?_
        | refine inB_miss rfl ?_
        | refine IWP_exit ?_
        | refine IWP_scope ?_
        | refine IWP_label ?_
        | refine noG_n ?_
        | refine noG_r ?_
        | refine noG_e ?_
        | refine jmp_n ?_
        | refine jmp_r ?_
        | refine jmp_e ?_
        | refine jmp_g ?_
        | refine thenI_g ?_
        | refine inB_g ?_
        | refine IWP_goto ?_
        | refine Loop_n ?_
        | fail)
      exact pD [] ⟨rfl, rfl⟩
    · rw [show decide (fewP l m) = false from decide_eq_false fun x => hm x.2]
      repeat' (first
        | refine IOps_nil ?_
        | refine oS ?_
        | refine IOps_s rfl rfl ?_
        | refine oT ?_
        | refine IOps_s0 rfl ?_
        | refine oZ ?_
        | refine oI ?_
        | refine thenI_n ?_
        | refine IWP_seq ?_
        | refine IWP_region ?_
        | refine IWP_ct rfl ?_
        | refine IWP_cf rfl ?_
        | refine IWP_skip ?_
        | refine IWP_ret ?_
        | refine IWP_block ?_
        | refine inB_n ?_
        | refine thenI_r ?_
        | refine thenI_e ?_
        | refine inB_r ?_
        | refine inB_hit ?_
        | refine inB_miss rfl ?_
        | refine IWP_exit ?_
        | refine IWP_scope ?_
        | refine IWP_label ?_
        | refine noG_n ?_
        | refine noG_r ?_
        | refine noG_e ?_
        | refine jmp_n ?_
        | refine jmp_r ?_
        | refine jmp_e ?_
        | refine jmp_g ?_
        | refine thenI_g ?_
        | refine inB_g ?_
        | refine IWP_goto ?_
        | refine Loop_n ?_
        | fail)
      exact pD [] ⟨rfl, rfl⟩
theorem new_spec : Idl.Spec Try.prog 10 [] [] (Only (.fz true (places noT) noT.length) []) := by
  refine sB Try.func10 Try.ntmps10 ?_
  repeat' (first
    | refine IOps_nil ?_
    | refine oS ?_
    | refine IOps_s rfl rfl ?_
    | refine oT ?_
    | refine IOps_s0 rfl ?_
    | refine oZ ?_
    | refine oI ?_
    | refine thenI_n ?_
    | refine IWP_seq ?_
    | refine IWP_region ?_
    | refine IWP_ct rfl ?_
    | refine IWP_cf rfl ?_
    | refine IWP_skip ?_
    | refine IWP_block ?_
    | refine inB_n ?_
    | refine thenI_r ?_
    | refine thenI_e ?_
    | refine inB_r ?_
    | refine inB_hit ?_
    | refine inB_miss rfl ?_
    | refine IWP_exit ?_
    | refine IWP_scope ?_
    | refine IWP_label ?_
    | refine noG_n ?_
    | refine noG_r ?_
    | refine noG_e ?_
    | refine jmp_n ?_
    | refine jmp_r ?_
    | refine jmp_e ?_
    | refine jmp_g ?_
    | refine thenI_g ?_
    | refine inB_g ?_
    | refine IWP_goto ?_
    | refine Loop_n ?_
    | fail)
  refine wF 0 ?_
  repeat' (first
    | refine IOps_nil ?_
    | refine oS ?_
    | refine IOps_s rfl rfl ?_
    | refine oT ?_
    | refine IOps_s0 rfl ?_
    | refine oZ ?_
    | refine oI ?_
    | refine thenI_n ?_
    | refine IWP_seq ?_
    | refine IWP_region ?_
    | refine IWP_ct rfl ?_
    | refine IWP_cf rfl ?_
    | refine IWP_skip ?_
    | refine IWP_ret ?_
    | refine IWP_block ?_
    | refine inB_n ?_
    | refine thenI_r ?_
    | refine thenI_e ?_
    | refine inB_r ?_
    | refine inB_hit ?_
    | refine inB_miss rfl ?_
    | refine IWP_exit ?_
    | refine IWP_scope ?_
    | refine IWP_label ?_
    | refine noG_n ?_
    | refine noG_r ?_
    | refine noG_e ?_
    | refine jmp_n ?_
    | refine jmp_r ?_
    | refine jmp_e ?_
    | refine jmp_g ?_
    | refine thenI_g ?_
    | refine inB_g ?_
    | refine IWP_goto ?_
    | refine Loop_n ?_
    | fail)
  exact pD [] ⟨rfl, rfl⟩
theorem psame_spec (a b : List Pl) (ha : a.length ≤ 1000000) : Idl.Spec Try.prog 17 [.fz false (places a) a.length, .fz false (places b) b.length] [] (Only (.sc (.bool (decide (a = b)))) []) := by
  by_cases hl : a.length = b.length
  · refine sB Try.func17 Try.ntmps17 ?_
    repeat' (first
      | refine IOps_nil ?_
      | refine oS ?_
      | refine IOps_s rfl rfl ?_
      | refine oT ?_
      | refine IOps_s0 rfl ?_
      | refine oZ ?_
      | refine oI ?_
      | refine thenI_n ?_
      | refine IWP_seq ?_
      | refine IWP_region ?_
      | refine IWP_ct rfl ?_
      | refine IWP_cf rfl ?_
      | refine IWP_skip ?_
      | refine IWP_ret ?_
      | refine IWP_block ?_
      | refine inB_n ?_
      | refine thenI_r ?_
      | refine thenI_e ?_
      | refine inB_r ?_
      | refine inB_hit ?_
      | refine inB_miss rfl ?_
      | refine IWP_exit ?_
      | refine IWP_scope ?_
      | refine IWP_label ?_
      | refine noG_n ?_
      | refine noG_r ?_
      | refine noG_e ?_
      | refine jmp_n ?_
      | refine jmp_r ?_
      | refine jmp_e ?_
      | refine jmp_g ?_
      | refine thenI_g ?_
      | refine inB_g ?_
      | refine IWP_goto ?_
      | refine Loop_n ?_
      | refine oD (id := 6) W17_6 [] O17_6 [_, _, _, _, _, _, _, _, _] [_] rfl (by repeat' (first | exact trivial | refine And.intro ?_ ?_ | exact bS | exact bX | exact bZ | exact bI | fail)) ?_
      | fail)
    refine IWP_loop (fun i : Nat => ⟨26, [(0, .fz false (places a) a.length), (1, .fz false (places b) b.length), (4, .sc (.bool false)), (5, .i64 i)], []⟩) (fun i => i ≤ a.length ∧ ∀ j, j < i → gd a j = gd b j) (fun i => a.length - i) 0 (lP []) ⟨Nat.zero_le _, fun j h => by omega⟩ ?_
    rintro i ⟨hi, hpre⟩
    by_cases h1 : i < a.length
    · have hne : gd a i ≠ gd b i → decide (a = b) = false := fun h => decide_eq_false (by rintro rfl; exact h rfl)
      have hex : (a.getD i default).key = (b.getD i default).key → (a.getD i default).val = (b.getD i default).val → gd a i = gd b i := fun h1 h2 => by
        show a.getD i default = b.getD i default
        generalize a.getD i default = x at *; generalize b.getD i default = y at *
        cases x; cases y; simp_all
      by_cases e1 : (a.getD i default).key = (b.getD i default).key
      · by_cases e2 : (a.getD i default).val = (b.getD i default).val
        · repeat' (first
            | refine IOps_nil ?_
            | refine oS ?_
            | refine IOps_s rfl rfl ?_
            | refine oT ?_
            | refine IOps_s0 rfl ?_
            | refine oZ ?_
            | refine oI ?_
            | refine thenI_n ?_
            | refine IWP_seq ?_
            | refine IWP_region ?_
            | refine IWP_ct rfl ?_
            | refine IWP_cf rfl ?_
            | refine IWP_skip ?_
            | refine IWP_ret ?_
            | refine IWP_block ?_
            | refine inB_n ?_
            | refine thenI_r ?_
            | refine thenI_e ?_
            | refine inB_r ?_
            | refine inB_hit ?_
            | refine inB_miss rfl ?_
            | refine IWP_exit ?_
            | refine IWP_scope ?_
            | refine IWP_label ?_
            | refine noG_n ?_
            | refine noG_r ?_
            | refine noG_e ?_
            | refine jmp_n ?_
            | refine jmp_r ?_
            | refine jmp_e ?_
            | refine jmp_g ?_
            | refine thenI_g ?_
            | refine inB_g ?_
            | refine IWP_goto ?_
            | refine Loop_n ?_
            | refine oD (id := 6) W17_6 [] O17_6 [_, _, _, _, _, _, _, _, _] [_] rfl (by repeat' (first | exact trivial | refine And.intro ?_ ?_ | exact bS | exact bX | exact bZ | exact bI | fail)) ?_
            | fail)
          exact ⟨i + 1, ⟨h1, fun j hj => by
            rcases Nat.lt_succ_iff_lt_or_eq.1 hj with h | rfl
            · exact hpre j h
            · exact hex e1 e2⟩, by omega, lP []⟩
        · rw [hne fun h => e2 (congrArg Pl.val h)]
          repeat' (first
            | refine IOps_nil ?_
            | refine oS ?_
            | refine IOps_s rfl rfl ?_
            | refine oT ?_
            | refine IOps_s0 rfl ?_
            | refine oZ ?_
            | refine oI ?_
            | refine thenI_n ?_
            | refine IWP_seq ?_
            | refine IWP_region ?_
            | refine IWP_ct rfl ?_
            | refine IWP_cf rfl ?_
            | refine IWP_skip ?_
            | refine IWP_ret ?_
            | refine IWP_block ?_
            | refine inB_n ?_
            | refine thenI_r ?_
            | refine thenI_e ?_
            | refine inB_r ?_
            | refine inB_hit ?_
            | refine inB_miss rfl ?_
            | refine IWP_exit ?_
            | refine IWP_scope ?_
            | refine IWP_label ?_
            | refine noG_n ?_
            | refine noG_r ?_
            | refine noG_e ?_
            | refine jmp_n ?_
            | refine jmp_r ?_
            | refine jmp_e ?_
            | refine jmp_g ?_
            | refine thenI_g ?_
            | refine inB_g ?_
            | refine IWP_goto ?_
            | refine Loop_n ?_
            | refine oD (id := 6) W17_6 [] O17_6 [_, _, _, _, _, _, _, _, _] [_] rfl (by repeat' (first | exact trivial | refine And.intro ?_ ?_ | exact bS | exact bX | exact bZ | exact bI | fail)) ?_
            | fail)
          exact pD [] ⟨rfl, rfl⟩
      · rw [hne fun h => e1 (congrArg Pl.key h)]
        repeat' (first
          | refine IOps_nil ?_
          | refine oS ?_
          | refine IOps_s rfl rfl ?_
          | refine oT ?_
          | refine IOps_s0 rfl ?_
          | refine oZ ?_
          | refine oI ?_
          | refine thenI_n ?_
          | refine IWP_seq ?_
          | refine IWP_region ?_
          | refine IWP_ct rfl ?_
          | refine IWP_cf rfl ?_
          | refine IWP_skip ?_
          | refine IWP_ret ?_
          | refine IWP_block ?_
          | refine inB_n ?_
          | refine thenI_r ?_
          | refine thenI_e ?_
          | refine inB_r ?_
          | refine inB_hit ?_
          | refine inB_miss rfl ?_
          | refine IWP_exit ?_
          | refine IWP_scope ?_
          | refine IWP_label ?_
          | refine noG_n ?_
          | refine noG_r ?_
          | refine noG_e ?_
          | refine jmp_n ?_
          | refine jmp_r ?_
          | refine jmp_e ?_
          | refine jmp_g ?_
          | refine thenI_g ?_
          | refine inB_g ?_
          | refine IWP_goto ?_
          | refine Loop_n ?_
          | refine oD (id := 6) W17_6 [] O17_6 [_, _, _, _, _, _, _, _, _] [_] rfl (by repeat' (first | exact trivial | refine And.intro ?_ ?_ | exact bS | exact bX | exact bZ | exact bI | fail)) ?_
          | fail)
        exact pD [] ⟨rfl, rfl⟩
    · rw [show decide (a = b) = true from decide_eq_true (List.ext_getElem hl fun j h1 h2 => by rw [← gd_eq h1, ← gd_eq h2]; exact hpre j (by omega))]
      repeat' (first
        | refine IOps_nil ?_
        | refine oS ?_
        | refine IOps_s rfl rfl ?_
        | refine oT ?_
        | refine IOps_s0 rfl ?_
        | refine oZ ?_
        | refine oI ?_
        | refine thenI_n ?_
        | refine IWP_seq ?_
        | refine IWP_region ?_
        | refine IWP_ct rfl ?_
        | refine IWP_cf rfl ?_
        | refine IWP_skip ?_
        | refine IWP_ret ?_
        | refine IWP_block ?_
        | refine inB_n ?_
        | refine thenI_r ?_
        | refine thenI_e ?_
        | refine inB_r ?_
        | refine inB_hit ?_
        | refine inB_miss rfl ?_
        | refine IWP_exit ?_
        | refine IWP_scope ?_
        | refine IWP_label ?_
        | refine noG_n ?_
        | refine noG_r ?_
        | refine noG_e ?_
        | refine jmp_n ?_
        | refine jmp_r ?_
        | refine jmp_e ?_
        | refine jmp_g ?_
        | refine thenI_g ?_
        | refine inB_g ?_
        | refine IWP_goto ?_
        | refine Loop_n ?_
        | refine oD (id := 6) W17_6 [] O17_6 [_, _, _, _, _, _, _, _, _] [_] rfl (by repeat' (first | exact trivial | refine And.intro ?_ ?_ | exact bS | exact bX | exact bZ | exact bI | fail)) ?_
        | fail)
      exact pD [] ⟨rfl, rfl⟩
  · rw [show decide (a = b) = false from decide_eq_false (by rintro rfl; exact hl rfl)]
    refine sB Try.func17 Try.ntmps17 ?_
    repeat' (first
      | refine IOps_nil ?_
      | refine oS ?_
      | refine IOps_s rfl rfl ?_
      | refine oT ?_
      | refine IOps_s0 rfl ?_
      | refine oZ ?_
      | refine oI ?_
      | refine thenI_n ?_
      | refine IWP_seq ?_
      | refine IWP_region ?_
      | refine IWP_ct rfl ?_
      | refine IWP_cf rfl ?_
      | refine IWP_skip ?_
      | refine IWP_ret ?_
      | refine IWP_block ?_
      | refine inB_n ?_
      | refine thenI_r ?_
      | refine thenI_e ?_
      | refine inB_r ?_
      | refine inB_hit ?_
      | refine inB_miss rfl ?_
      | refine IWP_exit ?_
      | refine IWP_scope ?_
      | refine IWP_label ?_
      | refine noG_n ?_
      | refine noG_r ?_
      | refine noG_e ?_
      | refine jmp_n ?_
      | refine jmp_r ?_
      | refine jmp_e ?_
      | refine jmp_g ?_
      | refine thenI_g ?_
      | refine inB_g ?_
      | refine IWP_goto ?_
      | refine Loop_n ?_
      | refine oD (id := 6) W17_6 [] O17_6 [_, _, _, _, _, _, _, _, _] [_] rfl (by repeat' (first | exact trivial | refine And.intro ?_ ?_ | exact bS | exact bX | exact bZ | exact bI | fail)) ?_
      | fail)
    exact pD [] ⟨rfl, rfl⟩
theorem ssame_spec (a b : List Ks) (ha : a.length ≤ 1000000) : Idl.Spec Try.prog 20 [.fz false (strs a) a.length, .fz false (strs b) b.length] [] (Only (.sc (.bool (decide (a = b)))) []) := by
  by_cases h : a.length = b.length
  · refine sB Try.func20 Try.ntmps20 ?_
    repeat' (first
      | refine IOps_nil ?_
      | refine oS ?_
      | refine IOps_s rfl rfl ?_
      | refine oT ?_
      | refine IOps_s0 rfl ?_
      | refine oZ ?_
      | refine oI ?_
      | refine thenI_n ?_
      | refine IWP_seq ?_
      | refine IWP_region ?_
      | refine IWP_ct rfl ?_
      | refine IWP_cf rfl ?_
      | refine IWP_skip ?_
      | refine IWP_ret ?_
      | refine IWP_block ?_
      | refine inB_n ?_
      | refine thenI_r ?_
      | refine thenI_e ?_
      | refine inB_r ?_
      | refine inB_hit ?_
      | refine inB_miss rfl ?_
      | refine IWP_exit ?_
      | refine IWP_scope ?_
      | refine IWP_label ?_
      | refine noG_n ?_
      | refine noG_r ?_
      | refine noG_e ?_
      | refine jmp_n ?_
      | refine jmp_r ?_
      | refine jmp_e ?_
      | refine jmp_g ?_
      | refine thenI_g ?_
      | refine inB_g ?_
      | refine IWP_goto ?_
      | refine Loop_n ?_
      | refine oD (id := 6) W20_6 [] O20_6 [_, _, _, _, _, _, _, _, _] [_] rfl (by repeat' (first | exact trivial | refine And.intro ?_ ?_ | exact bS | exact bX | exact bZ | exact bI | fail)) ?_
      | fail)
    refine IWP_loop (fun i : Nat => ⟨26, [(0, .fz false (strs a) a.length), (1, .fz false (strs b) b.length), (4, .sc (.bool false)), (5, .i64 i)], []⟩) (fun i => i ≤ a.length ∧ ∀ j, j < i → a.getD j [] = b.getD j []) (fun i => a.length - i) 0 (lP []) ⟨by omega, fun j hj => by omega⟩ ?_
    rintro i ⟨hi, hpre⟩
    by_cases hia : i < a.length
    · by_cases hn : a.getD i [] = b.getD i []
      · repeat' (first
          | refine IOps_nil ?_
          | refine oS ?_
          | refine IOps_s rfl rfl ?_
          | refine oT ?_
          | refine IOps_s0 rfl ?_
          | refine oZ ?_
          | refine oI ?_
          | refine thenI_n ?_
          | refine IWP_seq ?_
          | refine IWP_region ?_
          | refine IWP_ct rfl ?_
          | refine IWP_cf rfl ?_
          | refine IWP_skip ?_
          | refine IWP_ret ?_
          | refine IWP_block ?_
          | refine inB_n ?_
          | refine thenI_r ?_
          | refine thenI_e ?_
          | refine inB_r ?_
          | refine inB_hit ?_
          | refine inB_miss rfl ?_
          | refine IWP_exit ?_
          | refine IWP_scope ?_
          | refine IWP_label ?_
          | refine noG_n ?_
          | refine noG_r ?_
          | refine noG_e ?_
          | refine jmp_n ?_
          | refine jmp_r ?_
          | refine jmp_e ?_
          | refine jmp_g ?_
          | refine thenI_g ?_
          | refine inB_g ?_
          | refine IWP_goto ?_
          | refine Loop_n ?_
          | refine oD (id := 6) W20_6 [] O20_6 [_, _, _, _, _, _, _, _, _] [_] rfl (by repeat' (first | exact trivial | refine And.intro ?_ ?_ | exact bS | exact bX | exact bZ | exact bI | fail)) ?_
          | fail)
        refine ⟨i + 1, ⟨by omega, fun j hj => ?_⟩, by omega, lP []⟩
        rcases Nat.lt_succ_iff_lt_or_eq.1 hj with h' | rfl
        · exact hpre j h'
        · exact hn
      · rw [show decide (a = b) = false from decide_eq_false (by rintro rfl; exact hn rfl)]
        repeat' (first
          | refine IOps_nil ?_
          | refine oS ?_
          | refine IOps_s rfl rfl ?_
          | refine oT ?_
          | refine IOps_s0 rfl ?_
          | refine oZ ?_
          | refine oI ?_
          | refine thenI_n ?_
          | refine IWP_seq ?_
          | refine IWP_region ?_
          | refine IWP_ct rfl ?_
          | refine IWP_cf rfl ?_
          | refine IWP_skip ?_
          | refine IWP_ret ?_
          | refine IWP_block ?_
          | refine inB_n ?_
          | refine thenI_r ?_
          | refine thenI_e ?_
          | refine inB_r ?_
          | refine inB_hit ?_
          | refine inB_miss rfl ?_
          | refine IWP_exit ?_
          | refine IWP_scope ?_
          | refine IWP_label ?_
          | refine noG_n ?_
          | refine noG_r ?_
          | refine noG_e ?_
          | refine jmp_n ?_
          | refine jmp_r ?_
          | refine jmp_e ?_
          | refine jmp_g ?_
          | refine thenI_g ?_
          | refine inB_g ?_
          | refine IWP_goto ?_
          | refine Loop_n ?_
          | refine oD (id := 6) W20_6 [] O20_6 [_, _, _, _, _, _, _, _, _] [_] rfl (by repeat' (first | exact trivial | refine And.intro ?_ ?_ | exact bS | exact bX | exact bZ | exact bI | fail)) ?_
          | fail)
        exact pD [] ⟨rfl, rfl⟩
    · rw [show decide (a = b) = true from decide_eq_true (List.ext_getElem h fun j h1 h2 => by
        have := hpre j (by omega)
        simpa [List.getD_eq_getElem?_getD, h1, h2] using this)]
      repeat' (first
        | refine IOps_nil ?_
        | refine oS ?_
        | refine IOps_s rfl rfl ?_
        | refine oT ?_
        | refine IOps_s0 rfl ?_
        | refine oZ ?_
        | refine oI ?_
        | refine thenI_n ?_
        | refine IWP_seq ?_
        | refine IWP_region ?_
        | refine IWP_ct rfl ?_
        | refine IWP_cf rfl ?_
        | refine IWP_skip ?_
        | refine IWP_ret ?_
        | refine IWP_block ?_
        | refine inB_n ?_
        | refine thenI_r ?_
        | refine thenI_e ?_
        | refine inB_r ?_
        | refine inB_hit ?_
        | refine inB_miss rfl ?_
        | refine IWP_exit ?_
        | refine IWP_scope ?_
        | refine IWP_label ?_
        | refine noG_n ?_
        | refine noG_r ?_
        | refine noG_e ?_
        | refine jmp_n ?_
        | refine jmp_r ?_
        | refine jmp_e ?_
        | refine jmp_g ?_
        | refine thenI_g ?_
        | refine inB_g ?_
        | refine IWP_goto ?_
        | refine Loop_n ?_
        | refine oD (id := 6) W20_6 [] O20_6 [_, _, _, _, _, _, _, _, _] [_] rfl (by repeat' (first | exact trivial | refine And.intro ?_ ?_ | exact bS | exact bX | exact bZ | exact bI | fail)) ?_
        | fail)
      exact pD [] ⟨rfl, rfl⟩
  · rw [show decide (a = b) = false from decide_eq_false (by rintro rfl; exact h rfl)]
    refine sB Try.func20 Try.ntmps20 ?_
    repeat' (first
      | refine IOps_nil ?_
      | refine oS ?_
      | refine IOps_s rfl rfl ?_
      | refine oT ?_
      | refine IOps_s0 rfl ?_
      | refine oZ ?_
      | refine oI ?_
      | refine thenI_n ?_
      | refine IWP_seq ?_
      | refine IWP_region ?_
      | refine IWP_ct rfl ?_
      | refine IWP_cf rfl ?_
      | refine IWP_skip ?_
      | refine IWP_ret ?_
      | refine IWP_block ?_
      | refine inB_n ?_
      | refine thenI_r ?_
      | refine thenI_e ?_
      | refine inB_r ?_
      | refine inB_hit ?_
      | refine inB_miss rfl ?_
      | refine IWP_exit ?_
      | refine IWP_scope ?_
      | refine IWP_label ?_
      | refine noG_n ?_
      | refine noG_r ?_
      | refine noG_e ?_
      | refine jmp_n ?_
      | refine jmp_r ?_
      | refine jmp_e ?_
      | refine jmp_g ?_
      | refine thenI_g ?_
      | refine inB_g ?_
      | refine IWP_goto ?_
      | refine Loop_n ?_
      | refine oD (id := 6) W20_6 [] O20_6 [_, _, _, _, _, _, _, _, _] [_] rfl (by repeat' (first | exact trivial | refine And.intro ?_ ?_ | exact bS | exact bX | exact bZ | exact bI | fail)) ?_
      | fail)
    exact pD [] ⟨rfl, rfl⟩
theorem had_spec (l : List Pl) (k : Ks) (hL : l.length ≤ 1000000) (hk : k.length ≤ 1000000) : Idl.Spec Try.prog 12 [.fz false (places l) l.length, .sc (.string ⟨⟨k⟩⟩)] [] (Only (.sc (.bool (getT l k).2)) []) := by
  have hg := tget_spec l k hL hk
  refine sB Try.func12 Try.ntmps12 ?_
  repeat' (first
    | refine IOps_nil ?_
    | refine oS ?_
    | refine IOps_s rfl rfl ?_
    | refine oT ?_
    | refine IOps_s0 rfl ?_
    | refine oC (π := []) (hs := by first | exact hg | fail) (hx := ?_)
    | refine oZ ?_
    | refine oI ?_
    | refine thenI_n ?_
    | refine IWP_seq ?_
    | refine IWP_region ?_
    | refine IWP_ct rfl ?_
    | refine IWP_cf rfl ?_
    | refine IWP_skip ?_
    | refine IWP_ret ?_
    | refine IWP_block ?_
    | refine inB_n ?_
    | refine thenI_r ?_
    | refine thenI_e ?_
    | refine inB_r ?_
    | refine inB_hit ?_
    | refine inB_miss rfl ?_
    | refine IWP_exit ?_
    | refine IWP_scope ?_
    | refine IWP_label ?_
    | refine noG_n ?_
    | refine noG_r ?_
    | refine noG_e ?_
    | refine jmp_n ?_
    | refine jmp_r ?_
    | refine jmp_e ?_
    | refine jmp_g ?_
    | refine thenI_g ?_
    | refine inB_g ?_
    | refine IWP_goto ?_
    | refine Loop_n ?_
    | fail)
  exact pD [] ⟨rfl, rfl⟩
def stepT (l : List Pl) (s : Ts) : List Pl × Int := if s.del then delT l s.key else putT l s.key s.val
theorem tdo_spec (l : List Pl) (s : Ts) (hL : l.length ≤ 1000000) (hk : s.key.length ≤ 1000000) : Idl.Spec Try.prog 11 [.fz false (places l) l.length, .agg [.sc (.bool s.del), .sc (.string ⟨⟨s.key⟩⟩), .sc (.int .i64 s.val)]] []
    (Only (.tup [.fz true (places (stepT l s).1) (stepT l s).1.length, .i64 (stepT l s).2]) []) := by
  have hp := tput_spec l s.key s.val hL
  have hd := tdel_spec l s.key hL hk
  unfold stepT
  rcases Bool.eq_false_or_eq_true s.del with h | h
  · rw [if_pos h]
    generalize delT l s.key = r at hd ⊢
    refine sB Try.func11 Try.ntmps11 ?_
    repeat' (first
      | refine IOps_nil ?_
      | refine oS ?_
      | refine IOps_s rfl rfl ?_
      | refine oT ?_
      | refine IOps_s0 rfl ?_
      | refine oC (π := []) (hs := by first | exact hd | fail) (hx := ?_)
      | refine oZ ?_
      | refine oI ?_
      | refine thenI_n ?_
      | refine IWP_seq ?_
      | refine IWP_region ?_
      | refine IWP_ct rfl ?_
      | refine IWP_cf rfl ?_
      | refine IWP_skip ?_
      | refine IWP_ret ?_
      | refine IWP_block ?_
      | refine inB_n ?_
      | refine thenI_r ?_
      | refine thenI_e ?_
      | refine inB_r ?_
      | refine inB_hit ?_
      | refine inB_miss rfl ?_
      | refine IWP_exit ?_
      | refine IWP_scope ?_
      | refine IWP_label ?_
      | refine noG_n ?_
      | refine noG_r ?_
      | refine noG_e ?_
      | refine jmp_n ?_
      | refine jmp_r ?_
      | refine jmp_e ?_
      | refine jmp_g ?_
      | refine thenI_g ?_
      | refine inB_g ?_
      | refine IWP_goto ?_
      | refine Loop_n ?_
      | fail)
    rw [h]
    repeat' (first
      | refine IOps_nil ?_
      | refine oS ?_
      | refine IOps_s rfl rfl ?_
      | refine oT ?_
      | refine IOps_s0 rfl ?_
      | refine oC (π := []) (hs := by first | exact hd | fail) (hx := ?_)
      | refine oZ ?_
      | refine oI ?_
      | refine thenI_n ?_
      | refine IWP_seq ?_
      | refine IWP_region ?_
      | refine IWP_ct rfl ?_
      | refine IWP_cf rfl ?_
      | refine IWP_skip ?_
      | refine IWP_ret ?_
      | refine IWP_block ?_
      | refine inB_n ?_
      | refine thenI_r ?_
      | refine thenI_e ?_
      | refine inB_r ?_
      | refine inB_hit ?_
      | refine inB_miss rfl ?_
      | refine IWP_exit ?_
      | refine IWP_scope ?_
      | refine IWP_label ?_
      | refine noG_n ?_
      | refine noG_r ?_
      | refine noG_e ?_
      | refine jmp_n ?_
      | refine jmp_r ?_
      | refine jmp_e ?_
      | refine jmp_g ?_
      | refine thenI_g ?_
      | refine inB_g ?_
      | refine IWP_goto ?_
      | refine Loop_n ?_
      | fail)
    exact pD [] ⟨rfl, rfl⟩
  · rw [if_neg (by rw [h]; decide)]
    generalize putT l s.key s.val = r at hp ⊢
    refine sB Try.func11 Try.ntmps11 ?_
    repeat' (first
      | refine IOps_nil ?_
      | refine oS ?_
      | refine IOps_s rfl rfl ?_
      | refine oT ?_
      | refine IOps_s0 rfl ?_
      | refine oC (π := []) (hs := by first | exact hp | fail) (hx := ?_)
      | refine oZ ?_
      | refine oI ?_
      | refine thenI_n ?_
      | refine IWP_seq ?_
      | refine IWP_region ?_
      | refine IWP_ct rfl ?_
      | refine IWP_cf rfl ?_
      | refine IWP_skip ?_
      | refine IWP_ret ?_
      | refine IWP_block ?_
      | refine inB_n ?_
      | refine thenI_r ?_
      | refine thenI_e ?_
      | refine inB_r ?_
      | refine inB_hit ?_
      | refine inB_miss rfl ?_
      | refine IWP_exit ?_
      | refine IWP_scope ?_
      | refine IWP_label ?_
      | refine noG_n ?_
      | refine noG_r ?_
      | refine noG_e ?_
      | refine jmp_n ?_
      | refine jmp_r ?_
      | refine jmp_e ?_
      | refine jmp_g ?_
      | refine thenI_g ?_
      | refine inB_g ?_
      | refine IWP_goto ?_
      | refine Loop_n ?_
      | fail)
    rw [h]
    repeat' (first
      | refine IOps_nil ?_
      | refine oS ?_
      | refine IOps_s rfl rfl ?_
      | refine oT ?_
      | refine IOps_s0 rfl ?_
      | refine oC (π := []) (hs := by first | exact hp | fail) (hx := ?_)
      | refine oZ ?_
      | refine oI ?_
      | refine thenI_n ?_
      | refine IWP_seq ?_
      | refine IWP_region ?_
      | refine IWP_ct rfl ?_
      | refine IWP_cf rfl ?_
      | refine IWP_skip ?_
      | refine IWP_ret ?_
      | refine IWP_block ?_
      | refine inB_n ?_
      | refine thenI_r ?_
      | refine thenI_e ?_
      | refine inB_r ?_
      | refine inB_hit ?_
      | refine inB_miss rfl ?_
      | refine IWP_exit ?_
      | refine IWP_scope ?_
      | refine IWP_label ?_
      | refine noG_n ?_
      | refine noG_r ?_
      | refine noG_e ?_
      | refine jmp_n ?_
      | refine jmp_r ?_
      | refine jmp_e ?_
      | refine jmp_g ?_
      | refine thenI_g ?_
      | refine inB_g ?_
      | refine IWP_goto ?_
      | refine Loop_n ?_
      | fail)
    exact pD [] ⟨rfl, rfl⟩
end Go.Proofs.Ytgchgdfigbonhaa

namespace Go.Proofs.Ytgchgdfigbonhaa
open Go Go.Idl
set_option linter.unusedSimpArgs false
set_option linter.unusedVariables false
set_option maxRecDepth 100000
set_option maxHeartbeats 4000000
theorem Spec.nil0 {P : Program} {f : FuncId} {xs : List IV} {h : List HO} {K : IV → List HO → Prop} (s : Idl.Spec P f (.fz false [] 0 :: xs) h K) : Idl.Spec P f (.sc (.slice none 0 0) :: xs) h K :=
  ⟨s.call, s.fresh, fun F w vs a b c => s.runs F w vs a b (by cases c with | cons h t => exact .cons (by cases h; exact .fznil) t)⟩
theorem put_in {l : List Pl} (h : OkT l) {k : Ks} (v : Int) (hk : keyOk k) (hf : held l < 96) : ∃ m, putT l k v = (m, 0) ∧ Ins l k v m := by
  rcases put_cases h k v with ⟨x, _⟩ | ⟨_, x, _⟩ | ⟨_, _, hm⟩
  · exact absurd hk x
  · omega
  · exact hm
theorem put_bad {l : List Pl} (h : OkT l) {k : Ks} (v : Int) (hk : ¬ keyOk k) : putT l k v = (l, 90) := by
  rcases put_cases h k v with ⟨_, x⟩ | ⟨x, _⟩ | ⟨x, _⟩
  · exact x
  · exact absurd x hk
  · exact absurd x hk
theorem del_in {l : List Pl} (h : OkT l) {k : Ks} (hg : (getV l k).2 = true) : ∃ m, delT l k = (m, 0) ∧ Del l k m := by
  rcases del_cases h k with ⟨x, _⟩ | ⟨_, hm⟩
  · rw [hg] at x; cases x
  · exact hm
theorem del_no {l : List Pl} (h : OkT l) {k : Ks} (hg : (getV l k).2 = false) : delT l k = (l, 120) := by
  rcases del_cases h k with ⟨_, x⟩ | ⟨x, _⟩
  · exact x
  · rw [hg] at x; cases x
attribute [local irreducible] Go.Idl.IWP Go.Idl.IOps Go.Idl.Obl Go.Idl.OpG Go.Idl.thenI Go.Idl.inBlockI Go.Idl.LoopU Go.Idl.noGotoI Go.Idl.jumpI
attribute [local go_sem] List.length_set splice2 splice_places relab_fz1
theorem table_awake : Idl.Spec Try.prog 8 [] [] (Only (.sc (.bool true)) []) := by
  have hb : keyOk [98] := by decide
  have ha : keyOk [97] := by decide
  have h0 := noT_held
  obtain ⟨m1, p1, i1⟩ := put_in noT_ok (k := [98]) 5 hb (by omega)
  have f1 := i1.few
  obtain ⟨m2, p2, i2⟩ := put_in i1.ok (k := [97]) 7 ha (by omega)
  have f2 := i2.few
  obtain ⟨m3, p3, i3⟩ := put_in i2.ok (k := [98]) 6 hb (by omega)
  have p4 := put_bad i3.ok (k := []) 1 (by decide)
  have g3 := ins_self i3 (by decide)
  obtain ⟨m4, p5, i5⟩ := del_in i3.ok (k := [98]) (by rw [g3])
  have g4 := del_self i5
  have p6 := del_no i5.ok (k := [98]) (by rw [g4])
  have l1 := i1.ok.len; have l2 := i2.ok.len; have l3 := i3.ok.len; have l4 := i5.ok.len
  have hkeys : keysV m3 = [[97], [98]] := by
    refine keys_eq i3.ok (by decide) fun k => ?_
    constructor
    · intro hk
      rcases List.mem_cons.1 hk with rfl | hk
      · exact ⟨by decide, 7, (i3.mem _ (by decide)).2 (.inr ⟨(i2.mem _ (by decide)).2 (.inl rfl), by decide⟩)⟩
      · rcases List.mem_cons.1 hk with rfl | hk
        · exact ⟨by decide, 6, (i3.mem _ (by decide)).2 (.inl rfl)⟩
        · cases hk
    · rintro ⟨hne, v, hm⟩
      rcases (i3.mem _ hne).1 hm with e | ⟨hm, _⟩
      · rw [show k = [98] from congrArg Pl.key e]; simp
      · rcases (i2.mem _ hne).1 hm with e | ⟨hm, _⟩
        · rw [show k = [97] from congrArg Pl.key e]; simp
        · rcases (i1.mem _ hne).1 hm with e | ⟨hm, _⟩
          · rw [show k = [98] from congrArg Pl.key e]; simp
          · exact absurd (noT_mem hm) hne
  have s1 := tput_spec noT [98] 5 (by rw [noT_len]; decide)
  rw [p1] at s1
  have s2 := tput_spec m1 [97] 7 (by omega)
  rw [p2] at s2
  have s3 := tput_spec m2 [98] 6 (by omega)
  rw [p3] at s3
  have s4 := tput_spec m3 [] 1 (by omega)
  rw [p4] at s4
  have s5 := tget_spec m3 [98] (by omega) (by decide)
  rw [getT_of i3.ok, g3] at s5
  have s6 := tdel_spec m3 [98] (by omega) (by decide)
  rw [p5] at s6
  have s7 := tget_spec m4 [98] (by omega) (by decide)
  rw [getT_of i5.ok, g4] at s7
  have s8 := tdel_spec m4 [98] (by omega) (by decide)
  rw [p6] at s8
  have s9 := tkeys_fz m3 (by omega)
  rw [hkeys] at s9
  have s10 := tcheck_fz m3 (by omega)
  rw [chk_ok i3.ok] at s10
  have s11 := Spec.nil0 (tcheck_fz [] (by simp))
  rw [show chkT [] = false from decide_eq_false fun x => by have := x.1; simp at this] at s11
  have s12 := ssame_spec [[97], [98]] [[97], [98]] (by simp)
  rw [show decide (([[97], [98]] : List Ks) = [[97], [98]]) = true by decide] at s12
  refine sB Try.func8 Try.ntmps8 ?_
  repeat' (first
    | refine IOps_nil ?_
    | refine oS ?_
    | refine IOps_s rfl rfl ?_
    | refine oT ?_
    | refine IOps_s0 rfl ?_
    | refine oC (π := []) (hs := by first | exact new_spec | fail) (hx := ?_)
    | refine oC (π := []) (hs := by first | exact s1 | fail) (hx := ?_)
    | refine oC (π := []) (hs := by first | exact s2 | fail) (hx := ?_)
    | refine oC (π := []) (hs := by first | exact s3 | fail) (hx := ?_)
    | refine oC (π := []) (hs := by first | exact s4 | fail) (hx := ?_)
    | refine oC (π := []) (hs := by first | exact s5 | fail) (hx := ?_)
    | refine oC (π := []) (hs := by first | exact s6 | fail) (hx := ?_)
    | refine oC (π := []) (hs := by first | exact s7 | fail) (hx := ?_)
    | refine oC (π := []) (hs := by first | exact s8 | fail) (hx := ?_)
    | refine oC (π := []) (hs := by first | exact s9 | fail) (hx := ?_)
    | refine oC (π := []) (hs := by first | exact s10 | fail) (hx := ?_)
    | refine oC (π := []) (hs := by first | exact s11 | fail) (hx := ?_)
    | refine oC (π := []) (hs := by first | exact s12 | fail) (hx := ?_)
    | refine oZ ?_
    | refine oI ?_
    | refine thenI_n ?_
    | refine IWP_seq ?_
    | refine IWP_region ?_
    | refine IWP_ct rfl ?_
    | refine IWP_cf rfl ?_
    | refine IWP_skip ?_
    | refine IWP_ret ?_
    | refine IWP_block ?_
    | refine inB_n ?_
    | refine thenI_r ?_
    | refine thenI_e ?_
    | refine inB_r ?_
    | refine inB_hit ?_
    | refine inB_miss rfl ?_
    | refine IWP_exit ?_
    | refine IWP_scope ?_
    | refine IWP_label ?_
    | refine noG_n ?_
    | refine noG_r ?_
    | refine noG_e ?_
    | refine jmp_n ?_
    | refine jmp_r ?_
    | refine jmp_e ?_
    | refine jmp_g ?_
    | refine thenI_g ?_
    | refine inB_g ?_
    | refine IWP_goto ?_
    | refine Loop_n ?_
    | fail)
  exact pD [] ⟨rfl, rfl⟩
end Go.Proofs.Ytgchgdfigbonhaa
