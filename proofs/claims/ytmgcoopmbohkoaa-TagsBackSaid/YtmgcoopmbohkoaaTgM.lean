/-
  Tags: rows and pairs, in plain Lean.
-/
import Derived.Test.YtmgcoopmbohkoaaPaM
import Derived.Test.YtmgcoopmbohkoaaThM
import Derived.Test.YtmgcoopmbohkoaaIdlNj
namespace Go.Proofs.Ytmgcoopmbohkoaa
open Go Go.Idl
set_option linter.unusedSimpArgs false
set_option linter.unusedVariables false
set_option maxHeartbeats 4000000
structure Rw where
  tag : Ks
  ids : List Int
  deriving DecidableEq
instance : Inhabited Rw := ⟨⟨[], []⟩⟩
/-! ### Pairs, in order -/
def cmpK (a b : Ks) : Int := if Op.bytesLess a b then -1 else if Op.bytesLess b a then 1 else 0
def cmpZ (a b : Int) : Int := if a < b then -1 else if b < a then 1 else 0
def cP (a b : Pr) : Int := if cmpK a.tag b.tag ≠ 0 then cmpK a.tag b.tag else cmpZ a.id b.id
def LtP (a b : Pr) : Prop := a.tag < b.tag ∨ (a.tag = b.tag ∧ a.id < b.id)
theorem kcases (a b : Ks) : (a < b ∧ cmpK a b = -1) ∨ (a = b ∧ cmpK a b = 0) ∨ (b < a ∧ cmpK a b = 1) := by
  unfold cmpK
  simp only [bl_lt, decide_eq_true_eq]
  by_cases h : a < b
  · exact .inl ⟨h, if_pos h⟩
  · by_cases k : b < a
    · exact .inr (.inr ⟨k, by rw [if_neg h, if_pos k]⟩)
    · exact .inr (.inl ⟨List.le_antisymm (List.not_lt.1 k) (List.not_lt.1 h), by rw [if_neg h, if_neg k]⟩)
theorem cP_iff (a b : Pr) : cP a b < 0 ↔ LtP a b := by
  unfold cP LtP
  rcases kcases a.tag b.tag with ⟨h, e⟩ | ⟨h, e⟩ | ⟨h, e⟩
  · rw [e]; simp [h]
  · rw [e, h]
    simp only [ne_eq, not_true_eq_false, if_false, List.lt_irrefl, false_or, true_and]
    unfold cmpZ
    by_cases k : a.id < b.id
    · simp [k]
    · simp only [k, if_false, iff_false]
      split <;> omega
  · rw [e]
    simp only [ne_eq, Int.one_ne_zero, not_false_eq_true, if_true]
    constructor
    · intro x; omega
    · rintro (x | ⟨x, _⟩)
      · exact absurd x (List.lt_asymm h)
      · rw [x] at h; exact absurd h (List.lt_irrefl _)
theorem LtP.irrefl (a : Pr) : ¬ LtP a a := by
  rintro (h | ⟨_, h⟩)
  · exact List.lt_irrefl _ h
  · omega
theorem LtP.trans {a b c : Pr} (h : LtP a b) (k : LtP b c) : LtP a c := by
  rcases h with h | ⟨h1, h2⟩ <;> rcases k with k | ⟨k1, k2⟩
  · exact .inl (List.lt_trans h k)
  · exact .inl (k1 ▸ h)
  · exact .inl (h1 ▸ k)
  · exact .inr ⟨h1.trans k1, by omega⟩
theorem LtP.asymm {a b : Pr} (h : LtP a b) : ¬ LtP b a := fun k => LtP.irrefl _ (h.trans k)
theorem LtP.tri (a b : Pr) : LtP a b ∨ a = b ∨ LtP b a := by
  rcases kcases a.tag b.tag with ⟨h, _⟩ | ⟨h, _⟩ | ⟨h, _⟩
  · exact .inl (.inl h)
  · rcases Int.lt_trichotomy a.id b.id with k | k | k
    · exact .inl (.inr ⟨h, k⟩)
    · exact .inr (.inl (by cases a; cases b; simp_all))
    · exact .inr (.inr (.inr ⟨h.symm, k⟩))
  · exact .inr (.inr (.inl h))
theorem cP_ord : OrdL fun x y => decide (cP x y < 0) := by
  refine ⟨fun x y h => ?_, fun x y z h k => ?_⟩
  · exact decide_eq_false fun e => LtP.asymm ((cP_iff x y).1 (of_decide_eq_true h)) ((cP_iff y x).1 e)
  · have h := fun e => of_decide_eq_false h ((cP_iff x y).2 e)
    have k := fun e => of_decide_eq_false k ((cP_iff y z).2 e)
    refine decide_eq_false fun e => ?_
    have e := (cP_iff x z).1 e
    rcases LtP.tri y z with q | q | q
    · exact k q
    · subst q; exact h e
    · exact h (e.trans q)
theorem sortedP {a b : List Pr} (ha : a.Pairwise LtP) (hb : b.Pairwise LtP) (h : ∀ x, x ∈ a ↔ x ∈ b) : a = b := by
  induction a generalizing b with
  | nil =>
    cases b with
    | nil => rfl
    | cons y b => exact absurd ((h y).2 (List.mem_cons_self ..)) (by simp)
  | cons x a ih =>
    cases b with
    | nil => exact absurd ((h x).1 (List.mem_cons_self ..)) (by simp)
    | cons y b =>
      have h1 := List.pairwise_cons.1 ha
      have h2 := List.pairwise_cons.1 hb
      have e : x = y := by
        rcases List.mem_cons.1 ((h x).1 (List.mem_cons_self ..)) with e | hx
        · exact e
        · rcases List.mem_cons.1 ((h y).2 (List.mem_cons_self ..)) with e | hy
          · exact e.symm
          · exact absurd (h1.1 y hy) (LtP.asymm (h2.1 x hx))
      subst e
      rw [ih h1.2 h2.2 fun z => ?_]
      constructor
      · intro hz
        rcases List.mem_cons.1 ((h z).1 (List.mem_cons_of_mem _ hz)) with e | hz'
        · subst e; exact absurd (h1.1 z hz) (LtP.irrefl z)
        · exact hz'
      · intro hz
        rcases List.mem_cons.1 ((h z).2 (List.mem_cons_of_mem _ hz)) with e | hz'
        · subst e; exact absurd (h2.1 z hz) (LtP.irrefl z)
        · exact hz'
theorem srtd_ltp {M : List Pr} (h : M.Pairwise fun x y => ¬ cP y x < 0) (hn : M.Nodup) : M.Pairwise LtP := by
  refine (List.pairwise_and_iff.2 ⟨h, hn⟩).imp fun {a b} x => ?_
  rcases LtP.tri a b with q | q | q
  · exact q
  · exact absurd q x.2
  · exact absurd ((cP_iff b a).2 q) x.1
/-! ### Rows and their pairs -/
def flat (l : List Rw) : List Pr := l.flatMap fun r => r.ids.map fun i => ⟨r.tag, i⟩
def CanR (l : List Rw) : Prop := l.Pairwise (fun r s => r.tag < s.tag) ∧ ∀ r, r ∈ l → r.ids ≠ [] ∧ r.ids.Pairwise (· < ·)
theorem mem_flat {l : List Rw} {p : Pr} : p ∈ flat l ↔ ∃ r, r ∈ l ∧ r.tag = p.tag ∧ p.id ∈ r.ids := by
  unfold flat
  rw [List.mem_flatMap]
  constructor
  · rintro ⟨r, hr, h⟩
    obtain ⟨i, hi, rfl⟩ := List.mem_map.1 h
    exact ⟨r, hr, rfl, hi⟩
  · rintro ⟨r, hr, h1, h2⟩
    exact ⟨r, hr, List.mem_map.2 ⟨p.id, h2, by rw [h1]⟩⟩
theorem flat_app (l m : List Rw) : flat (l ++ m) = flat l ++ flat m := List.flatMap_append
theorem flat_one (r : Rw) : flat [r] = r.ids.map fun i => ⟨r.tag, i⟩ := by simp [flat]
theorem CanR.cons {r : Rw} {l : List Rw} (h : CanR (r :: l)) : (∀ s, s ∈ l → r.tag < s.tag) ∧ r.ids ≠ [] ∧ r.ids.Pairwise (· < ·) ∧ CanR l := by
  have h1 := List.pairwise_cons.1 h.1
  have h2 := h.2 r (List.mem_cons_self ..)
  exact ⟨h1.1, h2.1, h2.2, h1.2, fun s hs => h.2 s (List.mem_cons_of_mem _ hs)⟩
theorem flat_srt {l : List Rw} (h : CanR l) : (flat l).Pairwise LtP := by
  induction l with
  | nil => exact .nil
  | cons r l ih =>
    obtain ⟨h1, h2, h3, h4⟩ := h.cons
    rw [show flat (r :: l) = flat [r] ++ flat l from flat_app [r] l, flat_one, List.pairwise_append]
    refine ⟨?_, ih h4, fun a ha b hb => ?_⟩
    · exact List.pairwise_map.2 (h3.imp fun x => .inr ⟨rfl, x⟩)
    · obtain ⟨i, hi, rfl⟩ := List.mem_map.1 ha
      obtain ⟨s, hs, e, _⟩ := mem_flat.1 hb
      exact .inl (e ▸ h1 s hs)
/-! ### Pairs gathered -/
def stepG (R : List Rw) (p : Pr) : List Rw :=
  match R.getLast? with
  | some r => if r.tag = p.tag then R.dropLast ++ [⟨r.tag, r.ids ++ [p.id]⟩] else R ++ [⟨p.tag, [p.id]⟩]
  | none => [⟨p.tag, [p.id]⟩]
def gathR (S : List Pr) : List Rw := S.foldl stepG []
theorem stepG_nil (p : Pr) : stepG [] p = [⟨p.tag, [p.id]⟩] := rfl
theorem stepG_eq (I : List Rw) {r : Rw} {p : Pr} (h : r.tag = p.tag) : stepG (I ++ [r]) p = I ++ [⟨r.tag, r.ids ++ [p.id]⟩] := by
  unfold stepG; simp [h]
theorem stepG_ne (I : List Rw) {r : Rw} {p : Pr} (h : ¬ r.tag = p.tag) : stepG (I ++ [r]) p = I ++ [r] ++ [⟨p.tag, [p.id]⟩] := by
  unfold stepG; simp [h]
theorem rw_cases (R : List Rw) : R = [] ∨ ∃ I r, R = I ++ [r] := by
  rcases List.eq_nil_or_concat R with h | ⟨I, r, h⟩
  · exact .inl h
  · exact .inr ⟨I, r, by simpa using h⟩
theorem gath_take {S : List Pr} {i : Nat} (h : i < S.length) : gathR (S.take (i + 1)) = stepG (gathR (S.take i)) (S.getD i default) := by
  unfold gathR
  rw [List.take_succ_eq_append_getElem h, List.foldl_append, List.getD_eq_getElem?_getD, List.getElem?_eq_getElem h]
  rfl
theorem can_snoc {I : List Rw} {r : Rw} (hI : CanR I) (h1 : ∀ s, s ∈ I → s.tag < r.tag) (h2 : r.ids ≠ []) (h3 : r.ids.Pairwise (· < ·)) : CanR (I ++ [r]) := by
  refine ⟨List.pairwise_append.2 ⟨hI.1, by simp, fun a ha b hb => by simp at hb; subst hb; exact h1 a ha⟩, fun s hs => ?_⟩
  rcases List.mem_append.1 hs with hs | hs
  · exact hI.2 s hs
  · simp at hs; subst hs; exact ⟨h2, h3⟩
theorem can_init {I : List Rw} {r : Rw} (h : CanR (I ++ [r])) : CanR I ∧ (∀ s, s ∈ I → s.tag < r.tag) ∧ r.ids ≠ [] ∧ r.ids.Pairwise (· < ·) := by
  have h1 := List.pairwise_append.1 h.1
  have h2 := h.2 r (by simp)
  exact ⟨⟨h1.1, fun s hs => h.2 s (List.mem_append_left _ hs)⟩, fun s hs => h1.2.2 s hs r (by simp), h2.1, h2.2⟩
theorem step_can {R : List Rw} {p : Pr} (h : CanR R) (hp : ∀ q, q ∈ flat R → LtP q p) : CanR (stepG R p) ∧ flat (stepG R p) = flat R ++ [p] := by
  rcases rw_cases R with rfl | ⟨I, r, rfl⟩
  · rw [stepG_nil]
    refine ⟨⟨by simp, fun r hr => ?_⟩, by simp [flat]⟩
    simp at hr; subst hr; simp
  · obtain ⟨c1, c2, c3, c4⟩ := can_init h
    have hlast : ∀ i, i ∈ r.ids → LtP ⟨r.tag, i⟩ p := fun i hi => hp _ (mem_flat.2 ⟨r, by simp, rfl, hi⟩)
    by_cases e : r.tag = p.tag
    · rw [stepG_eq I e]
      refine ⟨can_snoc c1 c2 (by simp) ?_, ?_⟩
      · rw [List.pairwise_append]
        refine ⟨c4, by simp, fun a ha b hb => ?_⟩
        simp at hb; subst hb
        rcases hlast a ha with q | q
        · rw [e] at q; exact absurd q (List.lt_irrefl _)
        · exact q.2
      · rw [flat_app, flat_app, flat_one, flat_one, List.map_append, List.append_assoc, e]
        rfl
    · rw [stepG_ne I e]
      have hlt : r.tag < p.tag := by
        obtain ⟨i, hi⟩ := List.exists_mem_of_ne_nil _ c3
        rcases hlast i hi with q | q
        · exact q
        · exact absurd q.1 e
      refine ⟨can_snoc h (fun s hs => ?_) (by simp) (by simp), ?_⟩
      · rcases List.mem_append.1 hs with hs | hs
        · exact List.lt_trans (c2 s hs) hlt
        · simp at hs; subst hs; exact hlt
      · rw [flat_app _ [_], flat_one]
        rfl
theorem fold_can : ∀ {S : List Pr} {R : List Rw}, CanR R → (flat R ++ S).Pairwise LtP → CanR (S.foldl stepG R) ∧ flat (S.foldl stepG R) = flat R ++ S
  | [], R, h, _ => ⟨h, by simp⟩
  | p :: S, R, h, hp => by
    have h1 := List.pairwise_append.1 hp
    obtain ⟨s1, s2⟩ := step_can h fun q hq => h1.2.2 q hq p (List.mem_cons_self ..)
    have := fold_can (S := S) s1 (by rw [s2, List.append_assoc]; exact hp)
    rw [s2, List.append_assoc] at this
    exact this
theorem gath_can {S : List Pr} (h : S.Pairwise LtP) : CanR (gathR S) ∧ flat (gathR S) = S := by
  have := fold_can (S := S) (R := []) ⟨by simp, fun r hr => by cases hr⟩ (by simpa [flat] using h)
  rw [show flat ([] : List Rw) = [] from rfl, List.nil_append] at this
  exact this
theorem fold_ids (I : List Rw) (t : Ks) : ∀ (b : List Int) (a : List Int), (b.map fun i => (⟨t, i⟩ : Pr)).foldl stepG (I ++ [⟨t, a⟩]) = I ++ [⟨t, a ++ b⟩]
  | [], a => by simp
  | i :: b, a => by
    rw [List.map_cons, List.foldl_cons, stepG_eq I (r := ⟨t, a⟩) (p := ⟨t, i⟩) rfl]
    show (b.map fun i => (⟨t, i⟩ : Pr)).foldl stepG (I ++ [⟨t, a ++ [i]⟩]) = _
    rw [fold_ids I t b (a ++ [i]), List.append_assoc]; rfl
theorem fold_flat : ∀ {l R : List Rw}, CanR (R ++ l) → (flat l).foldl stepG R = R ++ l
  | [], R, _ => by simp [flat]
  | r :: l, R, h => by
    obtain ⟨t, ids⟩ := r
    have hc : CanR ((R ++ [⟨t, ids⟩]) ++ l) := by rw [List.append_assoc]; exact h
    have hR : CanR (R ++ [⟨t, ids⟩]) := ⟨(List.pairwise_append.1 hc.1).1, fun s hs => hc.2 s (List.mem_append_left _ hs)⟩
    obtain ⟨c1, c2, c3, c4⟩ := can_init hR
    rw [show flat (⟨t, ids⟩ :: l) = flat [⟨t, ids⟩] ++ flat l from flat_app [_] l, flat_one, List.foldl_append]
    have e : (ids.map fun i => (⟨t, i⟩ : Pr)).foldl stepG R = R ++ [⟨t, ids⟩] := by
      cases ids with
      | nil => exact absurd rfl c3
      | cons i b =>
        rw [List.map_cons, List.foldl_cons]
        have e1 : stepG R ⟨t, i⟩ = R ++ [⟨t, [i]⟩] := by
          rcases rw_cases R with rfl | ⟨I, r, rfl⟩
          · rfl
          · exact stepG_ne I fun e => by
              have := c2 r (by simp)
              rw [e] at this
              exact List.lt_irrefl _ this
        rw [e1]
        exact fold_ids R t b [i]
    show (flat l).foldl stepG ((ids.map fun i => (⟨t, i⟩ : Pr)).foldl stepG R) = _
    rw [e, fold_flat hc, List.append_assoc]; rfl
theorem gath_flat {l : List Rw} (h : CanR l) : gathR (flat l) = l := by
  have := fold_flat (l := l) (R := []) (by simpa using h)
  simpa [gathR] using this
theorem can_ext {l m : List Rw} (hl : CanR l) (hm : CanR m) (h : ∀ p, p ∈ flat l ↔ p ∈ flat m) : l = m := by
  rw [← gath_flat hl, ← gath_flat hm, sortedP (flat_srt hl) (flat_srt hm) h]
end Go.Proofs.Ytmgcoopmbohkoaa

namespace Go.Proofs.Ytmgcoopmbohkoaa
open Go Go.Idl
set_option linter.unusedSimpArgs false
set_option linter.unusedVariables false
set_option maxRecDepth 100000
set_option maxHeartbeats 4000000
def rwRc (b : Bool) : Rc Rw := ⟨fun x => [.sc (.string ⟨⟨x.tag⟩⟩), .fz b (cl (Value.int .i64) x.ids) x.ids.length], 2, fun _ => rfl⟩
def rows (b : Bool) (l : List Rw) : List IV := fl (rwRc b) l
section
variable {b : Bool} {l r a : List Rw} {i n : Nat}
theorem rows_length : (rows b l).length = l.length * 2 := fl_length (rwRc b) l
theorem rows_drop : (rows b l).drop (n * 2) = rows b (l.drop n) := fl_drop (rwRc b) l n
theorem rows_take : (rows b l).take (n * 2) = rows b (l.take n) := fl_take (rwRc b) l n
theorem rows_app : rows b a ++ rows b r = rows b (a ++ r) := fl_app (rwRc b) a r
theorem rows_snoc {v0 : List UInt8} {v1 : List Int} {m1 : Nat} (h1 : m1 = v1.length) : rows b a ++ [.sc (.string ⟨⟨v0⟩⟩), .fz b (cl (Value.int .i64) v1) m1] = rows b (a ++ [⟨v0, v1⟩]) := by subst h1; exact fl_app (rwRc b) a [⟨v0, v1⟩]
theorem rows_part (h : i < l.length) : (rows b (l.drop i)).take 2 = [.sc (.string ⟨⟨(l.getD i default).tag⟩⟩), .fz b (cl (Value.int .i64) (l.getD i default).ids) (l.getD i default).ids.length] := by rw [← rows_drop]; exact fl_part (rwRc b) h
theorem rows_part0 (h : 0 < l.length) : (rows b l).take 2 = [.sc (.string ⟨⟨(l.getD 0 default).tag⟩⟩), .fz b (cl (Value.int .i64) (l.getD 0 default).ids) (l.getD 0 default).ids.length] := by have := rows_part (b := b) h; rwa [List.drop_zero] at this
theorem rows_get0 (h : i < l.length) : (rows b l).getD (i * 2) .any = .sc (.string ⟨⟨(l.getD i default).tag⟩⟩) := fl_get (rwRc b) (j := 0) h (show 0 < 2 by decide)
theorem rows_get1 (h : i < l.length) : (rows b l).getD (i * 2 + 1) .any = .fz b (cl (Value.int .i64) (l.getD i default).ids) (l.getD i default).ids.length := fl_get (rwRc b) (j := 1) h (show 1 < 2 by decide)
theorem rows_splice (h : i < l.length) {v0 : List UInt8} {v1 : List Int} {m1 : Nat} (h1 : m1 = v1.length) : splice (rows b l) (i * 2) [.sc (.string ⟨⟨v0⟩⟩), .fz b (cl (Value.int .i64) v1) m1] = rows b (l.set i ⟨v0, v1⟩) := by subst h1; exact fl_splice (rwRc b) h ⟨v0, v1⟩
theorem rows_closed : IV.closedL (rows b l) = true := fl_closed (rwRc b) (fun _ => rfl) l
theorem rows_ones : IV.ones (rows b l) = true := fl_ones (rwRc b) (fun _ => rfl) l
theorem rows_fresh : IV.freshL (rows true l) = true := fl_fresh (rwRc true) (fun x => by simp [rwRc, IV.freshL, IV.fresh, cl_fresh]) l
theorem rows_relab : IV.relabL (rows b l) = rows false l := by
  induction l with
  | nil => rfl
  | cons x l ih =>
    show IV.relabL ((rwRc b).f x ++ fl (rwRc b) l) = (rwRc false).f x ++ fl (rwRc false) l
    rw [relabL_app]
    change _ ++ IV.relabL (rows b l) = _
    rw [ih]
    congr 1
    simp [rwRc, IV.relabL, IV.relab, cl_relab]
theorem rows_ren {σ : Nat → Option Nat} : IV.renL σ (rows b l) = rows b l := fl_ren (rwRc b) (fun _ => by simp [rwRc, IV.renL, IV.ren]) l
end
attribute [go_sem] rows_length rows_drop rows_take rows_app rows_snoc rows_part rows_part0 rows_get0 rows_get1 rows_splice rows_closed rows_ones rows_fresh rows_relab rows_ren
attribute [local irreducible] Go.Idl.IWP Go.Idl.IOps Go.Idl.Obl Go.Idl.OpG Go.Idl.thenI Go.Idl.inBlockI Go.Idl.LoopU Go.Idl.noGotoI Go.Idl.jumpI
attribute [local go_sem] List.length_set bl_of bl_no List.drop_length Nat.sub_self
def nmd (i : Int) : Prop := 0 ≤ i ∧ i < 64
instance (i : Int) : Decidable (nmd i) := by unfold nmd; infer_instance
theorem named_spec (i : Int) : Idl.Spec Try.prog 40 [.i64 i] [] (Only (.sc (.bool (decide (nmd i)))) []) := by
  by_cases h1 : 0 ≤ i
  · by_cases h2 : i < 64
    · rw [show decide (nmd i) = true from decide_eq_true ⟨h1, h2⟩]
      refine sB Try.func40 Try.ntmps40 ?_
      repeat' (first|refine IOps_nil ?_|refine oS ?_|refine IOps_s rfl rfl ?_|refine oT ?_|refine IOps_s0 rfl ?_|refine oZ ?_|refine oI ?_|refine oAB ?_|refine thenI_n ?_|refine IWP_seq ?_|refine IWP_region ?_|refine IWP_ct rfl ?_|refine IWP_cf rfl ?_|refine IWP_skip ?_|refine IWP_ret ?_|refine IWP_block ?_|refine inB_n ?_|refine thenI_r ?_|refine thenI_e ?_|refine inB_r ?_|refine inB_hit ?_|refine inB_miss rfl ?_|refine IWP_exit ?_|refine IWP_scope ?_|refine IWP_label ?_|refine noG_n ?_|refine noG_r ?_|refine noG_e ?_|refine jmp_n ?_|refine jmp_r ?_|refine jmp_e ?_|refine jmp_g ?_|refine thenI_g ?_|refine inB_g ?_|refine IWP_goto ?_|refine Loop_n ?_|fail)
      exact pD [] ⟨rfl, rfl⟩
    · rw [show decide (nmd i) = false from decide_eq_false fun h => h2 h.2]
      refine sB Try.func40 Try.ntmps40 ?_
      repeat' (first|refine IOps_nil ?_|refine oS ?_|refine IOps_s rfl rfl ?_|refine oT ?_|refine IOps_s0 rfl ?_|refine oZ ?_|refine oI ?_|refine oAB ?_|refine thenI_n ?_|refine IWP_seq ?_|refine IWP_region ?_|refine IWP_ct rfl ?_|refine IWP_cf rfl ?_|refine IWP_skip ?_|refine IWP_ret ?_|refine IWP_block ?_|refine inB_n ?_|refine thenI_r ?_|refine thenI_e ?_|refine inB_r ?_|refine inB_hit ?_|refine inB_miss rfl ?_|refine IWP_exit ?_|refine IWP_scope ?_|refine IWP_label ?_|refine noG_n ?_|refine noG_r ?_|refine noG_e ?_|refine jmp_n ?_|refine jmp_r ?_|refine jmp_e ?_|refine jmp_g ?_|refine thenI_g ?_|refine inB_g ?_|refine IWP_goto ?_|refine Loop_n ?_|fail)
      exact pD [] ⟨rfl, rfl⟩
  · rw [show decide (nmd i) = false from decide_eq_false fun h => h1 h.1]
    refine sB Try.func40 Try.ntmps40 ?_
    repeat' (first|refine IOps_nil ?_|refine oS ?_|refine IOps_s rfl rfl ?_|refine oT ?_|refine IOps_s0 rfl ?_|refine oZ ?_|refine oI ?_|refine oAB ?_|refine thenI_n ?_|refine IWP_seq ?_|refine IWP_region ?_|refine IWP_ct rfl ?_|refine IWP_cf rfl ?_|refine IWP_skip ?_|refine IWP_ret ?_|refine IWP_block ?_|refine inB_n ?_|refine thenI_r ?_|refine thenI_e ?_|refine inB_r ?_|refine inB_hit ?_|refine inB_miss rfl ?_|refine IWP_exit ?_|refine IWP_scope ?_|refine IWP_label ?_|refine noG_n ?_|refine noG_r ?_|refine noG_e ?_|refine jmp_n ?_|refine jmp_r ?_|refine jmp_e ?_|refine jmp_g ?_|refine thenI_g ?_|refine inB_g ?_|refine IWP_goto ?_|refine Loop_n ?_|fail)
    exact pD [] ⟨rfl, rfl⟩
def idxI : List Int → Int → Int
  | [], _ => -1
  | a :: l, x => if x = a then 0 else if idxI l x < 0 then -1 else idxI l x + 1
theorem idxI_lt (l : List Int) (x : Int) : -1 ≤ idxI l x := by
  induction l with
  | nil => simp [idxI]
  | cons a l ih => unfold idxI; split; · omega
                   split <;> omega
theorem idxI_mem (l : List Int) (x : Int) : 0 ≤ idxI l x ↔ x ∈ l := by
  induction l with
  | nil => simp [idxI]
  | cons a l ih =>
    have := idxI_lt l x
    unfold idxI
    by_cases h : x = a
    · simp [h]
    · rw [if_neg h]
      by_cases k : idxI l x < 0
      · rw [if_pos k]
        have : x ∉ l := fun hx => by have := ih.2 hx; omega
        simp [h, this]
      · rw [if_neg k]
        have : x ∈ l := ih.1 (by omega)
        simp only [List.mem_cons, this, or_true, iff_true]; omega
theorem idxI_at : ∀ {l : List Int} {x : Int} {i : Nat}, i < l.length → (∀ j, j < i → ¬ x = l.getD j 0) → x = l.getD i 0 → idxI l x = i
  | [], x, i, h, _, _ => by simp at h
  | a :: l, x, 0, _, _, h => by simp at h; unfold idxI; rw [if_pos h]; rfl
  | a :: l, x, i + 1, h, hp, hx => by
    have h0 : ¬ x = a := by simpa using hp 0 (by omega)
    have ih := idxI_at (l := l) (x := x) (i := i) (by simpa using h) (fun j hj => by simpa using hp (j + 1) (by omega)) (by simpa using hx)
    unfold idxI
    rw [if_neg h0, if_neg (by omega), ih]; omega
theorem idxI_no {l : List Int} {x : Int} (h : ∀ j, j < l.length → ¬ x = l.getD j 0) : idxI l x = -1 := by
  have h1 : ¬ 0 ≤ idxI l x := fun e => by
    obtain ⟨j, hj, e⟩ := mem_getD 0 ((idxI_mem l x).1 e)
    exact h j hj e.symm
  have := idxI_lt l x
  omega
theorem index_spec (l : List Int) (x : Int) (hL : l.length ≤ 1000000) : Idl.Spec Try.prog 48 [.fz false (ints l) l.length, .i64 x] [] (Only (.i64 (idxI l x)) []) := by
  refine sB Try.func48 Try.ntmps48 ?_
  repeat' (first|refine IOps_nil ?_|refine oS ?_|refine IOps_s rfl rfl ?_|refine oT ?_|refine IOps_s0 rfl ?_|refine oZ ?_|refine oI ?_|refine oAB ?_|refine thenI_n ?_|refine IWP_seq ?_|refine IWP_region ?_|refine IWP_ct rfl ?_|refine IWP_cf rfl ?_|refine IWP_skip ?_|refine IWP_ret ?_|refine IWP_block ?_|refine inB_n ?_|refine thenI_r ?_|refine thenI_e ?_|refine inB_r ?_|refine inB_hit ?_|refine inB_miss rfl ?_|refine IWP_exit ?_|refine IWP_scope ?_|refine IWP_label ?_|refine noG_n ?_|refine noG_r ?_|refine noG_e ?_|refine jmp_n ?_|refine jmp_r ?_|refine jmp_e ?_|refine jmp_g ?_|refine thenI_g ?_|refine inB_g ?_|refine IWP_goto ?_|refine Loop_n ?_|fail)
  refine IWP_loop (fun i : Nat => ⟨19, [(0, .fz false (ints l) l.length), (1, .i64 x), (7, .i64 l.length), (8, .i64 i)], []⟩) (fun i => i ≤ l.length ∧ ∀ j, j < i → ¬ x = l.getD j 0) (fun i => l.length - i) 0 (lP []) ⟨Nat.zero_le _, fun j hj => by omega⟩ ?_
  rintro i ⟨hi, hp⟩
  by_cases h : i < l.length
  · by_cases he : x = l.getD i 0
    · rw [idxI_at h hp he]
      repeat' (first|refine IOps_nil ?_|refine oS ?_|refine IOps_s rfl rfl ?_|refine oT ?_|refine IOps_s0 rfl ?_|refine oZ ?_|refine oI ?_|refine oAB ?_|refine thenI_n ?_|refine IWP_seq ?_|refine IWP_region ?_|refine IWP_ct rfl ?_|refine IWP_cf rfl ?_|refine IWP_skip ?_|refine IWP_ret ?_|refine IWP_block ?_|refine inB_n ?_|refine thenI_r ?_|refine thenI_e ?_|refine inB_r ?_|refine inB_hit ?_|refine inB_miss rfl ?_|refine IWP_exit ?_|refine IWP_scope ?_|refine IWP_label ?_|refine noG_n ?_|refine noG_r ?_|refine noG_e ?_|refine jmp_n ?_|refine jmp_r ?_|refine jmp_e ?_|refine jmp_g ?_|refine thenI_g ?_|refine inB_g ?_|refine IWP_goto ?_|refine Loop_n ?_|fail)
      exact pD [] ⟨rfl, rfl⟩
    · repeat' (first|refine IOps_nil ?_|refine oS ?_|refine IOps_s rfl rfl ?_|refine oT ?_|refine IOps_s0 rfl ?_|refine oZ ?_|refine oI ?_|refine oAB ?_|refine thenI_n ?_|refine IWP_seq ?_|refine IWP_region ?_|refine IWP_ct rfl ?_|refine IWP_cf rfl ?_|refine IWP_skip ?_|refine IWP_ret ?_|refine IWP_block ?_|refine inB_n ?_|refine thenI_r ?_|refine thenI_e ?_|refine inB_r ?_|refine inB_hit ?_|refine inB_miss rfl ?_|refine IWP_exit ?_|refine IWP_scope ?_|refine IWP_label ?_|refine noG_n ?_|refine noG_r ?_|refine noG_e ?_|refine jmp_n ?_|refine jmp_r ?_|refine jmp_e ?_|refine jmp_g ?_|refine thenI_g ?_|refine inB_g ?_|refine IWP_goto ?_|refine Loop_n ?_|fail)
      refine ⟨i + 1, ⟨h, fun j hj => ?_⟩, by omega, lP []⟩
      rcases Nat.lt_succ_iff_lt_or_eq.1 hj with h' | rfl
      · exact hp j h'
      · exact he
  · obtain rfl : i = l.length := by omega
    rw [idxI_no hp]
    repeat' (first|refine IOps_nil ?_|refine oS ?_|refine IOps_s rfl rfl ?_|refine oT ?_|refine IOps_s0 rfl ?_|refine oZ ?_|refine oI ?_|refine oAB ?_|refine thenI_n ?_|refine IWP_seq ?_|refine IWP_region ?_|refine IWP_ct rfl ?_|refine IWP_cf rfl ?_|refine IWP_skip ?_|refine IWP_ret ?_|refine IWP_block ?_|refine inB_n ?_|refine thenI_r ?_|refine thenI_e ?_|refine inB_r ?_|refine inB_hit ?_|refine inB_miss rfl ?_|refine IWP_exit ?_|refine IWP_scope ?_|refine IWP_label ?_|refine noG_n ?_|refine noG_r ?_|refine noG_e ?_|refine jmp_n ?_|refine jmp_r ?_|refine jmp_e ?_|refine jmp_g ?_|refine thenI_g ?_|refine inB_g ?_|refine IWP_goto ?_|refine Loop_n ?_|fail)
    exact pD [] ⟨rfl, rfl⟩
theorem contains_spec (l : List Int) (x : Int) (hL : l.length ≤ 1000000) : Idl.Spec Try.prog 39 [.fz false (ints l) l.length, .i64 x] [] (Only (.sc (.bool (decide (x ∈ l)))) []) := by
  have hm := idxI_mem l x
  by_cases h : x ∈ l
  · rw [decide_eq_true h]
    have := hm.2 h
    refine sB Try.func39 Try.ntmps39 ?_
    repeat' (first|refine IOps_nil ?_|refine oS ?_|refine IOps_s rfl rfl ?_|refine oT ?_|refine IOps_s0 rfl ?_|refine oC (π:=[]) (hs:=by first|exact index_spec l x hL|fail) (hx:=?_)|refine oZ ?_|refine oI ?_|refine oAB ?_|refine thenI_n ?_|refine IWP_seq ?_|refine IWP_region ?_|refine IWP_ct rfl ?_|refine IWP_cf rfl ?_|refine IWP_skip ?_|refine IWP_ret ?_|refine IWP_block ?_|refine inB_n ?_|refine thenI_r ?_|refine thenI_e ?_|refine inB_r ?_|refine inB_hit ?_|refine inB_miss rfl ?_|refine IWP_exit ?_|refine IWP_scope ?_|refine IWP_label ?_|refine noG_n ?_|refine noG_r ?_|refine noG_e ?_|refine jmp_n ?_|refine jmp_r ?_|refine jmp_e ?_|refine jmp_g ?_|refine thenI_g ?_|refine inB_g ?_|refine IWP_goto ?_|refine Loop_n ?_|fail)
    exact pD [] ⟨rfl, rfl⟩
  · rw [decide_eq_false h]
    have : ¬ 0 ≤ idxI l x := fun e => h (hm.1 e)
    refine sB Try.func39 Try.ntmps39 ?_
    repeat' (first|refine IOps_nil ?_|refine oS ?_|refine IOps_s rfl rfl ?_|refine oT ?_|refine IOps_s0 rfl ?_|refine oC (π:=[]) (hs:=by first|exact index_spec l x hL|fail) (hx:=?_)|refine oZ ?_|refine oI ?_|refine oAB ?_|refine thenI_n ?_|refine IWP_seq ?_|refine IWP_region ?_|refine IWP_ct rfl ?_|refine IWP_cf rfl ?_|refine IWP_skip ?_|refine IWP_ret ?_|refine IWP_block ?_|refine inB_n ?_|refine thenI_r ?_|refine thenI_e ?_|refine inB_r ?_|refine inB_hit ?_|refine inB_miss rfl ?_|refine IWP_exit ?_|refine IWP_scope ?_|refine IWP_label ?_|refine noG_n ?_|refine noG_r ?_|refine noG_e ?_|refine jmp_n ?_|refine jmp_r ?_|refine jmp_e ?_|refine jmp_g ?_|refine thenI_g ?_|refine inB_g ?_|refine IWP_goto ?_|refine Loop_n ?_|fail)
    exact pD [] ⟨rfl, rfl⟩
theorem iclone_spec (l : List Int) (hL : l.length ≤ 1000000) : Idl.Spec Try.prog 41 [.fz false (ints l) l.length] [] (Only (.fz true (ints l) l.length) []) := by
  refine sB Try.func41 Try.ntmps41 ?_
  repeat' (first|refine IOps_nil ?_|refine oS ?_|refine IOps_s rfl rfl ?_|refine oT ?_|refine IOps_s0 rfl ?_|refine oZ ?_|refine oI ?_|refine oAB ?_|refine thenI_n ?_|refine IWP_seq ?_|refine IWP_region ?_|refine IWP_ct rfl ?_|refine IWP_cf rfl ?_|refine IWP_skip ?_|refine IWP_ret ?_|refine IWP_block ?_|refine inB_n ?_|refine thenI_r ?_|refine thenI_e ?_|refine inB_r ?_|refine inB_hit ?_|refine inB_miss rfl ?_|refine IWP_exit ?_|refine IWP_scope ?_|refine IWP_label ?_|refine noG_n ?_|refine noG_r ?_|refine noG_e ?_|refine jmp_n ?_|refine jmp_r ?_|refine jmp_e ?_|refine jmp_g ?_|refine thenI_g ?_|refine inB_g ?_|refine IWP_goto ?_|refine Loop_n ?_|fail)
  refine oNq (e := 3) (fun h0 _ => ?_) ?_
  · obtain rfl : l = [] := List.length_eq_zero_iff.1 h0
    repeat' (first|refine IOps_nil ?_|refine oS ?_|refine IOps_s rfl rfl ?_|refine oT ?_|refine IOps_s0 rfl ?_|refine oZ ?_|refine oI ?_|refine oAB ?_|refine thenI_n ?_|refine IWP_seq ?_|refine IWP_region ?_|refine IWP_ct rfl ?_|refine IWP_cf rfl ?_|refine IWP_skip ?_|refine IWP_block ?_|refine inB_n ?_|refine thenI_r ?_|refine thenI_e ?_|refine inB_r ?_|refine inB_hit ?_|refine inB_miss rfl ?_|refine IWP_exit ?_|refine IWP_scope ?_|refine IWP_label ?_|refine noG_n ?_|refine noG_r ?_|refine noG_e ?_|refine jmp_n ?_|refine jmp_r ?_|refine jmp_e ?_|refine jmp_g ?_|refine thenI_g ?_|refine inB_g ?_|refine IWP_goto ?_|refine Loop_n ?_|fail)
    refine wN0 2 ?_
    repeat' (first|refine IOps_nil ?_|refine oS ?_|refine IOps_s rfl rfl ?_|refine oT ?_|refine IOps_s0 rfl ?_|refine oZ ?_|refine oI ?_|refine oAB ?_|refine thenI_n ?_|refine IWP_seq ?_|refine IWP_region ?_|refine IWP_ct rfl ?_|refine IWP_cf rfl ?_|refine IWP_skip ?_|refine IWP_ret ?_|refine IWP_block ?_|refine inB_n ?_|refine thenI_r ?_|refine thenI_e ?_|refine inB_r ?_|refine inB_hit ?_|refine inB_miss rfl ?_|refine IWP_exit ?_|refine IWP_scope ?_|refine IWP_label ?_|refine noG_n ?_|refine noG_r ?_|refine noG_e ?_|refine jmp_n ?_|refine jmp_r ?_|refine jmp_e ?_|refine jmp_g ?_|refine thenI_g ?_|refine inB_g ?_|refine IWP_goto ?_|refine Loop_n ?_|fail)
    exact pD [] ⟨rfl, rfl⟩
  · repeat' (first|refine IOps_nil ?_|refine oS ?_|refine IOps_s rfl rfl ?_|refine oT ?_|refine IOps_s0 rfl ?_|refine oZ ?_|refine oI ?_|refine oAB ?_|refine thenI_n ?_|refine IWP_seq ?_|refine IWP_region ?_|refine IWP_ct rfl ?_|refine IWP_cf rfl ?_|refine IWP_skip ?_|refine IWP_block ?_|refine inB_n ?_|refine thenI_r ?_|refine thenI_e ?_|refine inB_r ?_|refine inB_hit ?_|refine inB_miss rfl ?_|refine IWP_exit ?_|refine IWP_scope ?_|refine IWP_label ?_|refine noG_n ?_|refine noG_r ?_|refine noG_e ?_|refine jmp_n ?_|refine jmp_r ?_|refine jmp_e ?_|refine jmp_g ?_|refine thenI_g ?_|refine inB_g ?_|refine IWP_goto ?_|refine Loop_n ?_|fail)
    refine wF 2 ?_
    repeat' (first|refine IOps_nil ?_|refine oS ?_|refine IOps_s rfl rfl ?_|refine oT ?_|refine IOps_s0 rfl ?_|refine oZ ?_|refine oI ?_|refine oAB ?_|refine thenI_n ?_|refine IWP_seq ?_|refine IWP_region ?_|refine IWP_ct rfl ?_|refine IWP_cf rfl ?_|refine IWP_skip ?_|refine IWP_ret ?_|refine IWP_block ?_|refine inB_n ?_|refine thenI_r ?_|refine thenI_e ?_|refine inB_r ?_|refine inB_hit ?_|refine inB_miss rfl ?_|refine IWP_exit ?_|refine IWP_scope ?_|refine IWP_label ?_|refine noG_n ?_|refine noG_r ?_|refine noG_e ?_|refine jmp_n ?_|refine jmp_r ?_|refine jmp_e ?_|refine jmp_g ?_|refine thenI_g ?_|refine inB_g ?_|refine IWP_goto ?_|refine Loop_n ?_|fail)
    exact pD [] ⟨rfl, rfl⟩
theorem kcompare_spec (a b : Ks) : Idl.Spec Try.prog 52 [.sc (.string ⟨⟨a⟩⟩), .sc (.string ⟨⟨b⟩⟩)] [] (Only (.i64 (cmpK a b)) []) := by
  rcases kcases a b with ⟨h, e⟩ | ⟨h, e⟩ | ⟨h, e⟩
  · rw [e]
    have h1 := cS_iff.2 h
    refine sB Try.func52 Try.ntmps52 ?_
    repeat' (first|refine IOps_nil ?_|refine oS ?_|refine IOps_s rfl rfl ?_|refine oT ?_|refine IOps_s0 rfl ?_|refine oC (π:=[]) (hs:=by first|exact isnan_spec _|fail) (hx:=?_)|refine oZ ?_|refine oI ?_|refine oAB ?_|refine thenI_n ?_|refine IWP_seq ?_|refine IWP_region ?_|refine IWP_ct rfl ?_|refine IWP_cf rfl ?_|refine IWP_skip ?_|refine IWP_ret ?_|refine IWP_block ?_|refine inB_n ?_|refine thenI_r ?_|refine thenI_e ?_|refine inB_r ?_|refine inB_hit ?_|refine inB_miss rfl ?_|refine IWP_exit ?_|refine IWP_scope ?_|refine IWP_label ?_|refine noG_n ?_|refine noG_r ?_|refine noG_e ?_|refine jmp_n ?_|refine jmp_r ?_|refine jmp_e ?_|refine jmp_g ?_|refine thenI_g ?_|refine inB_g ?_|refine IWP_goto ?_|refine Loop_n ?_|fail)
    exact pD [] ⟨rfl, rfl⟩
  · rw [e]
    subst h
    have h1 := cS_irr a
    refine sB Try.func52 Try.ntmps52 ?_
    repeat' (first|refine IOps_nil ?_|refine oS ?_|refine IOps_s rfl rfl ?_|refine oT ?_|refine IOps_s0 rfl ?_|refine oC (π:=[]) (hs:=by first|exact isnan_spec _|fail) (hx:=?_)|refine oZ ?_|refine oI ?_|refine oAB ?_|refine thenI_n ?_|refine IWP_seq ?_|refine IWP_region ?_|refine IWP_ct rfl ?_|refine IWP_cf rfl ?_|refine IWP_skip ?_|refine IWP_ret ?_|refine IWP_block ?_|refine inB_n ?_|refine thenI_r ?_|refine thenI_e ?_|refine inB_r ?_|refine inB_hit ?_|refine inB_miss rfl ?_|refine IWP_exit ?_|refine IWP_scope ?_|refine IWP_label ?_|refine noG_n ?_|refine noG_r ?_|refine noG_e ?_|refine jmp_n ?_|refine jmp_r ?_|refine jmp_e ?_|refine jmp_g ?_|refine thenI_g ?_|refine inB_g ?_|refine IWP_goto ?_|refine Loop_n ?_|fail)
    exact pD [] ⟨rfl, rfl⟩
  · rw [e]
    have h1 : ¬ cS a b < 0 := fun x => List.lt_asymm h (cS_iff.1 x)
    have h2 : ¬ a = b := fun x => by subst x; exact List.lt_irrefl _ h
    refine sB Try.func52 Try.ntmps52 ?_
    repeat' (first|refine IOps_nil ?_|refine oS ?_|refine IOps_s rfl rfl ?_|refine oT ?_|refine IOps_s0 rfl ?_|refine oC (π:=[]) (hs:=by first|exact isnan_spec _|fail) (hx:=?_)|refine oZ ?_|refine oI ?_|refine oAB ?_|refine thenI_n ?_|refine IWP_seq ?_|refine IWP_region ?_|refine IWP_ct rfl ?_|refine IWP_cf rfl ?_|refine IWP_skip ?_|refine IWP_ret ?_|refine IWP_block ?_|refine inB_n ?_|refine thenI_r ?_|refine thenI_e ?_|refine inB_r ?_|refine inB_hit ?_|refine inB_miss rfl ?_|refine IWP_exit ?_|refine IWP_scope ?_|refine IWP_label ?_|refine noG_n ?_|refine noG_r ?_|refine noG_e ?_|refine jmp_n ?_|refine jmp_r ?_|refine jmp_e ?_|refine jmp_g ?_|refine thenI_g ?_|refine inB_g ?_|refine IWP_goto ?_|refine Loop_n ?_|fail)
    exact pD [] ⟨rfl, rfl⟩
theorem inan_spec (a : Int) : Idl.Spec Try.prog 67 [.i64 a] [] (Only (.sc (.bool false)) []) := by
  refine sB Try.func67 Try.ntmps67 ?_
  repeat' (first|refine IOps_nil ?_|refine oS ?_|refine IOps_s rfl rfl ?_|refine oT ?_|refine IOps_s0 rfl ?_|refine oZ ?_|refine oI ?_|refine oAB ?_|refine thenI_n ?_|refine IWP_seq ?_|refine IWP_region ?_|refine IWP_ct rfl ?_|refine IWP_cf rfl ?_|refine IWP_skip ?_|refine IWP_ret ?_|refine IWP_block ?_|refine inB_n ?_|refine thenI_r ?_|refine thenI_e ?_|refine inB_r ?_|refine inB_hit ?_|refine inB_miss rfl ?_|refine IWP_exit ?_|refine IWP_scope ?_|refine IWP_label ?_|refine noG_n ?_|refine noG_r ?_|refine noG_e ?_|refine jmp_n ?_|refine jmp_r ?_|refine jmp_e ?_|refine jmp_g ?_|refine thenI_g ?_|refine inB_g ?_|refine IWP_goto ?_|refine Loop_n ?_|fail)
  exact pD [] ⟨rfl, rfl⟩
theorem icompare_spec (a b : Int) : Idl.Spec Try.prog 53 [.i64 a, .i64 b] [] (Only (.i64 (cmpZ a b)) []) := by
  by_cases h1 : a < b
  · rw [show cmpZ a b = -1 by simp [cmpZ, h1]]
    refine sB Try.func53 Try.ntmps53 ?_
    repeat' (first|refine IOps_nil ?_|refine oS ?_|refine IOps_s rfl rfl ?_|refine oT ?_|refine IOps_s0 rfl ?_|refine oC (π:=[]) (hs:=by first|exact inan_spec _|fail) (hx:=?_)|refine oZ ?_|refine oI ?_|refine oAB ?_|refine thenI_n ?_|refine IWP_seq ?_|refine IWP_region ?_|refine IWP_ct rfl ?_|refine IWP_cf rfl ?_|refine IWP_skip ?_|refine IWP_ret ?_|refine IWP_block ?_|refine inB_n ?_|refine thenI_r ?_|refine thenI_e ?_|refine inB_r ?_|refine inB_hit ?_|refine inB_miss rfl ?_|refine IWP_exit ?_|refine IWP_scope ?_|refine IWP_label ?_|refine noG_n ?_|refine noG_r ?_|refine noG_e ?_|refine jmp_n ?_|refine jmp_r ?_|refine jmp_e ?_|refine jmp_g ?_|refine thenI_g ?_|refine inB_g ?_|refine IWP_goto ?_|refine Loop_n ?_|fail)
    exact pD [] ⟨rfl, rfl⟩
  · by_cases h2 : b < a
    · rw [show cmpZ a b = 1 by simp [cmpZ, h1, h2]]
      refine sB Try.func53 Try.ntmps53 ?_
      repeat' (first|refine IOps_nil ?_|refine oS ?_|refine IOps_s rfl rfl ?_|refine oT ?_|refine IOps_s0 rfl ?_|refine oC (π:=[]) (hs:=by first|exact inan_spec _|fail) (hx:=?_)|refine oZ ?_|refine oI ?_|refine oAB ?_|refine thenI_n ?_|refine IWP_seq ?_|refine IWP_region ?_|refine IWP_ct rfl ?_|refine IWP_cf rfl ?_|refine IWP_skip ?_|refine IWP_ret ?_|refine IWP_block ?_|refine inB_n ?_|refine thenI_r ?_|refine thenI_e ?_|refine inB_r ?_|refine inB_hit ?_|refine inB_miss rfl ?_|refine IWP_exit ?_|refine IWP_scope ?_|refine IWP_label ?_|refine noG_n ?_|refine noG_r ?_|refine noG_e ?_|refine jmp_n ?_|refine jmp_r ?_|refine jmp_e ?_|refine jmp_g ?_|refine thenI_g ?_|refine inB_g ?_|refine IWP_goto ?_|refine Loop_n ?_|fail)
      exact pD [] ⟨rfl, rfl⟩
    · rw [show cmpZ a b = 0 by simp [cmpZ, h1, h2]]
      refine sB Try.func53 Try.ntmps53 ?_
      repeat' (first|refine IOps_nil ?_|refine oS ?_|refine IOps_s rfl rfl ?_|refine oT ?_|refine IOps_s0 rfl ?_|refine oC (π:=[]) (hs:=by first|exact inan_spec _|fail) (hx:=?_)|refine oZ ?_|refine oI ?_|refine oAB ?_|refine thenI_n ?_|refine IWP_seq ?_|refine IWP_region ?_|refine IWP_ct rfl ?_|refine IWP_cf rfl ?_|refine IWP_skip ?_|refine IWP_ret ?_|refine IWP_block ?_|refine inB_n ?_|refine thenI_r ?_|refine thenI_e ?_|refine inB_r ?_|refine inB_hit ?_|refine inB_miss rfl ?_|refine IWP_exit ?_|refine IWP_scope ?_|refine IWP_label ?_|refine noG_n ?_|refine noG_r ?_|refine noG_e ?_|refine jmp_n ?_|refine jmp_r ?_|refine jmp_e ?_|refine jmp_g ?_|refine thenI_g ?_|refine inB_g ?_|refine IWP_goto ?_|refine Loop_n ?_|fail)
      exact pD [] ⟨rfl, rfl⟩
theorem or2_spec (a b : Int) : Idl.Spec Try.prog 51 [.fz false [.i64 a, .i64 b] 2] [] (Only (.i64 (if a ≠ 0 then a else b)) []) := by
  have e : ([.i64 a, .i64 b] : List IV) = ints [a, b] := rfl
  rw [e]
  refine sB Try.func51 Try.ntmps51 ?_
  repeat' (first|refine IOps_nil ?_|refine oS ?_|refine IOps_s rfl rfl ?_|refine oT ?_|refine IOps_s0 rfl ?_|refine oZ ?_|refine oI ?_|refine oAB ?_|refine thenI_n ?_|refine IWP_seq ?_|refine IWP_region ?_|refine IWP_ct rfl ?_|refine IWP_cf rfl ?_|refine IWP_skip ?_|refine IWP_ret ?_|refine IWP_block ?_|refine inB_n ?_|refine thenI_r ?_|refine thenI_e ?_|refine inB_r ?_|refine inB_hit ?_|refine inB_miss rfl ?_|refine IWP_exit ?_|refine IWP_scope ?_|refine IWP_label ?_|refine noG_n ?_|refine noG_r ?_|refine noG_e ?_|refine jmp_n ?_|refine jmp_r ?_|refine jmp_e ?_|refine jmp_g ?_|refine thenI_g ?_|refine inB_g ?_|refine IWP_goto ?_|refine Loop_n ?_|fail)
  refine IWP_loop (fun i : Nat => ⟨18, [(0, .fz false (ints [a, b]) 2), (3, .i64 0), (6, .fz false (ints [a, b]) 2), (7, .i64 2), (8, .i64 i)], []⟩) (fun i => i ≤ 2 ∧ (1 ≤ i → a = 0) ∧ (2 ≤ i → b = 0)) (fun i => 2 - i) 0 (lP []) ⟨by omega, by omega, by omega⟩ ?_
  rintro i ⟨hi, h1, h2⟩
  rcases (show i = 0 ∨ i = 1 ∨ i = 2 by omega) with rfl | rfl | rfl
  · by_cases ha : a = 0
    · repeat' (first|refine IOps_nil ?_|refine oS ?_|refine IOps_s rfl rfl ?_|refine oT ?_|refine IOps_s0 rfl ?_|refine oZ ?_|refine oI ?_|refine oAB ?_|refine thenI_n ?_|refine IWP_seq ?_|refine IWP_region ?_|refine IWP_ct rfl ?_|refine IWP_cf rfl ?_|refine IWP_skip ?_|refine IWP_ret ?_|refine IWP_block ?_|refine inB_n ?_|refine thenI_r ?_|refine thenI_e ?_|refine inB_r ?_|refine inB_hit ?_|refine inB_miss rfl ?_|refine IWP_exit ?_|refine IWP_scope ?_|refine IWP_label ?_|refine noG_n ?_|refine noG_r ?_|refine noG_e ?_|refine jmp_n ?_|refine jmp_r ?_|refine jmp_e ?_|refine jmp_g ?_|refine thenI_g ?_|refine inB_g ?_|refine IWP_goto ?_|refine Loop_n ?_|fail)
      exact ⟨1, ⟨by omega, fun _ => ha, by omega⟩, by omega, lP []⟩
    · rw [if_pos ha]
      repeat' (first|refine IOps_nil ?_|refine oS ?_|refine IOps_s rfl rfl ?_|refine oT ?_|refine IOps_s0 rfl ?_|refine oZ ?_|refine oI ?_|refine oAB ?_|refine thenI_n ?_|refine IWP_seq ?_|refine IWP_region ?_|refine IWP_ct rfl ?_|refine IWP_cf rfl ?_|refine IWP_skip ?_|refine IWP_ret ?_|refine IWP_block ?_|refine inB_n ?_|refine thenI_r ?_|refine thenI_e ?_|refine inB_r ?_|refine inB_hit ?_|refine inB_miss rfl ?_|refine IWP_exit ?_|refine IWP_scope ?_|refine IWP_label ?_|refine noG_n ?_|refine noG_r ?_|refine noG_e ?_|refine jmp_n ?_|refine jmp_r ?_|refine jmp_e ?_|refine jmp_g ?_|refine thenI_g ?_|refine inB_g ?_|refine IWP_goto ?_|refine Loop_n ?_|fail)
      exact pD [] ⟨rfl, rfl⟩
  · have ha := h1 (by omega)
    rw [if_neg (by omega)]
    by_cases hb : b = 0
    · repeat' (first|refine IOps_nil ?_|refine oS ?_|refine IOps_s rfl rfl ?_|refine oT ?_|refine IOps_s0 rfl ?_|refine oZ ?_|refine oI ?_|refine oAB ?_|refine thenI_n ?_|refine IWP_seq ?_|refine IWP_region ?_|refine IWP_ct rfl ?_|refine IWP_cf rfl ?_|refine IWP_skip ?_|refine IWP_ret ?_|refine IWP_block ?_|refine inB_n ?_|refine thenI_r ?_|refine thenI_e ?_|refine inB_r ?_|refine inB_hit ?_|refine inB_miss rfl ?_|refine IWP_exit ?_|refine IWP_scope ?_|refine IWP_label ?_|refine noG_n ?_|refine noG_r ?_|refine noG_e ?_|refine jmp_n ?_|refine jmp_r ?_|refine jmp_e ?_|refine jmp_g ?_|refine thenI_g ?_|refine inB_g ?_|refine IWP_goto ?_|refine Loop_n ?_|fail)
      exact ⟨2, ⟨by omega, fun _ => ha, fun _ => hb⟩, by omega, lP []⟩
    · repeat' (first|refine IOps_nil ?_|refine oS ?_|refine IOps_s rfl rfl ?_|refine oT ?_|refine IOps_s0 rfl ?_|refine oZ ?_|refine oI ?_|refine oAB ?_|refine thenI_n ?_|refine IWP_seq ?_|refine IWP_region ?_|refine IWP_ct rfl ?_|refine IWP_cf rfl ?_|refine IWP_skip ?_|refine IWP_ret ?_|refine IWP_block ?_|refine inB_n ?_|refine thenI_r ?_|refine thenI_e ?_|refine inB_r ?_|refine inB_hit ?_|refine inB_miss rfl ?_|refine IWP_exit ?_|refine IWP_scope ?_|refine IWP_label ?_|refine noG_n ?_|refine noG_r ?_|refine noG_e ?_|refine jmp_n ?_|refine jmp_r ?_|refine jmp_e ?_|refine jmp_g ?_|refine thenI_g ?_|refine inB_g ?_|refine IWP_goto ?_|refine Loop_n ?_|fail)
      exact pD [] ⟨rfl, rfl⟩
  · have ha := h1 (by omega)
    have hb := h2 (by omega)
    rw [if_neg (by omega), hb]
    repeat' (first|refine IOps_nil ?_|refine oS ?_|refine IOps_s rfl rfl ?_|refine oT ?_|refine IOps_s0 rfl ?_|refine oZ ?_|refine oI ?_|refine oAB ?_|refine thenI_n ?_|refine IWP_seq ?_|refine IWP_region ?_|refine IWP_ct rfl ?_|refine IWP_cf rfl ?_|refine IWP_skip ?_|refine IWP_ret ?_|refine IWP_block ?_|refine inB_n ?_|refine thenI_r ?_|refine thenI_e ?_|refine inB_r ?_|refine inB_hit ?_|refine inB_miss rfl ?_|refine IWP_exit ?_|refine IWP_scope ?_|refine IWP_label ?_|refine noG_n ?_|refine noG_r ?_|refine noG_e ?_|refine jmp_n ?_|refine jmp_r ?_|refine jmp_e ?_|refine jmp_g ?_|refine thenI_g ?_|refine inB_g ?_|refine IWP_goto ?_|refine Loop_n ?_|fail)
    exact pD [] ⟨rfl, rfl⟩
theorem cmpP_spec (x y : Pr) : Idl.Spec Try.prog 50 [.agg [.sc (.string ⟨⟨x.tag⟩⟩), .sc (.int .i64 x.id)], .agg [.sc (.string ⟨⟨y.tag⟩⟩), .sc (.int .i64 y.id)]] [] (Only (.i64 (cP x y)) []) := by
  unfold cP
  refine sB Try.func50 Try.ntmps50 ?_
  repeat' (first|refine IOps_nil ?_|refine oS ?_|refine IOps_s rfl rfl ?_|refine oT ?_|refine IOps_s0 rfl ?_|refine oC (π:=[]) (hs:=by first|exact kcompare_spec _ _|fail) (hx:=?_)|refine oC (π:=[]) (hs:=by first|exact icompare_spec _ _|fail) (hx:=?_)|refine oC (π:=[]) (hs:=by first|exact or2_spec _ _|fail) (hx:=?_)|refine oZ ?_|refine oI ?_|refine oAB ?_|refine thenI_n ?_|refine IWP_seq ?_|refine IWP_region ?_|refine IWP_ct rfl ?_|refine IWP_cf rfl ?_|refine IWP_skip ?_|refine IWP_ret ?_|refine IWP_block ?_|refine inB_n ?_|refine thenI_r ?_|refine thenI_e ?_|refine inB_r ?_|refine inB_hit ?_|refine inB_miss rfl ?_|refine IWP_exit ?_|refine IWP_scope ?_|refine IWP_label ?_|refine noG_n ?_|refine noG_r ?_|refine noG_e ?_|refine jmp_n ?_|refine jmp_r ?_|refine jmp_e ?_|refine jmp_g ?_|refine thenI_g ?_|refine inB_g ?_|refine IWP_goto ?_|refine Loop_n ?_|refine oD (id:=1) W50_1 [10] O50_1 [_,_,_,_,_,_,_,_,_,_,_,_,_] [_,_] rfl (by repeat' (first|exact trivial|refine And.intro ?_ ?_|exact bS|exact bX|exact bZ|exact bI|exact bC (π:=[]) (hs:=by first|exact kcompare_spec _ _|fail)|exact bC (π:=[]) (hs:=by first|exact icompare_spec _ _|fail)|exact bC (π:=[]) (hs:=by first|exact or2_spec _ _|fail)|fail)) ?_|fail)
  exact pD [] ⟨rfl, rfl⟩
theorem isame_spec (a b : List Int) (ha : a.length ≤ 1000000) : Idl.Spec Try.prog 38 [.fz false (ints a) a.length, .fz false (ints b) b.length] [] (Only (.sc (.bool (decide (a = b)))) []) := by
  by_cases h : a.length = b.length
  · refine sB Try.func38 Try.ntmps38 ?_
    repeat' (first|refine IOps_nil ?_|refine oS ?_|refine IOps_s rfl rfl ?_|refine oT ?_|refine IOps_s0 rfl ?_|refine oZ ?_|refine oI ?_|refine oAB ?_|refine thenI_n ?_|refine IWP_seq ?_|refine IWP_region ?_|refine IWP_ct rfl ?_|refine IWP_cf rfl ?_|refine IWP_skip ?_|refine IWP_ret ?_|refine IWP_block ?_|refine inB_n ?_|refine thenI_r ?_|refine thenI_e ?_|refine inB_r ?_|refine inB_hit ?_|refine inB_miss rfl ?_|refine IWP_exit ?_|refine IWP_scope ?_|refine IWP_label ?_|refine noG_n ?_|refine noG_r ?_|refine noG_e ?_|refine jmp_n ?_|refine jmp_r ?_|refine jmp_e ?_|refine jmp_g ?_|refine thenI_g ?_|refine inB_g ?_|refine IWP_goto ?_|refine Loop_n ?_|refine oD (id:=6) W38_6 [] O38_6 [_,_,_,_,_,_,_,_,_] [_] rfl (by repeat' (first|exact trivial|refine And.intro ?_ ?_|exact bS|exact bX|exact bZ|exact bI|fail)) ?_|fail)
    refine IWP_loop (fun i : Nat => ⟨26, [(0, .fz false (ints a) a.length), (1, .fz false (ints b) b.length), (4, .sc (.bool false)), (5, .i64 i)], []⟩) (fun i => i ≤ a.length ∧ ∀ j, j < i → a.getD j 0 = b.getD j 0) (fun i => a.length - i) 0 (lP []) ⟨by omega, fun j hj => by omega⟩ ?_
    rintro i ⟨hi, hpre⟩
    by_cases hia : i < a.length
    · by_cases hn : a.getD i 0 = b.getD i 0
      · repeat' (first|refine IOps_nil ?_|refine oS ?_|refine IOps_s rfl rfl ?_|refine oT ?_|refine IOps_s0 rfl ?_|refine oZ ?_|refine oI ?_|refine oAB ?_|refine thenI_n ?_|refine IWP_seq ?_|refine IWP_region ?_|refine IWP_ct rfl ?_|refine IWP_cf rfl ?_|refine IWP_skip ?_|refine IWP_ret ?_|refine IWP_block ?_|refine inB_n ?_|refine thenI_r ?_|refine thenI_e ?_|refine inB_r ?_|refine inB_hit ?_|refine inB_miss rfl ?_|refine IWP_exit ?_|refine IWP_scope ?_|refine IWP_label ?_|refine noG_n ?_|refine noG_r ?_|refine noG_e ?_|refine jmp_n ?_|refine jmp_r ?_|refine jmp_e ?_|refine jmp_g ?_|refine thenI_g ?_|refine inB_g ?_|refine IWP_goto ?_|refine Loop_n ?_|refine oD (id:=6) W38_6 [] O38_6 [_,_,_,_,_,_,_,_,_] [_] rfl (by repeat' (first|exact trivial|refine And.intro ?_ ?_|exact bS|exact bX|exact bZ|exact bI|fail)) ?_|fail)
        refine ⟨i + 1, ⟨by omega, fun j hj => ?_⟩, by omega, lP []⟩
        rcases Nat.lt_succ_iff_lt_or_eq.1 hj with h' | rfl
        · exact hpre j h'
        · exact hn
      · rw [show decide (a = b) = false from decide_eq_false (by rintro rfl; exact hn rfl)]
        repeat' (first|refine IOps_nil ?_|refine oS ?_|refine IOps_s rfl rfl ?_|refine oT ?_|refine IOps_s0 rfl ?_|refine oZ ?_|refine oI ?_|refine oAB ?_|refine thenI_n ?_|refine IWP_seq ?_|refine IWP_region ?_|refine IWP_ct rfl ?_|refine IWP_cf rfl ?_|refine IWP_skip ?_|refine IWP_ret ?_|refine IWP_block ?_|refine inB_n ?_|refine thenI_r ?_|refine thenI_e ?_|refine inB_r ?_|refine inB_hit ?_|refine inB_miss rfl ?_|refine IWP_exit ?_|refine IWP_scope ?_|refine IWP_label ?_|refine noG_n ?_|refine noG_r ?_|refine noG_e ?_|refine jmp_n ?_|refine jmp_r ?_|refine jmp_e ?_|refine jmp_g ?_|refine thenI_g ?_|refine inB_g ?_|refine IWP_goto ?_|refine Loop_n ?_|refine oD (id:=6) W38_6 [] O38_6 [_,_,_,_,_,_,_,_,_] [_] rfl (by repeat' (first|exact trivial|refine And.intro ?_ ?_|exact bS|exact bX|exact bZ|exact bI|fail)) ?_|fail)
        exact pD [] ⟨rfl, rfl⟩
    · rw [show decide (a = b) = true from decide_eq_true (List.ext_getElem h fun j h1 h2 => by
        have := hpre j (by omega)
        simpa [List.getD_eq_getElem?_getD, h1, h2] using this)]
      repeat' (first|refine IOps_nil ?_|refine oS ?_|refine IOps_s rfl rfl ?_|refine oT ?_|refine IOps_s0 rfl ?_|refine oZ ?_|refine oI ?_|refine oAB ?_|refine thenI_n ?_|refine IWP_seq ?_|refine IWP_region ?_|refine IWP_ct rfl ?_|refine IWP_cf rfl ?_|refine IWP_skip ?_|refine IWP_ret ?_|refine IWP_block ?_|refine inB_n ?_|refine thenI_r ?_|refine thenI_e ?_|refine inB_r ?_|refine inB_hit ?_|refine inB_miss rfl ?_|refine IWP_exit ?_|refine IWP_scope ?_|refine IWP_label ?_|refine noG_n ?_|refine noG_r ?_|refine noG_e ?_|refine jmp_n ?_|refine jmp_r ?_|refine jmp_e ?_|refine jmp_g ?_|refine thenI_g ?_|refine inB_g ?_|refine IWP_goto ?_|refine Loop_n ?_|refine oD (id:=6) W38_6 [] O38_6 [_,_,_,_,_,_,_,_,_] [_] rfl (by repeat' (first|exact trivial|refine And.intro ?_ ?_|exact bS|exact bX|exact bZ|exact bI|fail)) ?_|fail)
      exact pD [] ⟨rfl, rfl⟩
  · rw [show decide (a = b) = false from decide_eq_false (by rintro rfl; exact h rfl)]
    refine sB Try.func38 Try.ntmps38 ?_
    repeat' (first|refine IOps_nil ?_|refine oS ?_|refine IOps_s rfl rfl ?_|refine oT ?_|refine IOps_s0 rfl ?_|refine oZ ?_|refine oI ?_|refine oAB ?_|refine thenI_n ?_|refine IWP_seq ?_|refine IWP_region ?_|refine IWP_ct rfl ?_|refine IWP_cf rfl ?_|refine IWP_skip ?_|refine IWP_ret ?_|refine IWP_block ?_|refine inB_n ?_|refine thenI_r ?_|refine thenI_e ?_|refine inB_r ?_|refine inB_hit ?_|refine inB_miss rfl ?_|refine IWP_exit ?_|refine IWP_scope ?_|refine IWP_label ?_|refine noG_n ?_|refine noG_r ?_|refine noG_e ?_|refine jmp_n ?_|refine jmp_r ?_|refine jmp_e ?_|refine jmp_g ?_|refine thenI_g ?_|refine inB_g ?_|refine IWP_goto ?_|refine Loop_n ?_|refine oD (id:=6) W38_6 [] O38_6 [_,_,_,_,_,_,_,_,_] [_] rfl (by repeat' (first|exact trivial|refine And.intro ?_ ?_|exact bS|exact bX|exact bZ|exact bI|fail)) ?_|fail)
    exact pD [] ⟨rfl, rfl⟩
end Go.Proofs.Ytmgcoopmbohkoaa

namespace Go.Proofs.Ytmgcoopmbohkoaa
open Go Go.Idl
set_option linter.unusedSimpArgs false
set_option linter.unusedVariables false
set_option maxRecDepth 100000
set_option maxHeartbeats 4000000
def allIds (l : List Rw) : List Int := l.flatMap fun r => r.ids
structure OkR (l : List Rw) : Prop where
  can : CanR l
  tag : ∀ r, r ∈ l → tagOk r.tag
  nm : ∀ r, r ∈ l → ∀ i, i ∈ r.ids → nmd i
  few : ∀ i, nmd i → (allIds l).count i ≤ 3
theorem allIds_app (a b : List Rw) : allIds (a ++ b) = allIds a ++ allIds b := List.flatMap_append
theorem allIds_take {l : List Rw} {i : Nat} (h : i < l.length) : allIds (l.take (i + 1)) = allIds (l.take i) ++ (l.getD i default).ids := by
  rw [List.take_succ_eq_append_getElem h, allIds_app, List.getD_eq_getElem?_getD, List.getElem?_eq_getElem h]
  simp [allIds]
def manyV (L : List Int) : List Int := (List.range 64).map fun (j : Nat) => ((L.count (j : Int) : Nat) : Int)
theorem manyV_len (L : List Int) : (manyV L).length = 64 := by simp [manyV]
theorem manyV_get (L : List Int) {j : Nat} (h : j < 64) : (manyV L).getD j 0 = (L.count (j : Int) : Nat) := by
  rw [List.getD_eq_getElem?_getD, List.getElem?_eq_getElem (by rw [manyV_len]; exact h)]
  simp [manyV]
theorem manyV_snoc (L : List Int) {j : Nat} (h : j < 64) : (manyV L).set j ((L.count (j : Int) : Nat) + 1 : Int) = manyV (L ++ [(j : Int)]) := by
  apply List.ext_getElem
  · simp [manyV_len]
  · intro q h1 h2
    rw [List.getElem_set]
    have hq : q < 64 := by rw [manyV_len] at h2; exact h2
    simp only [manyV, List.getElem_map, List.getElem_range, List.count_append, List.count_cons, List.count_nil]
    by_cases e : j = q
    · subst e; simp
    · have : ¬ ((j : Int) == (q : Int)) = true := by simp; omega
      simp [e, this]
theorem manyV_nil : manyV [] = List.replicate 64 0 := rfl
/-- What the check has found good: the rows ahead of i. -/
structure ChkI (l : List Rw) (i : Nat) : Prop where
  le : i ≤ l.length
  ok : OkR (l.take i)
theorem take_snoc {l : List Rw} {i : Nat} (h : i < l.length) : l.take (i + 1) = l.take i ++ [l.getD i default] := by
  rw [List.take_succ_eq_append_getElem h, List.getD_eq_getElem?_getD, List.getElem?_eq_getElem h]; rfl
theorem can_take {l : List Rw} (h : CanR l) (i : Nat) : CanR (l.take i) := ⟨h.1.sublist (List.take_sublist i l), fun r hr => h.2 r (List.mem_of_mem_take hr)⟩
theorem ok_take {l : List Rw} (h : OkR l) (i : Nat) : OkR (l.take i) := by
  refine ⟨can_take h.can i, fun r hr => h.tag r (List.mem_of_mem_take hr), fun r hr => h.nm r (List.mem_of_mem_take hr), fun j hj => ?_⟩
  have := h.few j hj
  rw [← List.take_append_drop i l, allIds_app, List.count_append] at this
  omega
theorem can_lt {l : List Rw} (h : CanR l) {i : Nat} (h1 : i + 1 < l.length) : cS (l.getD i default).tag (l.getD (i + 1) default).tag < 0 := by
  have := (List.pairwise_iff_getElem.1 h.1) i (i + 1) (by omega) h1 (by omega)
  rw [List.getD_eq_getElem?_getD, List.getD_eq_getElem?_getD, List.getElem?_eq_getElem (by omega), List.getElem?_eq_getElem h1]
  exact cS_iff.2 this
theorem ok_snoc {l : List Rw} {r : Rw} (h : OkR l) (h0 : l = [] ∨ cS (l.getD (l.length - 1) default).tag r.tag < 0) (h1 : tagOk r.tag) (h2 : r.ids ≠ []) (h3 : r.ids.Pairwise (· < ·)) (h4 : ∀ i, i ∈ r.ids → nmd i) (h5 : ∀ i, nmd i → (allIds l ++ r.ids).count i ≤ 3) : OkR (l ++ [r]) := by
  have hlast : ∀ s, s ∈ l → s.tag < r.tag := fun s hs => by
    rcases h0 with rfl | h0
    · cases hs
    · have h0 := cS_iff.1 h0
      obtain ⟨q, hq, rfl⟩ := mem_getD default hs
      by_cases e : q = l.length - 1
      · rw [e]; exact h0
      · have := (List.pairwise_iff_getElem.1 h.can.1) q (l.length - 1) hq (by omega) (by omega)
        refine List.lt_trans ?_ h0
        rw [List.getD_eq_getElem?_getD, List.getD_eq_getElem?_getD, List.getElem?_eq_getElem hq, List.getElem?_eq_getElem (by omega)]
        exact this
  refine ⟨can_snoc h.can hlast h2 h3, fun s hs => ?_, fun s hs => ?_, fun i hi => ?_⟩
  · rcases List.mem_append.1 hs with hs | hs
    · exact h.tag s hs
    · simp at hs; subst hs; exact h1
  · rcases List.mem_append.1 hs with hs | hs
    · exact h.nm s hs
    · simp at hs; subst hs; exact h4
  · rw [allIds_app]
    have := h5 i hi
    simpa [allIds] using this
theorem ids_lt {l : List Int} (h : l.Pairwise (· < ·)) {j : Nat} (h1 : j + 1 < l.length) : l.getD j 0 < l.getD (j + 1) 0 := by
  have := (List.pairwise_iff_getElem.1 h) j (j + 1) (by omega) h1 (by omega)
  rwa [List.getD_eq_getElem?_getD, List.getD_eq_getElem?_getD, List.getElem?_eq_getElem (by omega), List.getElem?_eq_getElem h1]
theorem ids_snoc {l : List Int} (h : l.Pairwise (· < ·)) {x : Int} (h0 : l = [] ∨ l.getD (l.length - 1) 0 < x) : (l ++ [x]).Pairwise (· < ·) := by
  rw [List.pairwise_append]
  refine ⟨h, by simp, fun a ha b hb => ?_⟩
  simp at hb; subst hb
  rcases h0 with rfl | h0
  · cases ha
  · obtain ⟨q, hq, rfl⟩ := mem_getD 0 ha
    by_cases e : q = l.length - 1
    · rw [e]; exact h0
    · have := (List.pairwise_iff_getElem.1 h) q (l.length - 1) hq (by omega) (by omega)
      rw [List.getD_eq_getElem?_getD, List.getElem?_eq_getElem (by omega)] at h0
      rw [List.getD_eq_getElem?_getD, List.getElem?_eq_getElem hq]
      exact Int.lt_trans this h0
theorem int_take {l : List Int} {j : Nat} (h : j < l.length) : l.take (j + 1) = l.take j ++ [l.getD j 0] := by
  rw [List.take_succ_eq_append_getElem h, List.getD_eq_getElem?_getD, List.getElem?_eq_getElem h]; rfl
/-- What the check has found good of the row at i: the numbers ahead of j. -/
structure IdsI (l : List Rw) (i : Nat) (ids : List Int) (j : Nat) : Prop where
  le : j ≤ ids.length
  up : (ids.take j).Pairwise (· < ·)
  nm : ∀ x, x ∈ ids.take j → nmd x
  few : ∀ x, nmd x → (allIds (l.take i) ++ ids.take j).count x ≤ 3
noncomputable def chkR (l : List Rw) : Bool := @decide (OkR l) (Classical.propDecidable _)
theorem chkR_ok {l : List Rw} (h : OkR l) : chkR l = true := @decide_eq_true _ (Classical.propDecidable _) h
theorem chkR_no {l : List Rw} (h : ¬ OkR l) : chkR l = false := @decide_eq_false _ (Classical.propDecidable _) h
theorem chkR_iff {l : List Rw} (h : chkR l = true) : OkR l := @of_decide_eq_true _ (Classical.propDecidable _) h
theorem ok_at {l : List Rw} (h : OkR l) {i : Nat} (hi : i < l.length) : tagOk (l.getD i default).tag ∧ (l.getD i default).ids ≠ [] ∧ (l.getD i default).ids.Pairwise (· < ·) ∧ ∀ x, x ∈ (l.getD i default).ids → nmd x := by
  have hm : l.getD i default ∈ l := getD_mem hi
  exact ⟨h.tag _ hm, (h.can.2 _ hm).1, (h.can.2 _ hm).2, h.nm _ hm⟩
theorem ok_few {l : List Rw} (h : OkR l) {i : Nat} (hi : i < l.length) {j : Nat} {x : Int} (hx : nmd x) : (allIds (l.take i) ++ (l.getD i default).ids.take j).count x ≤ 3 := by
  have h1 := (ok_take h (i + 1)).few x hx
  rw [allIds_take hi, List.count_append] at h1
  rw [List.count_append]
  have : ((l.getD i default).ids.take j).count x ≤ (l.getD i default).ids.count x := (List.take_sublist j _).count_le _
  omega
attribute [local irreducible] Go.Idl.IWP Go.Idl.IOps Go.Idl.Obl Go.Idl.OpG Go.Idl.thenI Go.Idl.inBlockI Go.Idl.LoopU Go.Idl.noGotoI Go.Idl.jumpI
theorem getD_set_at {l : List Int} {q : Nat} {v d : Int} (h : q < l.length) : (l.set q v).getD q d = v := by rw [List.getD_eq_getElem?_getD, List.getElem?_set_self h]; rfl
attribute [local go_sem] List.length_set bl_of bl_no List.drop_length Nat.sub_self getD_set_at
theorem tag1_spec (t : Ks) (ht : t.length ≤ 1000000000) : Idl.Spec Try.prog 14 [.fz false [.sc (.string ⟨⟨t⟩⟩)] 1] [] (Only (.tup [.fz true (strs (tagsV [t]).1) (tagsV [t]).1.length, .sc (.int .i64 (if tagOk t then 0 else 90))]) []) := by
  have h := tags_spec [t] (by simp) (fun x hx => by simp at hx; subst hx; exact ht)
  have e : (tagsV [t]).2 = if tagOk t then 0 else 90 := by
    by_cases hk : tagOk t
    · rw [if_pos hk, tagsV_ok ⟨fun x hx => by simp at hx; subst hx; exact hk, by simp [dd]⟩]
    · rw [if_neg hk, tagsV_no fun x => hk (x.1 t (by simp))]
  rw [e] at h
  exact h
theorem tcheck_spec (l : List Rw) (hL : l.length ≤ 1000000) (hI : ∀ r, r ∈ l → r.tag.length ≤ 1000000 ∧ r.ids.length ≤ 1000000) : Idl.Spec Try.prog 28 [.fz false (rows false l) l.length] [] (Only (.sc (.bool (chkR l))) []) := by
  refine sB Try.func28 Try.ntmps28 ?_
  repeat' (first|refine IOps_nil ?_|refine oS ?_|refine IOps_s rfl rfl ?_|refine oT ?_|refine IOps_s0 rfl ?_|refine oZ ?_|refine oI ?_|refine oAB ?_|refine thenI_n ?_|refine IWP_seq ?_|refine IWP_region ?_|refine IWP_ct rfl ?_|refine IWP_cf rfl ?_|refine IWP_skip ?_|refine IWP_ret ?_|refine IWP_block ?_|refine inB_n ?_|refine thenI_r ?_|refine thenI_e ?_|refine inB_r ?_|refine inB_hit ?_|refine inB_miss rfl ?_|refine IWP_exit ?_|refine IWP_scope ?_|refine IWP_label ?_|refine noG_n ?_|refine noG_r ?_|refine noG_e ?_|refine jmp_n ?_|refine jmp_r ?_|refine jmp_e ?_|refine jmp_g ?_|refine thenI_g ?_|refine inB_g ?_|refine IWP_goto ?_|refine Loop_n ?_|refine oD (id:=5) W28_5 [] O28_5 [_,_,_,_,_,_,_,_,_,_,_,_,_] [_] rfl (by repeat' (first|exact trivial|refine And.intro ?_ ?_|exact bS|exact bX|exact bZ|exact bI|fail)) ?_|fail)
  refine IWP_loop (fun i : Nat => ⟨81, [(0, .fz false (rows false l) l.length), (2, .sc (.bool false)), (3, .ptr 0 0), (10, .fz false (rows false l) l.length), (11, .i64 l.length), (12, .i64 i)], [.box (ints (manyV (allIds (l.take i))))]⟩) (fun i => i ≤ l.length ∧ OkR (l.take i)) (fun i => l.length - i) 0
    (lP [0] (h3 := by rw [List.take_zero, show allIds [] = [] from rfl, manyV_nil]; rfl)) ⟨Nat.zero_le _, by rw [List.take_zero]; exact ⟨⟨.nil, fun r hr => by cases hr⟩, fun r hr => (by cases hr), fun r hr => (by cases hr), fun i _ => Nat.zero_le _⟩⟩ ?_
  rintro i ⟨hi, hok⟩
  by_cases h : i < l.length
  · have hm : l.getD i default ∈ l := getD_mem h
    obtain ⟨hI1, hI2⟩ := hI _ hm
    have htk := take_snoc h
    have ht1 := tag1_spec (l.getD i default).tag (by omega)
    by_cases hA : 0 < i ∧ ¬ cS (l.getD (i - 1) default).tag (l.getD i default).tag < 0
    · obtain ⟨hA1, hA2⟩ := hA
      rw [chkR_no fun x => hA2 (by have := can_lt x.can (i := i - 1) (by omega); rwa [show i - 1 + 1 = i by omega] at this)]
      repeat' (first|refine IOps_nil ?_|refine oS ?_|refine IOps_s rfl rfl ?_|refine oT ?_|refine IOps_s0 rfl ?_|refine oZ ?_|refine oI ?_|refine oAB ?_|refine thenI_n ?_|refine IWP_seq ?_|refine IWP_region ?_|refine IWP_ct rfl ?_|refine IWP_cf rfl ?_|refine IWP_skip ?_|refine IWP_ret ?_|refine IWP_block ?_|refine inB_n ?_|refine thenI_r ?_|refine thenI_e ?_|refine inB_r ?_|refine inB_hit ?_|refine inB_miss rfl ?_|refine IWP_exit ?_|refine IWP_scope ?_|refine IWP_label ?_|refine noG_n ?_|refine noG_r ?_|refine noG_e ?_|refine jmp_n ?_|refine jmp_r ?_|refine jmp_e ?_|refine jmp_g ?_|refine thenI_g ?_|refine inB_g ?_|refine IWP_goto ?_|refine Loop_n ?_|refine oD (id:=5) W28_5 [] O28_5 [_,_,_,_,_,_,_,_,_,_,_,_,_] [_] rfl (by repeat' (first|exact trivial|refine And.intro ?_ ?_|exact bS|exact bX|exact bZ|exact bI|fail)) ?_|fail)
      exact pD [] ⟨rfl, rfl⟩
    · have hA' : i = 0 ∨ (0 < i ∧ cS (l.getD (i - 1) default).tag (l.getD i default).tag < 0) := by
        rcases Nat.eq_zero_or_pos i with e | e
        · exact .inl e
        · exact .inr ⟨e, Decidable.not_not.1 fun x => hA ⟨e, x⟩⟩
      rcases hA' with hA' | ⟨hA0, hA'⟩
      all_goals
        have hpre : l.take i = [] ∨ cS ((l.take i).getD ((l.take i).length - 1) default).tag (l.getD i default).tag < 0 := by
          first
          | exact .inl (by rw [hA', List.take_zero])
          | exact (by
              rcases Nat.eq_zero_or_pos i with e | e
              · exact .inl (by rw [e, List.take_zero])
              · refine .inr ?_
                rw [List.length_take, Nat.min_eq_left hi, List.getD_eq_getElem?_getD, List.getElem?_take, if_pos (by omega), ← List.getD_eq_getElem?_getD]
                exact hA')
        by_cases hB : tagOk (l.getD i default).tag
        · rw [if_pos hB] at ht1
          by_cases hC : (l.getD i default).ids.length = 0
          · rw [chkR_no fun x => (ok_at x h).2.1 (List.length_eq_zero_iff.1 hC)]
            repeat' (first|refine IOps_nil ?_|refine oS ?_|refine IOps_s rfl rfl ?_|refine oT ?_|refine IOps_s0 rfl ?_|refine oC (π:=[]) (hs:=by first|exact ht1|fail) (hx:=?_)|refine oZ ?_|refine oI ?_|refine oAB ?_|refine thenI_n ?_|refine IWP_seq ?_|refine IWP_region ?_|refine IWP_ct rfl ?_|refine IWP_cf rfl ?_|refine IWP_skip ?_|refine IWP_ret ?_|refine IWP_block ?_|refine inB_n ?_|refine thenI_r ?_|refine thenI_e ?_|refine inB_r ?_|refine inB_hit ?_|refine inB_miss rfl ?_|refine IWP_exit ?_|refine IWP_scope ?_|refine IWP_label ?_|refine noG_n ?_|refine noG_r ?_|refine noG_e ?_|refine jmp_n ?_|refine jmp_r ?_|refine jmp_e ?_|refine jmp_g ?_|refine thenI_g ?_|refine inB_g ?_|refine IWP_goto ?_|refine Loop_n ?_|refine oD (id:=5) W28_5 [] O28_5 [_,_,_,_,_,_,_,_,_,_,_,_,_] [_] rfl (by repeat' (first|exact trivial|refine And.intro ?_ ?_|exact bS|exact bX|exact bZ|exact bI|exact bC (π:=[]) (hs:=by first|exact ht1|fail)|fail)) ?_|fail)
            exact pD [] ⟨rfl, rfl⟩
          · repeat' (first|refine IOps_nil ?_|refine oS ?_|refine IOps_s rfl rfl ?_|refine oT ?_|refine IOps_s0 rfl ?_|refine oC (π:=[]) (hs:=by first|exact ht1|fail) (hx:=?_)|refine oZ ?_|refine oI ?_|refine oAB ?_|refine thenI_n ?_|refine IWP_seq ?_|refine IWP_region ?_|refine IWP_ct rfl ?_|refine IWP_cf rfl ?_|refine IWP_skip ?_|refine IWP_ret ?_|refine IWP_block ?_|refine inB_n ?_|refine thenI_r ?_|refine thenI_e ?_|refine inB_r ?_|refine inB_hit ?_|refine inB_miss rfl ?_|refine IWP_exit ?_|refine IWP_scope ?_|refine IWP_label ?_|refine noG_n ?_|refine noG_r ?_|refine noG_e ?_|refine jmp_n ?_|refine jmp_r ?_|refine jmp_e ?_|refine jmp_g ?_|refine thenI_g ?_|refine inB_g ?_|refine IWP_goto ?_|refine Loop_n ?_|refine oD (id:=5) W28_5 [] O28_5 [_,_,_,_,_,_,_,_,_,_,_,_,_] [_] rfl (by repeat' (first|exact trivial|refine And.intro ?_ ?_|exact bS|exact bX|exact bZ|exact bI|exact bC (π:=[]) (hs:=by first|exact ht1|fail)|fail)) ?_|fail)
            generalize hr : l.getD i default = r at hI1 hI2 htk ht1 hA' hpre hB hC ⊢
            refine IWP_loop (fun j : Nat => ⟨81, [(0, .fz false (rows false l) l.length), (2, .sc (.bool false)), (3, .ptr 0 0), (5, .ptr 1 0), (10, .fz false (rows false l) l.length), (11, .i64 l.length), (12, .i64 i), (46, .fz false (ints r.ids) r.ids.length), (47, .i64 r.ids.length), (48, .i64 j)], [.box (ints (manyV (allIds (l.take i) ++ r.ids.take j))), .box [.sc (.string ⟨⟨r.tag⟩⟩), .fz false (ints r.ids) r.ids.length]]⟩)
              (fun j => IdsI l i r.ids j) (fun j => r.ids.length - j) 0 (lQ [0, 1] (h3 := by simp only [List.take_zero, List.append_nil, cl_ren]; rfl)) ⟨Nat.zero_le _, by simp, by simp, fun x hx => by rw [List.take_zero, List.append_nil]; exact hok.few x hx⟩ ?_
            rintro j hJ
            have hJl := hJ.le
            by_cases hj : j < r.ids.length
            · have hx : r.ids.getD j 0 ∈ r.ids := getD_mem hj
              have hns := named_spec (r.ids.getD j 0)
              by_cases hD : nmd (r.ids.getD j 0)
              · rw [decide_eq_true hD] at hns
                have hD1 := hD.1; have hD2 := hD.2
                by_cases hE : 0 < j ∧ r.ids.getD j 0 ≤ r.ids.getD (j - 1) 0
                · obtain ⟨hE1, hE2⟩ := hE
                  rw [chkR_no fun x => by have := ids_lt (hr ▸ (ok_at x h).2.2.1) (j := j - 1) (by omega); rw [show j - 1 + 1 = j by omega] at this; omega]
                  repeat' (first|refine IOps_nil ?_|refine oS ?_|refine IOps_s rfl rfl ?_|refine oT ?_|refine IOps_s0 rfl ?_|refine oC (π:=[]) (hs:=by first|exact hns|fail) (hx:=?_)|refine oZ ?_|refine oI ?_|refine oAB ?_|refine thenI_n ?_|refine IWP_seq ?_|refine IWP_region ?_|refine IWP_ct rfl ?_|refine IWP_cf rfl ?_|refine IWP_skip ?_|refine IWP_ret ?_|refine IWP_block ?_|refine inB_n ?_|refine thenI_r ?_|refine thenI_e ?_|refine inB_r ?_|refine inB_hit ?_|refine inB_miss rfl ?_|refine IWP_exit ?_|refine IWP_scope ?_|refine IWP_label ?_|refine noG_n ?_|refine noG_r ?_|refine noG_e ?_|refine jmp_n ?_|refine jmp_r ?_|refine jmp_e ?_|refine jmp_g ?_|refine thenI_g ?_|refine inB_g ?_|refine IWP_goto ?_|refine Loop_n ?_|refine oD (id:=5) W28_5 [] O28_5 [_,_,_,_,_,_,_,_,_,_,_,_,_] [_] rfl (by repeat' (first|exact trivial|refine And.intro ?_ ?_|exact bS|exact bX|exact bZ|exact bI|exact bC (π:=[]) (hs:=by first|exact hns|fail)|fail)) ?_|fail)
                  exact pD [] ⟨rfl, rfl⟩
                · have hE' : j = 0 ∨ (0 < j ∧ r.ids.getD (j - 1) 0 < r.ids.getD j 0) := by omega
                  have hML := manyV_len (allIds (l.take i) ++ r.ids.take j)
                  have hq : (((r.ids.getD j 0).toNat : Nat) : Int) = r.ids.getD j 0 := by omega
                  have hMq := manyV_get (allIds (l.take i) ++ r.ids.take j) (j := (r.ids.getD j 0).toNat) (by omega)
                  rw [hq] at hMq
                  have hfew := hJ.few _ hD
                  have hcnt : (allIds (l.take i) ++ r.ids.take (j + 1)).count (r.ids.getD j 0) = (allIds (l.take i) ++ r.ids.take j).count (r.ids.getD j 0) + 1 := by
                    rw [int_take hj, ← List.append_assoc, List.count_append (l₂ := [_])]; simp
                  have hsn := manyV_snoc (allIds (l.take i) ++ r.ids.take j) (j := (r.ids.getD j 0).toNat) (by omega)
                  rw [hq, ← hMq, List.append_assoc, ← int_take hj] at hsn
                  rcases hE' with hE' | ⟨hE0, hE'⟩
                  all_goals
                    by_cases hF : (allIds (l.take i) ++ r.ids.take j).count (r.ids.getD j 0) + 1 ≤ 3
                    · repeat' (first|refine IOps_nil ?_|refine oS ?_|refine IOps_s rfl rfl ?_|refine oT ?_|refine IOps_s0 rfl ?_|refine oC (π:=[]) (hs:=by first|exact hns|fail) (hx:=?_)|refine oZ ?_|refine oI ?_|refine oAB ?_|refine thenI_n ?_|refine IWP_seq ?_|refine IWP_region ?_|refine IWP_ct rfl ?_|refine IWP_cf rfl ?_|refine IWP_skip ?_|refine IWP_ret ?_|refine IWP_block ?_|refine inB_n ?_|refine thenI_r ?_|refine thenI_e ?_|refine inB_r ?_|refine inB_hit ?_|refine inB_miss rfl ?_|refine IWP_exit ?_|refine IWP_scope ?_|refine IWP_label ?_|refine noG_n ?_|refine noG_r ?_|refine noG_e ?_|refine jmp_n ?_|refine jmp_r ?_|refine jmp_e ?_|refine jmp_g ?_|refine thenI_g ?_|refine inB_g ?_|refine IWP_goto ?_|refine Loop_n ?_|refine oD (id:=5) W28_5 [] O28_5 [_,_,_,_,_,_,_,_,_,_,_,_,_] [_] rfl (by repeat' (first|exact trivial|refine And.intro ?_ ?_|exact bS|exact bX|exact bZ|exact bI|exact bC (π:=[]) (hs:=by first|exact hns|fail)|fail)) ?_|fail)
                      refine ⟨j + 1, ⟨hj, ?_, fun x hx => ?_, fun x hx => ?_⟩, by omega, lQ [0, 1] (h3 := by simp only [cl_ren, hsn]; rfl)⟩
                      · rw [int_take hj]
                        refine ids_snoc hJ.up ?_
                        first
                        | exact .inl (by rw [hE', List.take_zero])
                        | exact .inr (by rw [List.length_take, Nat.min_eq_left hJl, List.getD_eq_getElem?_getD, List.getElem?_take, if_pos (by omega), ← List.getD_eq_getElem?_getD]; exact hE')
                      · rw [int_take hj] at hx
                        rcases List.mem_append.1 hx with hx | hx
                        · exact hJ.nm x hx
                        · simp only [List.mem_singleton] at hx; subst hx; exact hD
                      · by_cases e : x = r.ids.getD j 0
                        · subst e; rw [hcnt]; exact hF
                        · have := hJ.few x hx
                          rw [int_take hj, ← List.append_assoc, List.count_append (l₂ := [_])]
                          have h0 : [r.ids.getD j 0].count x = 0 := List.count_eq_zero.2 (by simp only [List.mem_singleton]; exact e)
                          omega
                    · rw [chkR_no fun x => hF (by have := ok_few x h (j := j + 1) hD; rw [hr, hcnt] at this; exact this)]
                      repeat' (first|refine IOps_nil ?_|refine oS ?_|refine IOps_s rfl rfl ?_|refine oT ?_|refine IOps_s0 rfl ?_|refine oC (π:=[]) (hs:=by first|exact hns|fail) (hx:=?_)|refine oZ ?_|refine oI ?_|refine oAB ?_|refine thenI_n ?_|refine IWP_seq ?_|refine IWP_region ?_|refine IWP_ct rfl ?_|refine IWP_cf rfl ?_|refine IWP_skip ?_|refine IWP_ret ?_|refine IWP_block ?_|refine inB_n ?_|refine thenI_r ?_|refine thenI_e ?_|refine inB_r ?_|refine inB_hit ?_|refine inB_miss rfl ?_|refine IWP_exit ?_|refine IWP_scope ?_|refine IWP_label ?_|refine noG_n ?_|refine noG_r ?_|refine noG_e ?_|refine jmp_n ?_|refine jmp_r ?_|refine jmp_e ?_|refine jmp_g ?_|refine thenI_g ?_|refine inB_g ?_|refine IWP_goto ?_|refine Loop_n ?_|refine oD (id:=5) W28_5 [] O28_5 [_,_,_,_,_,_,_,_,_,_,_,_,_] [_] rfl (by repeat' (first|exact trivial|refine And.intro ?_ ?_|exact bS|exact bX|exact bZ|exact bI|exact bC (π:=[]) (hs:=by first|exact hns|fail)|fail)) ?_|fail)
                      exact pD [] ⟨rfl, rfl⟩
              · rw [decide_eq_false hD] at hns
                rw [chkR_no fun x => hD ((ok_at x h).2.2.2 _ (hr ▸ hx))]
                repeat' (first|refine IOps_nil ?_|refine oS ?_|refine IOps_s rfl rfl ?_|refine oT ?_|refine IOps_s0 rfl ?_|refine oC (π:=[]) (hs:=by first|exact hns|fail) (hx:=?_)|refine oZ ?_|refine oI ?_|refine oAB ?_|refine thenI_n ?_|refine IWP_seq ?_|refine IWP_region ?_|refine IWP_ct rfl ?_|refine IWP_cf rfl ?_|refine IWP_skip ?_|refine IWP_ret ?_|refine IWP_block ?_|refine inB_n ?_|refine thenI_r ?_|refine thenI_e ?_|refine inB_r ?_|refine inB_hit ?_|refine inB_miss rfl ?_|refine IWP_exit ?_|refine IWP_scope ?_|refine IWP_label ?_|refine noG_n ?_|refine noG_r ?_|refine noG_e ?_|refine jmp_n ?_|refine jmp_r ?_|refine jmp_e ?_|refine jmp_g ?_|refine thenI_g ?_|refine inB_g ?_|refine IWP_goto ?_|refine Loop_n ?_|refine oD (id:=5) W28_5 [] O28_5 [_,_,_,_,_,_,_,_,_,_,_,_,_] [_] rfl (by repeat' (first|exact trivial|refine And.intro ?_ ?_|exact bS|exact bX|exact bZ|exact bI|exact bC (π:=[]) (hs:=by first|exact hns|fail)|fail)) ?_|fail)
                exact pD [] ⟨rfl, rfl⟩
            · obtain rfl : j = r.ids.length := by omega
              have hup := hJ.up; have hnm := hJ.nm; have hfew := hJ.few
              rw [List.take_length] at hup hnm
              have hat := allIds_take h
              rw [hr] at hat
              repeat' (first|refine IOps_nil ?_|refine oS ?_|refine IOps_s rfl rfl ?_|refine oT ?_|refine IOps_s0 rfl ?_|refine oZ ?_|refine oI ?_|refine oAB ?_|refine thenI_n ?_|refine IWP_seq ?_|refine IWP_region ?_|refine IWP_ct rfl ?_|refine IWP_cf rfl ?_|refine IWP_skip ?_|refine IWP_ret ?_|refine IWP_block ?_|refine inB_n ?_|refine thenI_r ?_|refine thenI_e ?_|refine inB_r ?_|refine inB_hit ?_|refine inB_miss rfl ?_|refine IWP_exit ?_|refine IWP_scope ?_|refine IWP_label ?_|refine noG_n ?_|refine noG_r ?_|refine noG_e ?_|refine jmp_n ?_|refine jmp_r ?_|refine jmp_e ?_|refine jmp_g ?_|refine thenI_g ?_|refine inB_g ?_|refine IWP_goto ?_|refine Loop_n ?_|refine oD (id:=5) W28_5 [] O28_5 [_,_,_,_,_,_,_,_,_,_,_,_,_] [_] rfl (by repeat' (first|exact trivial|refine And.intro ?_ ?_|exact bS|exact bX|exact bZ|exact bI|fail)) ?_|fail)
              refine ⟨i + 1, ⟨h, ?_⟩, by omega, lQ [0] (h3 := by simp only [cl_ren, List.take_length, hat])⟩
              rw [htk]
              exact ok_snoc hok hpre hB (fun e => hC (by rw [e]; rfl)) hup hnm (fun x hx => by have := hfew x hx; rwa [List.take_length] at this)
        · rw [if_neg hB] at ht1
          rw [chkR_no fun x => hB (ok_at x h).1]
          repeat' (first|refine IOps_nil ?_|refine oS ?_|refine IOps_s rfl rfl ?_|refine oT ?_|refine IOps_s0 rfl ?_|refine oC (π:=[]) (hs:=by first|exact ht1|fail) (hx:=?_)|refine oZ ?_|refine oI ?_|refine oAB ?_|refine thenI_n ?_|refine IWP_seq ?_|refine IWP_region ?_|refine IWP_ct rfl ?_|refine IWP_cf rfl ?_|refine IWP_skip ?_|refine IWP_ret ?_|refine IWP_block ?_|refine inB_n ?_|refine thenI_r ?_|refine thenI_e ?_|refine inB_r ?_|refine inB_hit ?_|refine inB_miss rfl ?_|refine IWP_exit ?_|refine IWP_scope ?_|refine IWP_label ?_|refine noG_n ?_|refine noG_r ?_|refine noG_e ?_|refine jmp_n ?_|refine jmp_r ?_|refine jmp_e ?_|refine jmp_g ?_|refine thenI_g ?_|refine inB_g ?_|refine IWP_goto ?_|refine Loop_n ?_|refine oD (id:=5) W28_5 [] O28_5 [_,_,_,_,_,_,_,_,_,_,_,_,_] [_] rfl (by repeat' (first|exact trivial|refine And.intro ?_ ?_|exact bS|exact bX|exact bZ|exact bI|exact bC (π:=[]) (hs:=by first|exact ht1|fail)|fail)) ?_|fail)
          exact pD [] ⟨rfl, rfl⟩
  · obtain rfl : i = l.length := by omega
    rw [List.take_length] at hok
    rw [chkR_ok hok]
    repeat' (first|refine IOps_nil ?_|refine oS ?_|refine IOps_s rfl rfl ?_|refine oT ?_|refine IOps_s0 rfl ?_|refine oZ ?_|refine oI ?_|refine oAB ?_|refine thenI_n ?_|refine IWP_seq ?_|refine IWP_region ?_|refine IWP_ct rfl ?_|refine IWP_cf rfl ?_|refine IWP_skip ?_|refine IWP_ret ?_|refine IWP_block ?_|refine inB_n ?_|refine thenI_r ?_|refine thenI_e ?_|refine inB_r ?_|refine inB_hit ?_|refine inB_miss rfl ?_|refine IWP_exit ?_|refine IWP_scope ?_|refine IWP_label ?_|refine noG_n ?_|refine noG_r ?_|refine noG_e ?_|refine jmp_n ?_|refine jmp_r ?_|refine jmp_e ?_|refine jmp_g ?_|refine thenI_g ?_|refine inB_g ?_|refine IWP_goto ?_|refine Loop_n ?_|refine oD (id:=5) W28_5 [] O28_5 [_,_,_,_,_,_,_,_,_,_,_,_,_] [_] rfl (by repeat' (first|exact trivial|refine And.intro ?_ ?_|exact bS|exact bX|exact bZ|exact bI|fail)) ?_|fail)
    exact pD [] ⟨rfl, rfl⟩
end Go.Proofs.Ytmgcoopmbohkoaa

namespace Go.Proofs.Ytmgcoopmbohkoaa
open Go Go.Idl
set_option linter.unusedSimpArgs false
set_option linter.unusedVariables false
set_option maxRecDepth 100000
set_option maxHeartbeats 4000000
structure Tst where
  drop : Bool
  id : Int
  tags : List (List UInt8)
  deriving DecidableEq
instance : Inhabited Tst := ⟨⟨false, 0, []⟩⟩
def tstRc (b : Bool) : Rc Tst := ⟨fun x => [.sc (.bool x.drop), .sc (.int .i64 x.id), .fz b (cl strV x.tags) x.tags.length], 3, fun _ => rfl⟩
def tsteps (b : Bool) (l : List Tst) : List IV := fl (tstRc b) l
section
variable {b : Bool} {l r a : List Tst} {i n : Nat}
theorem tsteps_length : (tsteps b l).length = l.length * 3 := fl_length (tstRc b) l
theorem tsteps_drop : (tsteps b l).drop (n * 3) = tsteps b (l.drop n) := fl_drop (tstRc b) l n
theorem tsteps_take : (tsteps b l).take (n * 3) = tsteps b (l.take n) := fl_take (tstRc b) l n
theorem tsteps_app : tsteps b a ++ tsteps b r = tsteps b (a ++ r) := fl_app (tstRc b) a r
theorem tsteps_snoc {v0 : Bool} {v1 : Int} {v2 : List (List UInt8)} {m2 : Nat} (h2 : m2 = v2.length) : tsteps b a ++ [.sc (.bool v0), .sc (.int .i64 v1), .fz b (cl strV v2) m2] = tsteps b (a ++ [⟨v0, v1, v2⟩]) := by subst h2; exact fl_app (tstRc b) a [⟨v0, v1, v2⟩]
theorem tsteps_part (h : i < l.length) : (tsteps b (l.drop i)).take 3 = [.sc (.bool (l.getD i default).drop), .sc (.int .i64 (l.getD i default).id), .fz b (cl strV (l.getD i default).tags) (l.getD i default).tags.length] := by rw [← tsteps_drop]; exact fl_part (tstRc b) h
theorem tsteps_part0 (h : 0 < l.length) : (tsteps b l).take 3 = [.sc (.bool (l.getD 0 default).drop), .sc (.int .i64 (l.getD 0 default).id), .fz b (cl strV (l.getD 0 default).tags) (l.getD 0 default).tags.length] := by have := tsteps_part (b := b) h; rwa [List.drop_zero] at this
theorem tsteps_get0 (h : i < l.length) : (tsteps b l).getD (i * 3) .any = .sc (.bool (l.getD i default).drop) := fl_get (tstRc b) (j := 0) h (show 0 < 3 by decide)
theorem tsteps_get1 (h : i < l.length) : (tsteps b l).getD (i * 3 + 1) .any = .sc (.int .i64 (l.getD i default).id) := fl_get (tstRc b) (j := 1) h (show 1 < 3 by decide)
theorem tsteps_get2 (h : i < l.length) : (tsteps b l).getD (i * 3 + 2) .any = .fz b (cl strV (l.getD i default).tags) (l.getD i default).tags.length := fl_get (tstRc b) (j := 2) h (show 2 < 3 by decide)
theorem tsteps_splice (h : i < l.length) {v0 : Bool} {v1 : Int} {v2 : List (List UInt8)} {m2 : Nat} (h2 : m2 = v2.length) : splice (tsteps b l) (i * 3) [.sc (.bool v0), .sc (.int .i64 v1), .fz b (cl strV v2) m2] = tsteps b (l.set i ⟨v0, v1, v2⟩) := by subst h2; exact fl_splice (tstRc b) h ⟨v0, v1, v2⟩
theorem tsteps_closed : IV.closedL (tsteps b l) = true := fl_closed (tstRc b) (fun _ => rfl) l
theorem tsteps_ones : IV.ones (tsteps b l) = true := fl_ones (tstRc b) (fun _ => rfl) l
theorem tsteps_fresh : IV.freshL (tsteps true l) = true := fl_fresh (tstRc true) (fun x => by simp [tstRc, IV.freshL, IV.fresh, cl_fresh]) l
theorem tsteps_relab : IV.relabL (tsteps b l) = tsteps false l := by
  induction l with
  | nil => rfl
  | cons x l ih =>
    show IV.relabL ((tstRc b).f x ++ fl (tstRc b) l) = (tstRc false).f x ++ fl (tstRc false) l
    rw [relabL_app]
    change _ ++ IV.relabL (tsteps b l) = _
    rw [ih]
    congr 1
    simp [tstRc, IV.relabL, IV.relab, cl_relab]
theorem tsteps_ren {σ : Nat → Option Nat} : IV.renL σ (tsteps b l) = tsteps b l := fl_ren (tstRc b) (fun _ => by simp [tstRc, IV.renL, IV.ren]) l
end
attribute [go_sem] tsteps_length tsteps_drop tsteps_take tsteps_app tsteps_snoc tsteps_part tsteps_part0 tsteps_get0 tsteps_get1 tsteps_get2 tsteps_splice tsteps_closed tsteps_ones tsteps_fresh tsteps_relab tsteps_ren
def zrows (n : Nat) : List IV := (List.replicate n [.sc (.string ⟨⟨[]⟩⟩), .sc (.slice none 0 0)]).flatten
theorem zrows_zrep {n : Nat} : zrep n [.sc (.string ⟨⟨[]⟩⟩), .sc (.slice none 0 0)] = zrows n := rfl
theorem zrows_zero : zrows 0 = [] := rfl
theorem zrows_len {n : Nat} : (zrows n).length = n * 2 := by simp [zrows]
theorem rw_splice {l : List Rw} {i : Nat} (h : i < l.length) : splice (rows true (l.take i) ++ zrows (l.length - i)) (i * 2) [.sc (.string ⟨⟨(l.getD i default).tag⟩⟩), .fz true (cl (Value.int .i64) (l.getD i default).ids) (l.getD i default).ids.length] = rows true (l.take (i + 1)) ++ zrows (l.length - (i + 1)) := by
  have h1 : (rows true (l.take i)).length = i * 2 := by rw [rows_length, List.length_take]; omega
  obtain ⟨k, hk⟩ : ∃ k, l.length - i = k + 1 := ⟨l.length - i - 1, by omega⟩
  rw [show l.length - (i + 1) = k by omega, hk, take_snoc h, ← rows_app]
  unfold splice
  rw [List.take_left' h1]
  have e : zrows (k + 1) = [.sc (.string ⟨⟨[]⟩⟩), .sc (.slice none 0 0)] ++ zrows k := by simp [zrows, List.replicate_succ]
  rw [e, List.append_assoc]
  congr 1
  rw [List.drop_append, h1]
  simp only [List.length_cons, List.length_nil, Nat.zero_add, Nat.reduceAdd]
  rw [List.drop_of_length_le (by rw [h1]; omega), show i * 2 + 2 - i * 2 = 2 by omega]
  rfl
theorem rz_len {l : List Rw} {i n : Nat} : (rows true (l.take i) ++ zrows n).length = min i l.length * 2 + n * 2 := by rw [List.length_append, rows_length, zrows_len, List.length_take]
attribute [local irreducible] Go.Idl.IWP Go.Idl.IOps Go.Idl.Obl Go.Idl.OpG Go.Idl.thenI Go.Idl.inBlockI Go.Idl.LoopU Go.Idl.noGotoI Go.Idl.jumpI
attribute [local go_sem] List.length_set bl_of bl_no List.drop_length Nat.sub_self getD_set_at zrows_zrep zrows_zero zrows_len rw_splice rz_len
theorem rsame_spec (a b : List Rw) (ha : a.length ≤ 1000000) (hI : ∀ r, r ∈ a → r.ids.length ≤ 1000000) : Idl.Spec Try.prog 32 [.fz false (rows false a) a.length, .fz false (rows false b) b.length] [] (Only (.sc (.bool (decide (a = b)))) []) := by
  by_cases h : a.length = b.length
  · refine sB Try.func32 Try.ntmps32 ?_
    repeat' (first|refine IOps_nil ?_|refine oS ?_|refine IOps_s rfl rfl ?_|refine oT ?_|refine IOps_s0 rfl ?_|refine oZ ?_|refine oI ?_|refine oAB ?_|refine thenI_n ?_|refine IWP_seq ?_|refine IWP_region ?_|refine IWP_ct rfl ?_|refine IWP_cf rfl ?_|refine IWP_skip ?_|refine IWP_ret ?_|refine IWP_block ?_|refine inB_n ?_|refine thenI_r ?_|refine thenI_e ?_|refine inB_r ?_|refine inB_hit ?_|refine inB_miss rfl ?_|refine IWP_exit ?_|refine IWP_scope ?_|refine IWP_label ?_|refine noG_n ?_|refine noG_r ?_|refine noG_e ?_|refine jmp_n ?_|refine jmp_r ?_|refine jmp_e ?_|refine jmp_g ?_|refine thenI_g ?_|refine inB_g ?_|refine IWP_goto ?_|refine Loop_n ?_|refine oD (id:=6) W32_6 [] O32_6 [_,_,_,_,_,_,_,_,_,_,_,_] [_] rfl (by repeat' (first|exact trivial|refine And.intro ?_ ?_|exact bS|exact bX|exact bZ|exact bI|fail)) ?_|refine oD (id:=7) W32_7 [] O32_7 [_,_,_,_,_,_,_,_,_,_,_,_,_,_,_] [_] rfl (by repeat' (first|exact trivial|refine And.intro ?_ ?_|exact bS|exact bX|exact bZ|exact bI|fail)) ?_|fail)
    refine IWP_loop (fun i : Nat => ⟨44, [(0, .fz false (rows false a) a.length), (1, .fz false (rows false b) b.length), (4, .sc (.bool false)), (5, .i64 i)], []⟩) (fun i => i ≤ a.length ∧ ∀ j, j < i → a.getD j default = b.getD j default) (fun i => a.length - i) 0 (lP []) ⟨by omega, fun j hj => by omega⟩ ?_
    rintro i ⟨hi, hpre⟩
    by_cases hia : i < a.length
    · have his := isame_spec (a.getD i default).ids (b.getD i default).ids (hI _ (getD_mem hia))
      by_cases hn : (a.getD i default).ids = (b.getD i default).ids
      · rw [decide_eq_true hn] at his
        by_cases ht : (a.getD i default).tag = (b.getD i default).tag
        · repeat' (first|refine IOps_nil ?_|refine oS ?_|refine IOps_s rfl rfl ?_|refine oT ?_|refine IOps_s0 rfl ?_|refine oC (π:=[]) (hs:=by first|exact his|fail) (hx:=?_)|refine oZ ?_|refine oI ?_|refine oAB ?_|refine thenI_n ?_|refine IWP_seq ?_|refine IWP_region ?_|refine IWP_ct rfl ?_|refine IWP_cf rfl ?_|refine IWP_skip ?_|refine IWP_ret ?_|refine IWP_block ?_|refine inB_n ?_|refine thenI_r ?_|refine thenI_e ?_|refine inB_r ?_|refine inB_hit ?_|refine inB_miss rfl ?_|refine IWP_exit ?_|refine IWP_scope ?_|refine IWP_label ?_|refine noG_n ?_|refine noG_r ?_|refine noG_e ?_|refine jmp_n ?_|refine jmp_r ?_|refine jmp_e ?_|refine jmp_g ?_|refine thenI_g ?_|refine inB_g ?_|refine IWP_goto ?_|refine Loop_n ?_|refine oD (id:=6) W32_6 [] O32_6 [_,_,_,_,_,_,_,_,_,_,_,_] [_] rfl (by repeat' (first|exact trivial|refine And.intro ?_ ?_|exact bS|exact bX|exact bZ|exact bI|exact bC (π:=[]) (hs:=by first|exact his|fail)|fail)) ?_|refine oD (id:=7) W32_7 [] O32_7 [_,_,_,_,_,_,_,_,_,_,_,_,_,_,_] [_] rfl (by repeat' (first|exact trivial|refine And.intro ?_ ?_|exact bS|exact bX|exact bZ|exact bI|exact bC (π:=[]) (hs:=by first|exact his|fail)|fail)) ?_|fail)
          refine ⟨i + 1, ⟨by omega, fun j hj => ?_⟩, by omega, lP []⟩
          rcases Nat.lt_succ_iff_lt_or_eq.1 hj with h' | rfl
          · exact hpre j h'
          · cases h1 : a.getD j default; cases h2 : b.getD j default
            rw [h1, h2] at hn ht
            simp only at hn ht
            rw [hn, ht]
        · rw [show decide (a = b) = false from decide_eq_false (by rintro rfl; exact ht rfl)]
          repeat' (first|refine IOps_nil ?_|refine oS ?_|refine IOps_s rfl rfl ?_|refine oT ?_|refine IOps_s0 rfl ?_|refine oC (π:=[]) (hs:=by first|exact his|fail) (hx:=?_)|refine oZ ?_|refine oI ?_|refine oAB ?_|refine thenI_n ?_|refine IWP_seq ?_|refine IWP_region ?_|refine IWP_ct rfl ?_|refine IWP_cf rfl ?_|refine IWP_skip ?_|refine IWP_ret ?_|refine IWP_block ?_|refine inB_n ?_|refine thenI_r ?_|refine thenI_e ?_|refine inB_r ?_|refine inB_hit ?_|refine inB_miss rfl ?_|refine IWP_exit ?_|refine IWP_scope ?_|refine IWP_label ?_|refine noG_n ?_|refine noG_r ?_|refine noG_e ?_|refine jmp_n ?_|refine jmp_r ?_|refine jmp_e ?_|refine jmp_g ?_|refine thenI_g ?_|refine inB_g ?_|refine IWP_goto ?_|refine Loop_n ?_|refine oD (id:=6) W32_6 [] O32_6 [_,_,_,_,_,_,_,_,_,_,_,_] [_] rfl (by repeat' (first|exact trivial|refine And.intro ?_ ?_|exact bS|exact bX|exact bZ|exact bI|exact bC (π:=[]) (hs:=by first|exact his|fail)|fail)) ?_|refine oD (id:=7) W32_7 [] O32_7 [_,_,_,_,_,_,_,_,_,_,_,_,_,_,_] [_] rfl (by repeat' (first|exact trivial|refine And.intro ?_ ?_|exact bS|exact bX|exact bZ|exact bI|exact bC (π:=[]) (hs:=by first|exact his|fail)|fail)) ?_|fail)
          exact pD [] ⟨rfl, rfl⟩
      · rw [decide_eq_false hn] at his
        rw [show decide (a = b) = false from decide_eq_false (by rintro rfl; exact hn rfl)]
        repeat' (first|refine IOps_nil ?_|refine oS ?_|refine IOps_s rfl rfl ?_|refine oT ?_|refine IOps_s0 rfl ?_|refine oC (π:=[]) (hs:=by first|exact his|fail) (hx:=?_)|refine oZ ?_|refine oI ?_|refine oAB ?_|refine thenI_n ?_|refine IWP_seq ?_|refine IWP_region ?_|refine IWP_ct rfl ?_|refine IWP_cf rfl ?_|refine IWP_skip ?_|refine IWP_ret ?_|refine IWP_block ?_|refine inB_n ?_|refine thenI_r ?_|refine thenI_e ?_|refine inB_r ?_|refine inB_hit ?_|refine inB_miss rfl ?_|refine IWP_exit ?_|refine IWP_scope ?_|refine IWP_label ?_|refine noG_n ?_|refine noG_r ?_|refine noG_e ?_|refine jmp_n ?_|refine jmp_r ?_|refine jmp_e ?_|refine jmp_g ?_|refine thenI_g ?_|refine inB_g ?_|refine IWP_goto ?_|refine Loop_n ?_|refine oD (id:=6) W32_6 [] O32_6 [_,_,_,_,_,_,_,_,_,_,_,_] [_] rfl (by repeat' (first|exact trivial|refine And.intro ?_ ?_|exact bS|exact bX|exact bZ|exact bI|exact bC (π:=[]) (hs:=by first|exact his|fail)|fail)) ?_|refine oD (id:=7) W32_7 [] O32_7 [_,_,_,_,_,_,_,_,_,_,_,_,_,_,_] [_] rfl (by repeat' (first|exact trivial|refine And.intro ?_ ?_|exact bS|exact bX|exact bZ|exact bI|exact bC (π:=[]) (hs:=by first|exact his|fail)|fail)) ?_|fail)
        exact pD [] ⟨rfl, rfl⟩
    · rw [show decide (a = b) = true from decide_eq_true (List.ext_getElem h fun j h1 h2 => by
        have := hpre j (by omega)
        simpa [List.getD_eq_getElem?_getD, h1, h2] using this)]
      repeat' (first|refine IOps_nil ?_|refine oS ?_|refine IOps_s rfl rfl ?_|refine oT ?_|refine IOps_s0 rfl ?_|refine oZ ?_|refine oI ?_|refine oAB ?_|refine thenI_n ?_|refine IWP_seq ?_|refine IWP_region ?_|refine IWP_ct rfl ?_|refine IWP_cf rfl ?_|refine IWP_skip ?_|refine IWP_ret ?_|refine IWP_block ?_|refine inB_n ?_|refine thenI_r ?_|refine thenI_e ?_|refine inB_r ?_|refine inB_hit ?_|refine inB_miss rfl ?_|refine IWP_exit ?_|refine IWP_scope ?_|refine IWP_label ?_|refine noG_n ?_|refine noG_r ?_|refine noG_e ?_|refine jmp_n ?_|refine jmp_r ?_|refine jmp_e ?_|refine jmp_g ?_|refine thenI_g ?_|refine inB_g ?_|refine IWP_goto ?_|refine Loop_n ?_|refine oD (id:=6) W32_6 [] O32_6 [_,_,_,_,_,_,_,_,_,_,_,_] [_] rfl (by repeat' (first|exact trivial|refine And.intro ?_ ?_|exact bS|exact bX|exact bZ|exact bI|fail)) ?_|refine oD (id:=7) W32_7 [] O32_7 [_,_,_,_,_,_,_,_,_,_,_,_,_,_,_] [_] rfl (by repeat' (first|exact trivial|refine And.intro ?_ ?_|exact bS|exact bX|exact bZ|exact bI|fail)) ?_|fail)
      exact pD [] ⟨rfl, rfl⟩
  · rw [show decide (a = b) = false from decide_eq_false (by rintro rfl; exact h rfl)]
    refine sB Try.func32 Try.ntmps32 ?_
    repeat' (first|refine IOps_nil ?_|refine oS ?_|refine IOps_s rfl rfl ?_|refine oT ?_|refine IOps_s0 rfl ?_|refine oZ ?_|refine oI ?_|refine oAB ?_|refine thenI_n ?_|refine IWP_seq ?_|refine IWP_region ?_|refine IWP_ct rfl ?_|refine IWP_cf rfl ?_|refine IWP_skip ?_|refine IWP_ret ?_|refine IWP_block ?_|refine inB_n ?_|refine thenI_r ?_|refine thenI_e ?_|refine inB_r ?_|refine inB_hit ?_|refine inB_miss rfl ?_|refine IWP_exit ?_|refine IWP_scope ?_|refine IWP_label ?_|refine noG_n ?_|refine noG_r ?_|refine noG_e ?_|refine jmp_n ?_|refine jmp_r ?_|refine jmp_e ?_|refine jmp_g ?_|refine thenI_g ?_|refine inB_g ?_|refine IWP_goto ?_|refine Loop_n ?_|refine oD (id:=6) W32_6 [] O32_6 [_,_,_,_,_,_,_,_,_,_,_,_] [_] rfl (by repeat' (first|exact trivial|refine And.intro ?_ ?_|exact bS|exact bX|exact bZ|exact bI|fail)) ?_|refine oD (id:=7) W32_7 [] O32_7 [_,_,_,_,_,_,_,_,_,_,_,_,_,_,_] [_] rfl (by repeat' (first|exact trivial|refine And.intro ?_ ?_|exact bS|exact bX|exact bZ|exact bI|fail)) ?_|fail)
    exact pD [] ⟨rfl, rfl⟩
def fewR (l : List Rw) : Prop := (∀ r, r ∈ l → r.tag.length ≤ 100 ∧ r.ids.length ≤ 100) ∧ l.length ≤ 200
instance (l : List Rw) : Decidable (fewR l) := by unfold fewR; infer_instance
theorem rfew_spec (l : List Rw) (hL : l.length ≤ 9223372036854775807) : Idl.Spec Try.prog 29 [.fz false (rows false l) l.length] [] (Only (.sc (.bool (decide (fewR l)))) []) := by
  refine sB Try.func29 Try.ntmps29 ?_
  repeat' (first|refine IOps_nil ?_|refine oS ?_|refine IOps_s rfl rfl ?_|refine oT ?_|refine IOps_s0 rfl ?_|refine oZ ?_|refine oI ?_|refine oAB ?_|refine thenI_n ?_|refine IWP_seq ?_|refine IWP_region ?_|refine IWP_ct rfl ?_|refine IWP_cf rfl ?_|refine IWP_skip ?_|refine IWP_ret ?_|refine IWP_block ?_|refine inB_n ?_|refine thenI_r ?_|refine thenI_e ?_|refine inB_r ?_|refine inB_hit ?_|refine inB_miss rfl ?_|refine IWP_exit ?_|refine IWP_scope ?_|refine IWP_label ?_|refine noG_n ?_|refine noG_r ?_|refine noG_e ?_|refine jmp_n ?_|refine jmp_r ?_|refine jmp_e ?_|refine jmp_g ?_|refine thenI_g ?_|refine inB_g ?_|refine IWP_goto ?_|refine Loop_n ?_|fail)
  refine IWP_loop (fun i : Nat => ⟨29, [(0, .fz false (rows false l) l.length), (2, .sc (.bool false)), (3, .i64 i)], []⟩) (fun i => i ≤ l.length ∧ ∀ j, j < i → (l.getD j default).tag.length ≤ 100 ∧ (l.getD j default).ids.length ≤ 100) (fun i => l.length - i) 0 (lP []) ⟨Nat.zero_le _, fun j hj => by omega⟩ ?_
  rintro i ⟨hi, hok⟩
  by_cases h : i < l.length
  · by_cases hk : (l.getD i default).tag.length ≤ 100
    · by_cases hk2 : (l.getD i default).ids.length ≤ 100
      · repeat' (first|refine IOps_nil ?_|refine oS ?_|refine IOps_s rfl rfl ?_|refine oT ?_|refine IOps_s0 rfl ?_|refine oZ ?_|refine oI ?_|refine oAB ?_|refine thenI_n ?_|refine IWP_seq ?_|refine IWP_region ?_|refine IWP_ct rfl ?_|refine IWP_cf rfl ?_|refine IWP_skip ?_|refine IWP_ret ?_|refine IWP_block ?_|refine inB_n ?_|refine thenI_r ?_|refine thenI_e ?_|refine inB_r ?_|refine inB_hit ?_|refine inB_miss rfl ?_|refine IWP_exit ?_|refine IWP_scope ?_|refine IWP_label ?_|refine noG_n ?_|refine noG_r ?_|refine noG_e ?_|refine jmp_n ?_|refine jmp_r ?_|refine jmp_e ?_|refine jmp_g ?_|refine thenI_g ?_|refine inB_g ?_|refine IWP_goto ?_|refine Loop_n ?_|fail)
        refine ⟨i + 1, ⟨h, fun j hj => ?_⟩, by omega, lP []⟩
        rcases Nat.lt_succ_iff_lt_or_eq.1 hj with h' | rfl
        · exact hok j h'
        · exact ⟨hk, hk2⟩
      · rw [show decide (fewR l) = false from decide_eq_false fun x => hk2 (x.1 _ (getD_mem h)).2]
        repeat' (first|refine IOps_nil ?_|refine oS ?_|refine IOps_s rfl rfl ?_|refine oT ?_|refine IOps_s0 rfl ?_|refine oZ ?_|refine oI ?_|refine oAB ?_|refine thenI_n ?_|refine IWP_seq ?_|refine IWP_region ?_|refine IWP_ct rfl ?_|refine IWP_cf rfl ?_|refine IWP_skip ?_|refine IWP_ret ?_|refine IWP_block ?_|refine inB_n ?_|refine thenI_r ?_|refine thenI_e ?_|refine inB_r ?_|refine inB_hit ?_|refine inB_miss rfl ?_|refine IWP_exit ?_|refine IWP_scope ?_|refine IWP_label ?_|refine noG_n ?_|refine noG_r ?_|refine noG_e ?_|refine jmp_n ?_|refine jmp_r ?_|refine jmp_e ?_|refine jmp_g ?_|refine thenI_g ?_|refine inB_g ?_|refine IWP_goto ?_|refine Loop_n ?_|fail)
        exact pD [] ⟨rfl, rfl⟩
    · rw [show decide (fewR l) = false from decide_eq_false fun x => hk (x.1 _ (getD_mem h)).1]
      repeat' (first|refine IOps_nil ?_|refine oS ?_|refine IOps_s rfl rfl ?_|refine oT ?_|refine IOps_s0 rfl ?_|refine oZ ?_|refine oI ?_|refine oAB ?_|refine thenI_n ?_|refine IWP_seq ?_|refine IWP_region ?_|refine IWP_ct rfl ?_|refine IWP_cf rfl ?_|refine IWP_skip ?_|refine IWP_ret ?_|refine IWP_block ?_|refine inB_n ?_|refine thenI_r ?_|refine thenI_e ?_|refine inB_r ?_|refine inB_hit ?_|refine inB_miss rfl ?_|refine IWP_exit ?_|refine IWP_scope ?_|refine IWP_label ?_|refine noG_n ?_|refine noG_r ?_|refine noG_e ?_|refine jmp_n ?_|refine jmp_r ?_|refine jmp_e ?_|refine jmp_g ?_|refine thenI_g ?_|refine inB_g ?_|refine IWP_goto ?_|refine Loop_n ?_|fail)
      exact pD [] ⟨rfl, rfl⟩
  · by_cases hm : l.length ≤ 200
    · rw [show decide (fewR l) = true from decide_eq_true ⟨fun t ht => by obtain ⟨j, hj, rfl⟩ := mem_getD default ht; exact hok j (by omega), hm⟩]
      repeat' (first|refine IOps_nil ?_|refine oS ?_|refine IOps_s rfl rfl ?_|refine oT ?_|refine IOps_s0 rfl ?_|refine oZ ?_|refine oI ?_|refine oAB ?_|refine thenI_n ?_|refine IWP_seq ?_|refine IWP_region ?_|refine IWP_ct rfl ?_|refine IWP_cf rfl ?_|refine IWP_skip ?_|refine IWP_ret ?_|refine IWP_block ?_|refine inB_n ?_|refine thenI_r ?_|refine thenI_e ?_|refine inB_r ?_|refine inB_hit ?_|refine inB_miss rfl ?_|refine IWP_exit ?_|refine IWP_scope ?_|refine IWP_label ?_|refine noG_n ?_|refine noG_r ?_|refine noG_e ?_|refine jmp_n ?_|refine jmp_r ?_|refine jmp_e ?_|refine jmp_g ?_|refine thenI_g ?_|refine inB_g ?_|refine IWP_goto ?_|refine Loop_n ?_|fail)
      exact pD [] ⟨rfl, rfl⟩
    · rw [show decide (fewR l) = false from decide_eq_false fun x => hm x.2]
      repeat' (first|refine IOps_nil ?_|refine oS ?_|refine IOps_s rfl rfl ?_|refine oT ?_|refine IOps_s0 rfl ?_|refine oZ ?_|refine oI ?_|refine oAB ?_|refine thenI_n ?_|refine IWP_seq ?_|refine IWP_region ?_|refine IWP_ct rfl ?_|refine IWP_cf rfl ?_|refine IWP_skip ?_|refine IWP_ret ?_|refine IWP_block ?_|refine inB_n ?_|refine thenI_r ?_|refine thenI_e ?_|refine inB_r ?_|refine inB_hit ?_|refine inB_miss rfl ?_|refine IWP_exit ?_|refine IWP_scope ?_|refine IWP_label ?_|refine noG_n ?_|refine noG_r ?_|refine noG_e ?_|refine jmp_n ?_|refine jmp_r ?_|refine jmp_e ?_|refine jmp_g ?_|refine thenI_g ?_|refine inB_g ?_|refine IWP_goto ?_|refine Loop_n ?_|fail)
      exact pD [] ⟨rfl, rfl⟩
theorem tgcopied_spec (l : List Rw) (hL : l.length ≤ 1000000) (hI : ∀ r, r ∈ l → r.tag.length ≤ 1000000 ∧ r.ids.length ≤ 1000000) : Idl.Spec Try.prog 42 [.fz false (rows false l) l.length] [] (Only (.fz true (rows true l) l.length) []) := by
  refine sB Try.func42 Try.ntmps42 ?_
  repeat' (first|refine IOps_nil ?_|refine oS ?_|refine IOps_s rfl rfl ?_|refine oT ?_|refine IOps_s0 rfl ?_|refine oZ ?_|refine oI ?_|refine oAB ?_|refine thenI_n ?_|refine IWP_seq ?_|refine IWP_region ?_|refine IWP_ct rfl ?_|refine IWP_cf rfl ?_|refine IWP_skip ?_|refine IWP_ret ?_|refine IWP_block ?_|refine inB_n ?_|refine thenI_r ?_|refine thenI_e ?_|refine inB_r ?_|refine inB_hit ?_|refine inB_miss rfl ?_|refine IWP_exit ?_|refine IWP_scope ?_|refine IWP_label ?_|refine noG_n ?_|refine noG_r ?_|refine noG_e ?_|refine jmp_n ?_|refine jmp_r ?_|refine jmp_e ?_|refine jmp_g ?_|refine thenI_g ?_|refine inB_g ?_|refine IWP_goto ?_|refine Loop_n ?_|refine oD (id:=5) W42_5 [9] O42_5 [_,_,_,_,_,_,_,_,_,_] [_,_] rfl (by repeat' (first|exact trivial|refine And.intro ?_ ?_|exact bS|exact bX|exact bZ|exact bI|fail)) ?_|fail)
  refine IWP_loop (fun i : Nat => ⟨27, [(0, .fz false (rows false l) l.length), (3, .sl 0 0 l.length l.length 2), (9, .fz false (rows false l) l.length), (10, .i64 l.length), (11, .i64 i)], [.arr true (rows true (l.take i) ++ zrows (l.length - i))]⟩) (fun i => i ≤ l.length) (fun i => l.length - i) 0 (lP [0]) (Nat.zero_le _) ?_
  rintro i hi
  by_cases h : i < l.length
  · obtain ⟨hI1, hI2⟩ := hI _ (getD_mem (d := default) h)
    repeat' (first|refine IOps_nil ?_|refine oS ?_|refine IOps_s rfl rfl ?_|refine oT ?_|refine IOps_s0 rfl ?_|refine oC (π:=[]) (hs:=by first|exact iclone_spec (l.getD i default).ids hI2|fail) (hx:=?_)|refine oZ ?_|refine oI ?_|refine oAB ?_|refine thenI_n ?_|refine IWP_seq ?_|refine IWP_region ?_|refine IWP_ct rfl ?_|refine IWP_cf rfl ?_|refine IWP_skip ?_|refine IWP_ret ?_|refine IWP_block ?_|refine inB_n ?_|refine thenI_r ?_|refine thenI_e ?_|refine inB_r ?_|refine inB_hit ?_|refine inB_miss rfl ?_|refine IWP_exit ?_|refine IWP_scope ?_|refine IWP_label ?_|refine noG_n ?_|refine noG_r ?_|refine noG_e ?_|refine jmp_n ?_|refine jmp_r ?_|refine jmp_e ?_|refine jmp_g ?_|refine thenI_g ?_|refine inB_g ?_|refine IWP_goto ?_|refine Loop_n ?_|refine oD (id:=5) W42_5 [9] O42_5 [_,_,_,_,_,_,_,_,_,_] [_,_] rfl (by repeat' (first|exact trivial|refine And.intro ?_ ?_|exact bS|exact bX|exact bZ|exact bI|exact bC (π:=[]) (hs:=by first|exact iclone_spec (l.getD i default).ids hI2|fail)|fail)) ?_|fail)
    exact ⟨i + 1, h, by omega, lP [0]⟩
  · obtain rfl : i = l.length := by omega
    repeat' (first|refine IOps_nil ?_|refine oS ?_|refine IOps_s rfl rfl ?_|refine oT ?_|refine IOps_s0 rfl ?_|refine oZ ?_|refine oI ?_|refine oAB ?_|refine thenI_n ?_|refine IWP_seq ?_|refine IWP_region ?_|refine IWP_ct rfl ?_|refine IWP_cf rfl ?_|refine IWP_skip ?_|refine IWP_block ?_|refine inB_n ?_|refine thenI_r ?_|refine thenI_e ?_|refine inB_r ?_|refine inB_hit ?_|refine inB_miss rfl ?_|refine IWP_exit ?_|refine IWP_scope ?_|refine IWP_label ?_|refine noG_n ?_|refine noG_r ?_|refine noG_e ?_|refine jmp_n ?_|refine jmp_r ?_|refine jmp_e ?_|refine jmp_g ?_|refine thenI_g ?_|refine inB_g ?_|refine IWP_goto ?_|refine Loop_n ?_|refine oD (id:=5) W42_5 [9] O42_5 [_,_,_,_,_,_,_,_,_,_] [_,_] rfl (by repeat' (first|exact trivial|refine And.intro ?_ ?_|exact bS|exact bX|exact bZ|exact bI|fail)) ?_|fail)
    refine wF 2 ?_
    repeat' (first|refine IOps_nil ?_|refine oS ?_|refine IOps_s rfl rfl ?_|refine oT ?_|refine IOps_s0 rfl ?_|refine oZ ?_|refine oI ?_|refine oAB ?_|refine thenI_n ?_|refine IWP_seq ?_|refine IWP_region ?_|refine IWP_ct rfl ?_|refine IWP_cf rfl ?_|refine IWP_skip ?_|refine IWP_ret ?_|refine IWP_block ?_|refine inB_n ?_|refine thenI_r ?_|refine thenI_e ?_|refine inB_r ?_|refine inB_hit ?_|refine inB_miss rfl ?_|refine IWP_exit ?_|refine IWP_scope ?_|refine IWP_label ?_|refine noG_n ?_|refine noG_r ?_|refine noG_e ?_|refine jmp_n ?_|refine jmp_r ?_|refine jmp_e ?_|refine jmp_g ?_|refine thenI_g ?_|refine inB_g ?_|refine IWP_goto ?_|refine Loop_n ?_|refine oD (id:=5) W42_5 [9] O42_5 [_,_,_,_,_,_,_,_,_,_] [_,_] rfl (by repeat' (first|exact trivial|refine And.intro ?_ ?_|exact bS|exact bX|exact bZ|exact bI|fail)) ?_|fail)
    exact pD [] ⟨rfl, rfl⟩
def tgsV (l : List Rw) (id : Int) : List Ks := (l.filter fun r => decide (id ∈ r.ids)).map fun r => r.tag
theorem tgsV_take {l : List Rw} {i : Nat} (id : Int) (h : i < l.length) : tgsV (l.take (i + 1)) id = tgsV (l.take i) id ++ if id ∈ (l.getD i default).ids then [(l.getD i default).tag] else [] := by
  unfold tgsV
  rw [take_snoc h, List.filter_append, List.map_append]
  congr 1
  by_cases hx : id ∈ (l.getD i default).ids
  · rw [if_pos hx, List.filter_cons, if_pos (decide_eq_true hx)]; rfl
  · rw [if_neg hx, List.filter_cons, if_neg (by simpa using hx)]; rfl
theorem tgsV_len (l : List Rw) (id : Int) : (tgsV l id).length ≤ l.length := by unfold tgsV; rw [List.length_map]; exact List.length_filter_le _ _
noncomputable def tgsC (l : List Rw) (id : Int) : List Ks := if chkR l then tgsV l id else []
theorem tgtags_spec (l : List Rw) (id : Int) (hL : l.length ≤ 1000000) (hI : ∀ r, r ∈ l → r.tag.length ≤ 1000000 ∧ r.ids.length ≤ 1000000) : Idl.Spec Try.prog 27 [.fz false (rows false l) l.length, .i64 id] [] (Only (.fz true (strs (tgsC l id)) (tgsC l id).length) []) := by
  have hcs := tcheck_spec l hL hI
  unfold tgsC
  cases hc : chkR l
  · rw [hc] at hcs
    rw [if_neg (by decide)]
    refine sB Try.func27 Try.ntmps27 ?_
    repeat' (first|refine IOps_nil ?_|refine oS ?_|refine IOps_s rfl rfl ?_|refine oT ?_|refine IOps_s0 rfl ?_|refine oC (π:=[]) (hs:=by first|exact hcs|fail) (hx:=?_)|refine oZ ?_|refine oI ?_|refine oAB ?_|refine thenI_n ?_|refine IWP_seq ?_|refine IWP_region ?_|refine IWP_ct rfl ?_|refine IWP_cf rfl ?_|refine IWP_skip ?_|refine IWP_block ?_|refine inB_n ?_|refine thenI_r ?_|refine thenI_e ?_|refine inB_r ?_|refine inB_hit ?_|refine inB_miss rfl ?_|refine IWP_exit ?_|refine IWP_scope ?_|refine IWP_label ?_|refine noG_n ?_|refine noG_r ?_|refine noG_e ?_|refine jmp_n ?_|refine jmp_r ?_|refine jmp_e ?_|refine jmp_g ?_|refine thenI_g ?_|refine inB_g ?_|refine IWP_goto ?_|refine Loop_n ?_|fail)
    refine wN0 4 ?_
    repeat' (first|refine IOps_nil ?_|refine oS ?_|refine IOps_s rfl rfl ?_|refine oT ?_|refine IOps_s0 rfl ?_|refine oZ ?_|refine oI ?_|refine oAB ?_|refine thenI_n ?_|refine IWP_seq ?_|refine IWP_region ?_|refine IWP_ct rfl ?_|refine IWP_cf rfl ?_|refine IWP_skip ?_|refine IWP_ret ?_|refine IWP_block ?_|refine inB_n ?_|refine thenI_r ?_|refine thenI_e ?_|refine inB_r ?_|refine inB_hit ?_|refine inB_miss rfl ?_|refine IWP_exit ?_|refine IWP_scope ?_|refine IWP_label ?_|refine noG_n ?_|refine noG_r ?_|refine noG_e ?_|refine jmp_n ?_|refine jmp_r ?_|refine jmp_e ?_|refine jmp_g ?_|refine thenI_g ?_|refine inB_g ?_|refine IWP_goto ?_|refine Loop_n ?_|fail)
    exact pD [] ⟨rfl, rfl⟩
  · rw [hc] at hcs
    rw [if_pos rfl]
    refine sB Try.func27 Try.ntmps27 ?_
    repeat' (first|refine IOps_nil ?_|refine oS ?_|refine IOps_s rfl rfl ?_|refine oT ?_|refine IOps_s0 rfl ?_|refine oC (π:=[]) (hs:=by first|exact hcs|fail) (hx:=?_)|refine oZ ?_|refine oI ?_|refine oAB ?_|refine thenI_n ?_|refine IWP_seq ?_|refine IWP_region ?_|refine IWP_ct rfl ?_|refine IWP_cf rfl ?_|refine IWP_skip ?_|refine IWP_ret ?_|refine IWP_block ?_|refine inB_n ?_|refine thenI_r ?_|refine thenI_e ?_|refine inB_r ?_|refine inB_hit ?_|refine inB_miss rfl ?_|refine IWP_exit ?_|refine IWP_scope ?_|refine IWP_label ?_|refine noG_n ?_|refine noG_r ?_|refine noG_e ?_|refine jmp_n ?_|refine jmp_r ?_|refine jmp_e ?_|refine jmp_g ?_|refine thenI_g ?_|refine inB_g ?_|refine IWP_goto ?_|refine Loop_n ?_|fail)
    refine wV 5 1 ?_
    refine IWP_loop (fun x : List Ks × Nat => ⟨28, [(0, .fz false (rows false l) l.length), (1, .i64 id), (5, .sl 0 0 x.1.length x.1.length 1), (11, .fz false (rows false l) l.length), (12, .i64 l.length), (13, .i64 x.2)], [.arr true (strs x.1)]⟩) (fun x => x.2 ≤ l.length ∧ x.1 = tgsV (l.take x.2) id) (fun x => l.length - x.2) ([], 0) (lP [0]) ⟨Nat.zero_le _, rfl⟩ ?_
    rintro ⟨K, i⟩ ⟨hi, hK⟩
    simp only at hi hK ⊢
    have hKl : K.length ≤ i := by rw [hK]; have := tgsV_len (l.take i) id; rw [List.length_take] at this; omega
    by_cases h : i < l.length
    · have hct := contains_spec (l.getD i default).ids id (hI _ (getD_mem h)).2
      have hkt := tgsV_take id h
      by_cases hx : id ∈ (l.getD i default).ids
      · rw [decide_eq_true hx] at hct
        rw [if_pos hx, ← hK] at hkt
        repeat' (first|refine IOps_nil ?_|refine oS ?_|refine IOps_s rfl rfl ?_|refine oT ?_|refine IOps_s0 rfl ?_|refine oC (π:=[]) (hs:=by first|exact hct|fail) (hx:=?_)|refine oZ ?_|refine oI ?_|refine oAB ?_|refine thenI_n ?_|refine IWP_seq ?_|refine IWP_region ?_|refine IWP_ct rfl ?_|refine IWP_cf rfl ?_|refine IWP_skip ?_|refine IWP_ret ?_|refine IWP_block ?_|refine inB_n ?_|refine thenI_r ?_|refine thenI_e ?_|refine inB_r ?_|refine inB_hit ?_|refine inB_miss rfl ?_|refine IWP_exit ?_|refine IWP_scope ?_|refine IWP_label ?_|refine noG_n ?_|refine noG_r ?_|refine noG_e ?_|refine jmp_n ?_|refine jmp_r ?_|refine jmp_e ?_|refine jmp_g ?_|refine thenI_g ?_|refine inB_g ?_|refine IWP_goto ?_|refine Loop_n ?_|fail)
        exact ⟨(K ++ [(l.getD i default).tag], i + 1), ⟨h, hkt.symm⟩, by simp only; omega, lP [3]⟩
      · rw [decide_eq_false hx] at hct
        rw [if_neg hx, List.append_nil, ← hK] at hkt
        repeat' (first|refine IOps_nil ?_|refine oS ?_|refine IOps_s rfl rfl ?_|refine oT ?_|refine IOps_s0 rfl ?_|refine oC (π:=[]) (hs:=by first|exact hct|fail) (hx:=?_)|refine oZ ?_|refine oI ?_|refine oAB ?_|refine thenI_n ?_|refine IWP_seq ?_|refine IWP_region ?_|refine IWP_ct rfl ?_|refine IWP_cf rfl ?_|refine IWP_skip ?_|refine IWP_ret ?_|refine IWP_block ?_|refine inB_n ?_|refine thenI_r ?_|refine thenI_e ?_|refine inB_r ?_|refine inB_hit ?_|refine inB_miss rfl ?_|refine IWP_exit ?_|refine IWP_scope ?_|refine IWP_label ?_|refine noG_n ?_|refine noG_r ?_|refine noG_e ?_|refine jmp_n ?_|refine jmp_r ?_|refine jmp_e ?_|refine jmp_g ?_|refine thenI_g ?_|refine inB_g ?_|refine IWP_goto ?_|refine Loop_n ?_|fail)
        exact ⟨(K, i + 1), ⟨h, hkt.symm⟩, by simp only; omega, lP [0]⟩
    · obtain rfl : i = l.length := by omega
      rw [List.take_length] at hK
      subst hK
      repeat' (first|refine IOps_nil ?_|refine oS ?_|refine IOps_s rfl rfl ?_|refine oT ?_|refine IOps_s0 rfl ?_|refine oZ ?_|refine oI ?_|refine oAB ?_|refine thenI_n ?_|refine IWP_seq ?_|refine IWP_region ?_|refine IWP_ct rfl ?_|refine IWP_cf rfl ?_|refine IWP_skip ?_|refine IWP_block ?_|refine inB_n ?_|refine thenI_r ?_|refine thenI_e ?_|refine inB_r ?_|refine inB_hit ?_|refine inB_miss rfl ?_|refine IWP_exit ?_|refine IWP_scope ?_|refine IWP_label ?_|refine noG_n ?_|refine noG_r ?_|refine noG_e ?_|refine jmp_n ?_|refine jmp_r ?_|refine jmp_e ?_|refine jmp_g ?_|refine thenI_g ?_|refine inB_g ?_|refine IWP_goto ?_|refine Loop_n ?_|fail)
      refine wF 4 ?_
      repeat' (first|refine IOps_nil ?_|refine oS ?_|refine IOps_s rfl rfl ?_|refine oT ?_|refine IOps_s0 rfl ?_|refine oZ ?_|refine oI ?_|refine oAB ?_|refine thenI_n ?_|refine IWP_seq ?_|refine IWP_region ?_|refine IWP_ct rfl ?_|refine IWP_cf rfl ?_|refine IWP_skip ?_|refine IWP_ret ?_|refine IWP_block ?_|refine inB_n ?_|refine thenI_r ?_|refine thenI_e ?_|refine inB_r ?_|refine inB_hit ?_|refine inB_miss rfl ?_|refine IWP_exit ?_|refine IWP_scope ?_|refine IWP_label ?_|refine noG_n ?_|refine noG_r ?_|refine noG_e ?_|refine jmp_n ?_|refine jmp_r ?_|refine jmp_e ?_|refine jmp_g ?_|refine thenI_g ?_|refine inB_g ?_|refine IWP_goto ?_|refine Loop_n ?_|fail)
      exact pD [] ⟨rfl, rfl⟩
def whoV (l : List Rw) (t : Ks) : List Int := match l.find? fun r => decide (r.tag = t) with | some r => r.ids | none => []
theorem whoV_at : ∀ {l : List Rw} {t : Ks} {i : Nat}, i < l.length → (∀ j, j < i → ¬ (l.getD j default).tag = t) → (l.getD i default).tag = t → whoV l t = (l.getD i default).ids
  | [], t, i, h, _, _ => by simp at h
  | r :: l, t, 0, _, _, h => by
    have h : r.tag = t := h
    unfold whoV; simp [h]
  | r :: l, t, i + 1, h, hp, hx => by
    have h0 : ¬ r.tag = t := hp 0 (by omega)
    have ih := whoV_at (l := l) (t := t) (i := i) (by simpa using h) (fun j hj => by simpa using hp (j + 1) (by omega)) (by simpa using hx)
    unfold whoV at ih ⊢
    simp only [List.find?_cons, h0, decide_false, List.getD_cons_succ]
    exact ih
theorem whoV_no {l : List Rw} {t : Ks} (h : ∀ j, j < l.length → ¬ (l.getD j default).tag = t) : whoV l t = [] := by
  unfold whoV
  rw [List.find?_eq_none.2 fun r hr => by
    obtain ⟨j, hj, rfl⟩ := mem_getD default hr
    simpa using h j hj]
noncomputable def whoC (l : List Rw) (t : Ks) : List Int := if chkR l then whoV l t else []
theorem tgof_spec (l : List Rw) (t : Ks) (hL : l.length ≤ 1000000) (hI : ∀ r, r ∈ l → r.tag.length ≤ 1000000 ∧ r.ids.length ≤ 1000000) : Idl.Spec Try.prog 30 [.fz false (rows false l) l.length, .sc (.string ⟨⟨t⟩⟩)] [] (Only (.fz true (ints (whoC l t)) (whoC l t).length) []) := by
  have hcs := tcheck_spec l hL hI
  unfold whoC
  cases hc : chkR l
  · rw [hc] at hcs
    rw [if_neg (by decide)]
    refine sB Try.func30 Try.ntmps30 ?_
    repeat' (first|refine IOps_nil ?_|refine oS ?_|refine IOps_s rfl rfl ?_|refine oT ?_|refine IOps_s0 rfl ?_|refine oC (π:=[]) (hs:=by first|exact hcs|fail) (hx:=?_)|refine oZ ?_|refine oI ?_|refine oAB ?_|refine thenI_n ?_|refine IWP_seq ?_|refine IWP_region ?_|refine IWP_ct rfl ?_|refine IWP_cf rfl ?_|refine IWP_skip ?_|refine IWP_block ?_|refine inB_n ?_|refine thenI_r ?_|refine thenI_e ?_|refine inB_r ?_|refine inB_hit ?_|refine inB_miss rfl ?_|refine IWP_exit ?_|refine IWP_scope ?_|refine IWP_label ?_|refine noG_n ?_|refine noG_r ?_|refine noG_e ?_|refine jmp_n ?_|refine jmp_r ?_|refine jmp_e ?_|refine jmp_g ?_|refine thenI_g ?_|refine inB_g ?_|refine IWP_goto ?_|refine Loop_n ?_|fail)
    refine wN0 4 ?_
    repeat' (first|refine IOps_nil ?_|refine oS ?_|refine IOps_s rfl rfl ?_|refine oT ?_|refine IOps_s0 rfl ?_|refine oZ ?_|refine oI ?_|refine oAB ?_|refine thenI_n ?_|refine IWP_seq ?_|refine IWP_region ?_|refine IWP_ct rfl ?_|refine IWP_cf rfl ?_|refine IWP_skip ?_|refine IWP_ret ?_|refine IWP_block ?_|refine inB_n ?_|refine thenI_r ?_|refine thenI_e ?_|refine inB_r ?_|refine inB_hit ?_|refine inB_miss rfl ?_|refine IWP_exit ?_|refine IWP_scope ?_|refine IWP_label ?_|refine noG_n ?_|refine noG_r ?_|refine noG_e ?_|refine jmp_n ?_|refine jmp_r ?_|refine jmp_e ?_|refine jmp_g ?_|refine thenI_g ?_|refine inB_g ?_|refine IWP_goto ?_|refine Loop_n ?_|fail)
    exact pD [] ⟨rfl, rfl⟩
  · rw [hc] at hcs
    rw [if_pos rfl]
    refine sB Try.func30 Try.ntmps30 ?_
    repeat' (first|refine IOps_nil ?_|refine oS ?_|refine IOps_s rfl rfl ?_|refine oT ?_|refine IOps_s0 rfl ?_|refine oC (π:=[]) (hs:=by first|exact hcs|fail) (hx:=?_)|refine oZ ?_|refine oI ?_|refine oAB ?_|refine thenI_n ?_|refine IWP_seq ?_|refine IWP_region ?_|refine IWP_ct rfl ?_|refine IWP_cf rfl ?_|refine IWP_skip ?_|refine IWP_ret ?_|refine IWP_block ?_|refine inB_n ?_|refine thenI_r ?_|refine thenI_e ?_|refine inB_r ?_|refine inB_hit ?_|refine inB_miss rfl ?_|refine IWP_exit ?_|refine IWP_scope ?_|refine IWP_label ?_|refine noG_n ?_|refine noG_r ?_|refine noG_e ?_|refine jmp_n ?_|refine jmp_r ?_|refine jmp_e ?_|refine jmp_g ?_|refine thenI_g ?_|refine inB_g ?_|refine IWP_goto ?_|refine Loop_n ?_|fail)
    refine IWP_loop (fun i : Nat => ⟨24, [(0, .fz false (rows false l) l.length), (1, .sc (.string ⟨⟨t⟩⟩)), (10, .fz false (rows false l) l.length), (11, .i64 l.length), (12, .i64 i)], []⟩) (fun i => i ≤ l.length ∧ ∀ j, j < i → ¬ (l.getD j default).tag = t) (fun i => l.length - i) 0 (lP []) ⟨Nat.zero_le _, fun j hj => by omega⟩ ?_
    rintro i ⟨hi, hp⟩
    by_cases h : i < l.length
    · by_cases hx : (l.getD i default).tag = t
      · rw [whoV_at h hp hx]
        repeat' (first|refine IOps_nil ?_|refine oS ?_|refine IOps_s rfl rfl ?_|refine oT ?_|refine IOps_s0 rfl ?_|refine oC (π:=[]) (hs:=by first|exact iclone_spec (l.getD i default).ids (hI _ (getD_mem h)).2|fail) (hx:=?_)|refine oZ ?_|refine oI ?_|refine oAB ?_|refine thenI_n ?_|refine IWP_seq ?_|refine IWP_region ?_|refine IWP_ct rfl ?_|refine IWP_cf rfl ?_|refine IWP_skip ?_|refine IWP_ret ?_|refine IWP_block ?_|refine inB_n ?_|refine thenI_r ?_|refine thenI_e ?_|refine inB_r ?_|refine inB_hit ?_|refine inB_miss rfl ?_|refine IWP_exit ?_|refine IWP_scope ?_|refine IWP_label ?_|refine noG_n ?_|refine noG_r ?_|refine noG_e ?_|refine jmp_n ?_|refine jmp_r ?_|refine jmp_e ?_|refine jmp_g ?_|refine thenI_g ?_|refine inB_g ?_|refine IWP_goto ?_|refine Loop_n ?_|fail)
        exact pD [] ⟨rfl, rfl⟩
      · repeat' (first|refine IOps_nil ?_|refine oS ?_|refine IOps_s rfl rfl ?_|refine oT ?_|refine IOps_s0 rfl ?_|refine oZ ?_|refine oI ?_|refine oAB ?_|refine thenI_n ?_|refine IWP_seq ?_|refine IWP_region ?_|refine IWP_ct rfl ?_|refine IWP_cf rfl ?_|refine IWP_skip ?_|refine IWP_ret ?_|refine IWP_block ?_|refine inB_n ?_|refine thenI_r ?_|refine thenI_e ?_|refine inB_r ?_|refine inB_hit ?_|refine inB_miss rfl ?_|refine IWP_exit ?_|refine IWP_scope ?_|refine IWP_label ?_|refine noG_n ?_|refine noG_r ?_|refine noG_e ?_|refine jmp_n ?_|refine jmp_r ?_|refine jmp_e ?_|refine jmp_g ?_|refine thenI_g ?_|refine inB_g ?_|refine IWP_goto ?_|refine Loop_n ?_|fail)
        refine ⟨i + 1, ⟨h, fun j hj => ?_⟩, by omega, lP []⟩
        rcases Nat.lt_succ_iff_lt_or_eq.1 hj with h' | rfl
        · exact hp j h'
        · exact hx
    · obtain rfl : i = l.length := by omega
      rw [whoV_no hp]
      repeat' (first|refine IOps_nil ?_|refine oS ?_|refine IOps_s rfl rfl ?_|refine oT ?_|refine IOps_s0 rfl ?_|refine oZ ?_|refine oI ?_|refine oAB ?_|refine thenI_n ?_|refine IWP_seq ?_|refine IWP_region ?_|refine IWP_ct rfl ?_|refine IWP_cf rfl ?_|refine IWP_skip ?_|refine IWP_block ?_|refine inB_n ?_|refine thenI_r ?_|refine thenI_e ?_|refine inB_r ?_|refine inB_hit ?_|refine inB_miss rfl ?_|refine IWP_exit ?_|refine IWP_scope ?_|refine IWP_label ?_|refine noG_n ?_|refine noG_r ?_|refine noG_e ?_|refine jmp_n ?_|refine jmp_r ?_|refine jmp_e ?_|refine jmp_g ?_|refine thenI_g ?_|refine inB_g ?_|refine IWP_goto ?_|refine Loop_n ?_|fail)
      refine wN0 4 ?_
      repeat' (first|refine IOps_nil ?_|refine oS ?_|refine IOps_s rfl rfl ?_|refine oT ?_|refine IOps_s0 rfl ?_|refine oZ ?_|refine oI ?_|refine oAB ?_|refine thenI_n ?_|refine IWP_seq ?_|refine IWP_region ?_|refine IWP_ct rfl ?_|refine IWP_cf rfl ?_|refine IWP_skip ?_|refine IWP_ret ?_|refine IWP_block ?_|refine inB_n ?_|refine thenI_r ?_|refine thenI_e ?_|refine inB_r ?_|refine inB_hit ?_|refine inB_miss rfl ?_|refine IWP_exit ?_|refine IWP_scope ?_|refine IWP_label ?_|refine noG_n ?_|refine noG_r ?_|refine noG_e ?_|refine jmp_n ?_|refine jmp_r ?_|refine jmp_e ?_|refine jmp_g ?_|refine thenI_g ?_|refine inB_g ?_|refine IWP_goto ?_|refine Loop_n ?_|fail)
      exact pD [] ⟨rfl, rfl⟩
end Go.Proofs.Ytmgcoopmbohkoaa
