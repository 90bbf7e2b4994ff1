/-
  Ideal states: slices, new blocks, stores: as the model has them.
-/
import Derived.Test.YtmgcoopmbohkoaaIdlH
namespace Go.Idl
open Go

section
variable {P : Program} {T : TT} {F : Fix} {h : List HO} {w : World}

theorem lowN_cut {α : Type} (lo : Option Int) (k : Nat) (l : List α) : lowCut lo k l = l.drop (lowN lo * k) := by
  cases lo <;> simp [lowCut, lowN]

theorem plo_spec {lo : Option Int} {top : Int} {hh : Nat} (ht : top ≤ hh) (hp : AllP (plo lo top)) :
    ((lo = none ∧ lowN lo = 0) ∨ ∃ i, lo = some i ∧ 0 ≤ i ∧ i ≤ hh ∧ lowN lo = i.toNat) ∧ lowN lo ≤ hh := by
  cases lo with
  | none => exact ⟨.inl ⟨rfl, rfl⟩, by simp [lowN]⟩
  | some i =>
    obtain ⟨p1, p2, _⟩ := hp
    refine ⟨.inr ⟨i, rfl, p1, by omega, rfl⟩, ?_⟩
    simp [lowN]; omega

theorem slice_core {t : Nat} {e sz : Nat} {inf : TypeInfo} (hu : P.underlying t = some (.slice e)) (hi : P.info? e = some inf) (hs : inf.size = sz) {a : Option Addr} {len cap l hh m : Nat} {lo vh mx : Option Value}
    (hb : (Instr.sliceBounds true len cap lo vh mx).run P w = .ok (l, hh, m) w) :
    (Instr.sliceAt t (.slice a len cap) lo vh mx).run P w = .ok (.slice (if m = l then a else a.map (·.add (l * sz))) (hh - l) (m - l)) w := by
  simp [Instr.sliceAt, Instr.slice, run_underlying hu, hb, run_sizeOf hi, hs]

theorem sl_cut {n off cap' esz o l hh m cap len : Nat} (hn : n < F.N) (ho : 0 < cap' → o = off) (hs : off + cap' * esz ≤ F.bsz n) (h1 : l ≤ hh) (h2 : hh ≤ m) (h3 : m ≤ cap') (hc : cap ≤ m) (hl : len = hh - l) (hcap : hh ≤ cap) :
    R F (.sl n (off + l * esz) len (cap - l) esz) (.slice (if m = l then some ⟨F.blk n, o, none⟩ else (some (⟨F.blk n, o, none⟩ : Addr)).map (·.add (l * esz))) len (m - l)) := by
  have hb : off + l * esz + (m - l) * esz ≤ F.bsz n := by
    rw [Nat.add_assoc, ← Nat.add_mul, Nat.add_sub_cancel' (by omega)]
    have := Nat.mul_le_mul_right esz h3; omega
  by_cases hm : m = l
  · rw [if_pos hm]
    exact .sl hn (by omega) (by omega) (fun h => by omega) hb
  · rw [if_neg hm, Option.map_some, Addr.add_lit]
    have := ho (by omega)
    subst this
    exact .sl hn (by omega) (by omega) (fun _ => rfl) hb

theorem fz_cut {nw : Bool} {cs : List IV} {vs : List Value} {b o l hh m k : Nat} (hb : nw = true → vs ≠ [] → F.base ≤ b) (hr : Rdl F.rd b o vs) (hl : RL { F with N := 0 } cs vs) (h1 : l ≤ hh) (h2 : hh ≤ m) (q : Nat) (hq : hh = l → q ≤ l * k) :
    R F (.fz nw ((cs.take q).drop (l * k)) (hh - l)) (.slice (if m = l then some ⟨b, o, none⟩ else (some (⟨b, o, none⟩ : Addr)).map (·.add (l * k))) (hh - l) (m - l)) := by
  by_cases hm : m = l
  · rw [if_pos hm]
    have : (cs.take q).drop (l * k) = [] := by
      apply List.drop_eq_nil_of_le
      have := hq (by omega)
      simp; omega
    rw [this]
    exact .fz (vs := []) (fun _ h => absurd rfl h) (fun j v hj => by simp at hj) .nil (by omega)
  · rw [if_neg hm, Option.map_some, Addr.add_lit]
    refine .fz (fun e e' => hb e ?_) ((hr.take q).drop _) ((hl.take q).drop _) (by omega)
    intro h0; rw [h0] at e'; simp at e'

theorem islice_sound (hT : TOk P T) (hI : HIn F h w) {t : Nat} {x y : IV} {v : Value} {lo hi mx : Option IV} {vlo vhi vmx : Option Value} {ps : List Prop} (hr : R F x v)
    (hlo : ∀ x, lo = some x → ∃ v, vlo = some v ∧ R F x v) (nlo : lo = none → vlo = none) (hhi : ∀ x, hi = some x → ∃ v, vhi = some v ∧ R F x v) (nhi : hi = none → vhi = none)
    (hmx : ∀ x, mx = some x → ∃ v, vmx = some v ∧ R F x v) (nmx : mx = none → vmx = none) (e : islice T h t x lo hi mx = some (ps, y)) (hp : AllP ps) :
    ∃ z, (Instr.sliceAt t v vlo vhi vmx).run P w = .ok z w ∧ R F y z := by
  unfold islice at e
  split at e
  case h_2 => cases e
  rename_i _ _ _ lo' hi' mx' elo ehi emx
  have Hlo := RO hlo nlo elo
  have Hhi := RO hhi nhi ehi
  have Hmx := RO hmx nmx emx
  clear hlo nlo hhi nhi hmx nmx elo ehi emx
  simp only at e
  split at e
  · -- a string
    rename_i sz by' zz s ht
    obtain ⟨inf, d, hf⟩ := hT t _ ht
    have hu := hf.str rfl
    cases hr
    split at e
    · cases e
      obtain ⟨k1, k2⟩ := plo_spec (hh := s.size) (by rw [size_len]; exact Int.le_refl _) hp
      have hb := sliceBounds_run (P := P) (w := w) (isl := false) (len := s.size) (cap := s.size) Hlo Hhi Hmx (.inl ⟨rfl, rfl⟩) (.inl ⟨rfl, rfl, rfl⟩) k1
      rcases Hmx with ⟨_, rfl⟩ | ⟨_, _, h, _⟩
      · refine ⟨.string (s.extract (lowN lo') s.size), ?_, ?_⟩
        · simp [Instr.sliceAt, Instr.slice, run_underlying hu, hb]
        · rw [str_cut, lowN_cut, size_len, List.take_length, Nat.mul_one]; exact .sc _
      · cases h
    · rename_i i
      cases e
      obtain ⟨p1, p2, p3⟩ := hp
      obtain ⟨k1, k2⟩ := plo_spec (hh := i.toNat) (by omega) p3
      have hb := sliceBounds_run (P := P) (w := w) (isl := false) (len := s.size) (cap := s.size) Hlo Hhi Hmx (.inl ⟨rfl, rfl⟩) (.inr ⟨i, rfl, p1, by rw [size_len]; exact p2, rfl⟩) k1
      rcases Hmx with ⟨_, rfl⟩ | ⟨_, _, h, _⟩
      · refine ⟨.string (s.extract (lowN lo') i.toNat), ?_, ?_⟩
        · simp [Instr.sliceAt, Instr.slice, run_underlying hu, hb]
        · rw [str_cut, lowN_cut, Nat.mul_one]; exact .sc _
      · cases h
    · cases e
  · -- a slice of a named block
    rename_i sz by' zz el n off len cap esz ht
    obtain ⟨inf, d, hf⟩ := hT t _ ht
    have hu := hf.slc rfl
    split at e
    case h_2 => cases e
    rename_i ti hti
    obtain ⟨inf2, d2, hf2⟩ := hT el ti hti
    split at e
    case isFalse => cases e
    rename_i hesz
    have hesz' : esz = ti.size := Nat.eq_of_beq_eq_true hesz
    subst hesz'
    cases hr with
    | slnil hn =>
      -- nil: all bounds are 0
      have key : ∀ {l hh m : Nat}, (Instr.sliceBounds true 0 0 vlo vhi vmx).run P w = .ok (l, hh, m) w → l = 0 → hh = 0 → m = 0 → (Instr.sliceAt t (.slice none 0 0) vlo vhi vmx).run P w = .ok (.slice none 0 0) w := by
        intro l hh m hb h1 h2 h3
        rw [slice_core hu hf2.info hf2.size hb, h1, h2, h3]; rfl
      split at e
      · cases e
        obtain ⟨k1, k2⟩ := plo_spec (hh := 0) (by omega) hp
        have h0 : lowN lo' = 0 := by omega
        refine ⟨_, key (sliceBounds_run Hlo Hhi Hmx (.inl ⟨rfl, rfl⟩) (.inl ⟨rfl, rfl, rfl⟩) k1) h0 rfl rfl, ?_⟩
        rw [h0]; exact .slnil hn
      · rename_i i
        cases e
        obtain ⟨p1, p2, p3⟩ := hp
        obtain ⟨k1, k2⟩ := plo_spec (hh := i.toNat) (by omega) p3
        have h0 : lowN lo' = 0 := by omega
        have h1 : i.toNat = 0 := by omega
        refine ⟨_, key (sliceBounds_run Hlo Hhi Hmx (.inl ⟨rfl, rfl⟩) (.inr ⟨i, rfl, p1, by omega, rfl⟩) k1) h0 h1 rfl, ?_⟩
        rw [h0, h1]; exact .slnil hn
      · rename_i i m
        cases e
        obtain ⟨q1, q2, p1, p2, p3⟩ := hp
        obtain ⟨k1, k2⟩ := plo_spec (hh := i.toNat) (by omega) p3
        have h0 : lowN lo' = 0 := by omega
        have h1 : i.toNat = 0 := by omega
        have h2 : m.toNat = 0 := by omega
        refine ⟨_, key (sliceBounds_run Hlo Hhi Hmx (.inr ⟨m, rfl, q1, by omega, rfl⟩) (.inr ⟨i, rfl, p1, by omega, rfl⟩) k1) h0 h1 h2, ?_⟩
        rw [h0, h1, h2]; exact .slnil hn
      · cases e
    | sl hn hl' hc ho hs =>
      rename_i cap' o
      split at e
      · cases e
        obtain ⟨k1, k2⟩ := plo_spec (hh := len) (by omega) hp
        refine ⟨_, slice_core hu hf2.info hf2.size (sliceBounds_run Hlo Hhi Hmx (.inl ⟨rfl, rfl⟩) (.inl ⟨rfl, rfl, rfl⟩) k1), ?_⟩
        exact sl_cut hn ho hs k2 (by omega) (Nat.le_refl _) hc rfl hl'
      · rename_i i
        cases e
        obtain ⟨p1, p2, p3⟩ := hp
        obtain ⟨k1, k2⟩ := plo_spec (hh := i.toNat) (by omega) p3
        refine ⟨_, slice_core hu hf2.info hf2.size (sliceBounds_run Hlo Hhi Hmx (.inl ⟨rfl, rfl⟩) (.inr ⟨i, rfl, p1, by omega, rfl⟩) k1), ?_⟩
        exact sl_cut hn ho hs k2 (by omega) (Nat.le_refl _) hc rfl (by omega)
      · rename_i i m
        cases e
        obtain ⟨q1, q2, p1, p2, p3⟩ := hp
        obtain ⟨k1, k2⟩ := plo_spec (hh := i.toNat) (by omega) p3
        refine ⟨_, slice_core hu hf2.info hf2.size (sliceBounds_run Hlo Hhi Hmx (.inr ⟨m, rfl, q1, by omega, rfl⟩) (.inr ⟨i, rfl, p1, by omega, rfl⟩) k1), ?_⟩
        exact sl_cut hn ho hs k2 (by omega) (by omega) (Nat.le_refl _) rfl (by omega)
      · cases e
  · -- a slice of frozen memory
    rename_i sz by' zz el nw cs len ht
    obtain ⟨inf, d, hf⟩ := hT t _ ht
    have hu := hf.slc rfl
    split at e
    case h_2 => cases e
    rename_i ti hti
    obtain ⟨inf2, d2, hf2⟩ := hT el ti hti
    cases hr with
    | fznil =>
      have key : ∀ {l hh m : Nat}, (Instr.sliceBounds true 0 0 vlo vhi vmx).run P w = .ok (l, hh, m) w → l = 0 → hh = 0 → m = 0 → (Instr.sliceAt t (.slice none 0 0) vlo vhi vmx).run P w = .ok (.slice none 0 0) w := by
        intro l hh m hb h1 h2 h3
        rw [slice_core hu hf2.info hf2.size hb, h1, h2, h3]; rfl
      have cut0 : ∀ q, lowCut lo' ti.size (([] : List IV).take q) = [] := fun q => by rw [lowN_cut]; simp
      split at e
      · cases e
        have hp' : AllP (plo lo' 0) := by
          cases lo' with
          | none => trivial
          | some l => exact ⟨hp.1, hp.2.1, trivial⟩
        obtain ⟨k1, k2⟩ := plo_spec (hh := 0) (by omega) hp'
        have h0 : lowN lo' = 0 := by omega
        refine ⟨_, key (sliceBounds_run Hlo Hhi Hmx (.inl ⟨rfl, rfl⟩) (.inl ⟨rfl, rfl, rfl⟩) k1) h0 rfl rfl, ?_⟩
        rw [h0, lowN_cut]; simpa using R.fznil
      · rename_i i
        cases e
        obtain ⟨p1, p2, p3⟩ := hp
        obtain ⟨k1, k2⟩ := plo_spec (hh := i.toNat) (by omega) p3
        have h0 : lowN lo' = 0 := by omega
        have h1 : i.toNat = 0 := by omega
        refine ⟨_, key (sliceBounds_run Hlo Hhi Hmx (.inl ⟨rfl, rfl⟩) (.inr ⟨i, rfl, p1, by omega, rfl⟩) k1) h0 h1 rfl, ?_⟩
        rw [cut0, h0, h1]; exact R.fznil
      · rename_i i m
        cases e
        obtain ⟨q1, q2, p1, p2, p3⟩ := hp
        obtain ⟨k1, k2⟩ := plo_spec (hh := i.toNat) (by omega) p3
        have h0 : lowN lo' = 0 := by omega
        have h1 : i.toNat = 0 := by omega
        refine ⟨_, key (sliceBounds_run Hlo Hhi Hmx (.inr ⟨m, rfl, q1, by omega, rfl⟩) (.inr ⟨i, rfl, p1, by omega, rfl⟩) k1) h0 h1 (by omega), ?_⟩
        rw [cut0, h0, h1]; exact R.fznil
      · cases e
    | fz0 =>
      rename_i a cap'
      have cut0 : ∀ q, lowCut lo' ti.size (([] : List IV).take q) = [] := fun q => by rw [lowN_cut]; simp
      have key : ∀ {l hh m : Nat}, (Instr.sliceBounds true 0 cap' vlo vhi vmx).run P w = .ok (l, hh, m) w → hh = l → ∃ v', (Instr.sliceAt t (.slice (some a) 0 cap') vlo vhi vmx).run P w = .ok v' w ∧ R F (.fz nw [] 0) v' := by
        intro l hh m hb h1
        refine ⟨_, slice_core hu hf2.info hf2.size hb, ?_⟩
        rw [h1, Nat.sub_self]
        split
        · exact .fz0
        · exact .fz0
      split at e
      · cases e
        have hp' : AllP (plo lo' 0) := by
          cases lo' with
          | none => trivial
          | some l => exact ⟨hp.1, hp.2.1, trivial⟩
        obtain ⟨k1, k2⟩ := plo_spec (hh := 0) (by omega) hp'
        have h0 : lowN lo' = 0 := by omega
        obtain ⟨v', q1, q2⟩ := key (sliceBounds_run Hlo Hhi Hmx (.inl ⟨rfl, rfl⟩) (.inl ⟨rfl, rfl, rfl⟩) k1) h0.symm
        refine ⟨v', q1, ?_⟩
        rw [h0, lowN_cut]; simpa using q2
      · rename_i i
        cases e
        obtain ⟨p1, p2, p3⟩ := hp
        obtain ⟨k1, k2⟩ := plo_spec (hh := i.toNat) (by omega) p3
        have h0 : lowN lo' = 0 := by omega
        have h1 : i.toNat = 0 := by omega
        obtain ⟨v', r1, r2⟩ := key (sliceBounds_run Hlo Hhi Hmx (.inl ⟨rfl, rfl⟩) (.inr ⟨i, rfl, p1, by omega, rfl⟩) k1) (by omega)
        refine ⟨v', r1, ?_⟩
        rw [cut0, h0, h1]; exact r2
      · rename_i i m
        cases e
        obtain ⟨q1, q2, p1, p2, p3⟩ := hp
        obtain ⟨k1, k2⟩ := plo_spec (hh := i.toNat) (by omega) p3
        have h0 : lowN lo' = 0 := by omega
        have h1 : i.toNat = 0 := by omega
        obtain ⟨v', r1, r2⟩ := key (sliceBounds_run Hlo Hhi Hmx (.inr ⟨m, rfl, q1, by omega, rfl⟩) (.inr ⟨i, rfl, p1, by omega, rfl⟩) k1) (by omega)
        refine ⟨v', r1, ?_⟩
        rw [cut0, h0, h1]; exact r2
      · cases e
    | fz hb hr hl hlc =>
      rename_i cap' b o vs
      split at e
      · cases e
        have hp' : AllP (plo lo' len) := by
          cases lo' with
          | none => trivial
          | some l => exact ⟨hp.1, hp.2.1, trivial⟩
        obtain ⟨k1, k2⟩ := plo_spec (hh := len) (by omega) hp'
        refine ⟨_, slice_core hu hf2.info hf2.size (sliceBounds_run Hlo Hhi Hmx (.inl ⟨rfl, rfl⟩) (.inl ⟨rfl, rfl, rfl⟩) k1), ?_⟩
        cases lo' with
        | none =>
          have : (if cap' = lowN none then some (⟨b, o, none⟩ : Addr) else (some (⟨b, o, none⟩ : Addr)).map (·.add (lowN none * ti.size))) = some ⟨b, o, none⟩ := by
            split
            · rfl
            · simp [Addr.add, lowN]
          rw [this]
          exact .fz hb hr hl (by omega)
        | some l =>
          have hcl : cs.length ≤ len * ti.size := hp.2.2.1
          have := fz_cut (k := ti.size) (l := l.toNat) (m := cap') hb hr hl k2 hlc cs.length (fun h => by rw [← h]; exact hcl)
          rw [List.take_length] at this
          exact this
      · rename_i i
        cases e
        obtain ⟨p1, p2, p3⟩ := hp
        obtain ⟨k1, k2⟩ := plo_spec (hh := i.toNat) (by omega) p3
        refine ⟨_, slice_core hu hf2.info hf2.size (sliceBounds_run Hlo Hhi Hmx (.inl ⟨rfl, rfl⟩) (.inr ⟨i, rfl, p1, by omega, rfl⟩) k1), ?_⟩
        rw [lowN_cut]
        exact fz_cut hb hr hl k2 (by omega) _ (fun h => by rw [h]; exact Nat.le_refl _)
      · rename_i i m
        cases e
        obtain ⟨q1, q2, p1, p2, p3⟩ := hp
        obtain ⟨k1, k2⟩ := plo_spec (hh := i.toNat) (by omega) p3
        refine ⟨_, slice_core hu hf2.info hf2.size (sliceBounds_run Hlo Hhi Hmx (.inr ⟨m, rfl, q1, by omega, rfl⟩) (.inr ⟨i, rfl, p1, by omega, rfl⟩) k1), ?_⟩
        rw [lowN_cut]
        exact fz_cut hb hr hl k2 (by omega) _ (fun h => by rw [h]; exact Nat.le_refl _)
      · cases e
  · -- the nil slice
    rename_i sz by' zz el ht
    obtain ⟨inf, d, hf⟩ := hT t _ ht
    have hu := hf.slc rfl
    cases hr
    have key : ∀ {l hh m : Nat}, (Instr.sliceBounds true 0 0 vlo vhi vmx).run P w = .ok (l, hh, m) w → l = 0 → hh = 0 → m = 0 → ∀ inf2, P.info? el = some inf2 → (Instr.sliceAt t (.slice none 0 0) vlo vhi vmx).run P w = .ok (.slice none 0 0) w := by
      intro l hh m hb h1 h2 h3 inf2 hi2
      rw [slice_core hu hi2 rfl hb, h1, h2, h3]; rfl
    split at e
    · rename_i ti hti
      obtain ⟨inf2, d2, hf2⟩ := hT el ti hti
      have hi2 := hf2.info
      cases e
      obtain ⟨k1, k2⟩ := plo_spec (hh := 0) (by omega) hp
      exact ⟨_, key (sliceBounds_run Hlo Hhi Hmx (.inl ⟨rfl, rfl⟩) (.inl ⟨rfl, rfl, rfl⟩) k1) (by omega) rfl rfl _ hi2, .sc _⟩
    · rename_i ti i hti
      obtain ⟨inf2, d2, hf2⟩ := hT el ti hti
      have hi2 := hf2.info
      cases e
      obtain ⟨p1, p3⟩ := hp
      obtain ⟨k1, k2⟩ := plo_spec (hh := i.toNat) (by omega) p3
      exact ⟨_, key (sliceBounds_run Hlo Hhi Hmx (.inl ⟨rfl, rfl⟩) (.inr ⟨i, rfl, by omega, by omega, rfl⟩) k1) (by omega) (by omega) rfl _ hi2, .sc _⟩
    · rename_i ti i m hti
      obtain ⟨inf2, d2, hf2⟩ := hT el ti hti
      have hi2 := hf2.info
      cases e
      obtain ⟨q1, p1, p3⟩ := hp
      obtain ⟨k1, k2⟩ := plo_spec (hh := i.toNat) (by omega) p3
      exact ⟨_, key (sliceBounds_run Hlo Hhi Hmx (.inr ⟨m, rfl, by omega, by omega, rfl⟩) (.inr ⟨i, rfl, by omega, by omega, rfl⟩) k1) (by omega) (by omega) (by omega) _ hi2, .sc _⟩
    · cases e
  · -- an array behind an address
    rename_i sz by' zz n el nm off ht
    obtain ⟨inf, d, hf⟩ := hT t _ ht
    have hu := hf.arr rfl
    split at e
    case h_2 => cases e
    rename_i ti cs hti hcs
    obtain ⟨inf2, d2, hf2⟩ := hT el ti hti
    have hsz : cs.length ≤ F.bsz nm := by
      rcases hI.read hcs with ⟨_, h2⟩ | ⟨vs, ty, lo, hi', pre, suf, h2, h3, h4, h5, h6⟩
      · subst h2; exact Nat.zero_le _
      · have := congrArg List.length h5; have := h6.length; simp at *; omega
    cases hr with
    | ptr hn =>
    have core : ∀ {l hh m : Nat}, (Instr.sliceBounds false n n vlo vhi vmx).run P w = .ok (l, hh, m) w →
        (Instr.sliceAt t (.pointer (some ⟨F.blk nm, off, none⟩)) vlo vhi vmx).run P w = .ok (.slice (if m = l then some ⟨F.blk nm, off, none⟩ else (some (⟨F.blk nm, off, none⟩ : Addr)).map (·.add (l * ti.size))) (hh - l) (m - l)) w := by
      intro l hh m hb
      simp only [Instr.sliceAt, Sem.run_bind, run_underlying hu, Result.andThen_ok, Instr.sureAddr, Sem.run_pure, hb, run_sizeOf hf2.info, hf2.size]
      split <;> rfl
    split at e
    · cases e
      obtain ⟨q, p⟩ := hp
      obtain ⟨k1, k2⟩ := plo_spec (hh := n) (by omega) p
      exact ⟨_, core (sliceBounds_run Hlo Hhi Hmx (.inl ⟨rfl, rfl⟩) (.inl ⟨rfl, rfl, rfl⟩) k1), sl_cut hn (fun _ => rfl) (Nat.le_trans q hsz) k2 (Nat.le_refl _) (Nat.le_refl _) (Nat.le_refl _) rfl (Nat.le_refl _)⟩
    · rename_i i
      cases e
      obtain ⟨q, p1, p2, p3⟩ := hp
      obtain ⟨k1, k2⟩ := plo_spec (hh := i.toNat) (by omega) p3
      exact ⟨_, core (sliceBounds_run Hlo Hhi Hmx (.inl ⟨rfl, rfl⟩) (.inr ⟨i, rfl, p1, by omega, rfl⟩) k1), sl_cut hn (fun _ => rfl) (Nat.le_trans q hsz) k2 (by omega) (Nat.le_refl _) (Nat.le_refl _) rfl (by omega)⟩
    · cases e
  · cases e

end
end Go.Idl
