/-
  Ideal states: what a function does (Spec); a call.
-/
import Derived.Test.YtmgcoopmbohkoaaIdlR
namespace Go.Idl
open Go

mutual
/-- All frozen memory in it is new. -/
def IV.fresh : IV → Bool
  | .fz b cs _ => b && IV.freshL cs
  | .fp b cs _ => b && IV.freshL cs
  | .agg cs => IV.freshL cs
  | .tup cs => IV.freshL cs
  | .fn _ a b => IV.freshL a && IV.freshL b
  | _ => true
def IV.freshL : List IV → Bool
  | [] => true
  | c :: cs => c.fresh && IV.freshL cs
end
def HO.fresh : HO → Bool
  | .arr _ cs => IV.freshL cs
  | .box cs => IV.freshL cs
  | _ => true

def Fix.news (F : Fix) : Fix := { F with rd := fun a => if F.base ≤ a.block then F.rd a else none }

theorem Rdl.news {F : Fix} {b o : Nat} {vs : List Value} (h : Rdl F.rd b o vs) (hb : vs ≠ [] → F.base ≤ b) : Rdl F.news.rd b o vs := fun j v hj => by
  show (if _ then _ else _) = _
  rw [if_pos (hb (fun e => by rw [e] at hj; simp at hj))]
  exact h j v hj

mutual
theorem R.news : ∀ {F : Fix} {c : IV} {v : Value}, c.fresh = true → R F c v → R F.news c v
  | _, _, _, _, .any v => .any v
  | _, _, _, _, .sc v => .sc v
  | _, _, _, h, .agg k => .agg (RL.news (by simpa [IV.fresh] using h) k)
  | _, _, _, h, .tup k => .tup (RL.news (by simpa [IV.fresh] using h) k)
  | _, _, _, _, .ptr (F := F) hn => .ptr (F := F.news) hn
  | _, _, _, _, .mp (F := F) hn => .mp (F := F.news) hn
  | _, _, _, h, .fp (F := F) hb hr k => by
    simp only [IV.fresh, Bool.and_eq_true] at h
    exact .fp (F := F.news) hb (hr.news (hb h.1)) (RL.news (F := { F with N := 0 }) h.2 k)
  | _, _, _, _, .sl (F := F) hn hl hc ho hs => .sl (F := F.news) hn hl hc ho hs
  | _, _, _, _, .slnil (F := F) hn => .slnil (F := F.news) hn
  | _, _, _, h, .fz (F := F) hb hr k hl => by
    simp only [IV.fresh, Bool.and_eq_true] at h
    exact .fz (F := F.news) hb (hr.news (hb h.1)) (RL.news (F := { F with N := 0 }) h.2 k) hl
  | _, _, _, _, .fznil => .fznil
  | _, _, _, _, .fz0 => .fz0
  | _, _, _, h, .fn h1 h2 => by
    simp only [IV.fresh, Bool.and_eq_true] at h
    exact .fn (RL.news h.1 h1) (RL.news h.2 h2)
theorem RL.news : ∀ {F : Fix} {cs : List IV} {vs : List Value}, IV.freshL cs = true → RL F cs vs → RL F.news cs vs
  | _, _, _, _, .nil => .nil
  | _, _, _, h, .cons k t => by
    simp only [IV.freshL, Bool.and_eq_true] at h
    exact .cons (R.news h.1 k) (RL.news h.2 t)
end

theorem OIn.news {F : Fix} {w : World} {n : Nat} {x : HO} (h : OIn F w n x) (hf : x.fresh = true) : OIn F.news w n x := by
  cases x with
  | dead => trivial
  | arr nw cells =>
    rcases h with h | ⟨vs, ty, lo, hi, k1, k2, k3, k4, p, s, k5, k6⟩
    · exact .inl h
    · exact .inr ⟨vs, ty, lo, hi, k1, k2, k3, k4, p, s, k5, RL.news (F := { F with N := 0 }) hf k6⟩
  | box cells =>
    rcases h with h | ⟨vs, ty, lo, hi, k1, k2, k3, p, s, k5, k6⟩
    · exact .inl h
    · exact .inr ⟨vs, ty, lo, hi, k1, k2, k3, p, s, k5, RL.news hf k6⟩
  | mp es c => exact h
  | it m a b c => exact h

/-- **What a call of function f does**: called with xs, over the named blocks h, it returns some y, over h', as K says; nothing else turns. -/
structure Spec (P : Program) (f : FuncId) (xs : List IV) (h : List HO) (K : IV → List HO → Prop) : Prop where
  call : ∀ args w, (callFunc f args).run P w = .ok (.enter f args) w
  fresh : ∀ y h', K y h' → y.fresh = true ∧ h'.all HO.fresh = true
  runs : ∀ F w vs, F.base ≤ w.heap.size → HIn F h w → RL F xs vs → Calls P f ⟨vs⟩ w fun e w' => ∃ v G y h', e = .returned v ∧ K y h' ∧ HStep F G h h' w w' ∧ R G y v

theorem Spec.mono {P : Program} {f : FuncId} {xs : List IV} {h : List HO} {K K' : IV → List HO → Prop} (s : Spec P f xs h K) (hk : ∀ y h', K y h' → K' y h') (hf : ∀ y h', K' y h' → y.fresh = true ∧ h'.all HO.fresh = true) : Spec P f xs h K' :=
  ⟨s.call, hf, fun F w vs a b c => (s.runs F w vs a b c).mono fun _ _ ⟨v, G, y, h', h1, h2, h3, h4⟩ => ⟨v, G, y, h', h1, hk y h' h2, h3, h4⟩⟩

/-! ### What a callee sees of its caller's values -/
mutual
def IV.relab : IV → IV
  | .agg cs => .agg (IV.relabL cs)
  | .tup cs => .tup (IV.relabL cs)
  | .fp _ cs o => .fp false (IV.relabL cs) o
  | .fz _ cs l => .fz false (IV.relabL cs) l
  | .fn f a b => .fn f (IV.relabL a) (IV.relabL b)
  | .any => .any
  | .sc v => .sc v
  | .ptr n o => .ptr n o
  | .mp n => .mp n
  | .sl n o l c e => .sl n o l c e
def IV.relabL : List IV → List IV
  | [] => []
  | c :: cs => c.relab :: IV.relabL cs
end

/-- A tie whose base may stand anywhere. -/
structure ExtN (F G : Fix) : Prop where
  N : F.N ≤ G.N
  rd : ∀ a v, F.rd a = some v → G.rd a = some v
  blk : ∀ n, n < F.N → G.blk n = F.blk n
  bsz : ∀ n, n < F.N → G.bsz n = F.bsz n

theorem ExtN.zero {F G : Fix} (h : ExtN F G) : ExtN { F with N := 0 } { G with N := 0 } := ⟨Nat.le_refl _, h.rd, fun n hn => absurd hn (Nat.not_lt_zero n), fun n hn => absurd hn (Nat.not_lt_zero n)⟩

mutual
theorem R.relab : ∀ {F G : Fix} {c : IV} {v : Value}, ExtN F G → R F c v → R G c.relab v
  | _, _, _, _, _, .any v => by simp only [IV.relab]; exact .any v
  | _, _, _, _, _, .sc v => by simp only [IV.relab]; exact .sc v
  | _, _, _, _, h, .agg k => by simp only [IV.relab]; exact .agg (RL.relab h k)
  | _, _, _, _, h, .tup k => by simp only [IV.relab]; exact .tup (RL.relab h k)
  | _, _, _, _, h, .ptr hn => by simp only [IV.relab]; rw [← h.blk _ hn]; exact .ptr (Nat.lt_of_lt_of_le hn h.N)
  | _, _, _, _, h, .mp hn => by simp only [IV.relab]; rw [← h.blk _ hn]; exact .mp (Nat.lt_of_lt_of_le hn h.N)
  | _, _, _, _, h, .fp _ hr k => by simp only [IV.relab]; exact .fp (fun e => by cases e) (fun j v e => h.rd _ _ (hr j v e)) (RL.relab h.zero k)
  | _, _, _, _, h, .sl hn hl hc ho hs => by simp only [IV.relab]; rw [← h.blk _ hn]; exact .sl (Nat.lt_of_lt_of_le hn h.N) hl hc ho (by rw [h.bsz _ hn]; exact hs)
  | _, _, _, _, h, .slnil hn => by simp only [IV.relab]; exact .slnil (Nat.lt_of_lt_of_le hn h.N)
  | _, _, _, _, h, .fz _ hr k hl => by simp only [IV.relab]; exact .fz (fun e => by cases e) (fun j v e => h.rd _ _ (hr j v e)) (RL.relab h.zero k) hl
  | _, _, _, _, _, .fznil => by simp only [IV.relab, IV.relabL]; exact .fznil
  | _, _, _, _, _, .fz0 => by simp only [IV.relab, IV.relabL]; exact .fz0
  | _, _, _, _, h, .fn h1 h2 => by simp only [IV.relab]; exact .fn (RL.relab h h1) (RL.relab h h2)
theorem RL.relab : ∀ {F G : Fix} {cs : List IV} {vs : List Value}, ExtN F G → RL F cs vs → RL G (IV.relabL cs) vs
  | _, _, _, _, _, .nil => by simp only [IV.relabL]; exact .nil
  | _, _, _, _, h, .cons k t => by simp only [IV.relabL]; exact .cons (R.relab h k) (RL.relab h t)
end

mutual
/-- A value of the caller's, as the callee sees it: the names of π go by their place in it; all else is frozen. -/
def vw (H : List HO) (π : List Nat) : IV → Option (List Prop × IV)
  | .any => some ([], .any)
  | .sc v => some ([], .sc v)
  | .agg cs => match vwL H π cs with | some (p, ds) => some (p, .agg ds) | none => none
  | .tup cs => match vwL H π cs with | some (p, ds) => some (p, .tup ds) | none => none
  | .mp n => match inv π n with | some j => some ([], .mp j) | none => none
  | .ptr n off =>
    match inv π n with
    | some j => some ([], .ptr j off)
    | none =>
      match hcells H n with
      | some cs => if isArr H n || IV.closedL cs then some ([], .fp false (IV.relabL cs) off) else none
      | none => none
  | .fp _ cs off => some ([], .fp false (IV.relabL cs) off)
  | .sl n off len cap esz =>
    match inv π n with
    | some j => some ([], .sl j off len cap esz)
    | none =>
      match hcells H n with
      | some cs => if isArr H n || IV.closedL ((cs.drop off).take (len * esz)) then some ([off + len * esz ≤ cs.length], .fz false (IV.relabL ((cs.drop off).take (len * esz))) len) else none
      | none => none
  | .fz _ cs len => some ([], .fz false (IV.relabL cs) len)
  | .fn f a b => match vwL H π a, vwL H π b with | some (p, c), some (q, d) => some (p ++ q, .fn f c d) | _, _ => none
def vwL (H : List HO) (π : List Nat) : List IV → Option (List Prop × List IV)
  | [] => some ([], [])
  | c :: cs => match vw H π c, vwL H π cs with | some (p, d), some (q, ds) => some (p ++ q, d :: ds) | _, _ => none
end

/-- What the caller knows of a callee's tie. -/
structure Small (F Fs : Fix) (H : List HO) (π : List Nat) (w : World) : Prop where
  hin : HIn F H w
  N : Fs.N = π.length
  blk : ∀ j n, π[j]? = some n → Fs.blk j = F.blk n ∧ Fs.bsz j = F.bsz n
  rd : ∀ a v, w.cell? a = some v → (∀ n, n ∈ π → F.bsz n ≠ 0 → a.block ≠ F.blk n) → Fs.rd a = some v
  lv : ∀ n, n ∈ π → live H n
  lt : ∀ n, n ∈ π → n < F.N

theorem Small.ext0 {F Fs : Fix} {H : List HO} {π : List Nat} {w : World} (h : Small F Fs H π w) : ExtN { F with N := 0 } { Fs with N := 0 } :=
  ⟨Nat.le_refl _, fun a v ha => h.rd a v (h.hin.rd a v ha) fun n hn hb => h.hin.dis n (h.lv n hn) hb a v ha, fun n hn => absurd hn (Nat.not_lt_zero n), fun n hn => absurd hn (Nat.not_lt_zero n)⟩

theorem Small.off {F Fs : Fix} {H : List HO} {π : List Nat} {w : World} (h : Small F Fs H π w) {n : Nat} (hl : live H n) (hb : F.bsz n ≠ 0) (hn : n ∉ π) {o : Nat} {v : Value} (hc : w.cell? ⟨F.blk n, o, none⟩ = some v) : Fs.rd ⟨F.blk n, o, none⟩ = some v :=
  h.rd _ _ hc fun m hm hbm e => hn (by rw [h.hin.inj n m hl (h.lv m hm) hb hbm e]; exact hm)

theorem hcells_live {H : List HO} {n : Nat} {cs : List IV} (e : hcells H n = some cs) : live H n := by
  obtain ⟨o, ho, h1 | ⟨b, h1⟩⟩ := hcells_get e <;> subst h1 <;> exact ⟨_, ho, by simp⟩

theorem inv_none {π : List Nat} {n : Nat} (h : inv π n = none) : n ∉ π := by
  have key : ∀ {π : List Nat} {i : Nat}, posOf π i n = none → n ∉ π := by
    intro π
    induction π with
    | nil => intro i _ hm; cases hm
    | cons x r ih =>
      intro i h
      unfold posOf at h
      cases hb : Nat.beq x n with
      | true => rw [hb] at h; cases h
      | false =>
        rw [hb] at h
        intro hm
        rcases List.mem_cons.1 hm with e | e
        · subst e; simp at hb
        · exact ih h e
  exact key h

theorem Small.cells {F Fs : Fix} {H : List HO} {π : List Nat} {w : World} (h : Small F Fs H π w) {n o k : Nat} {cs : List IV} (e : hcells H n = some cs) (hn : inv π n = none)
    (hs : (isArr H n || IV.closedL ((cs.drop o).take k)) = true) (hk : o + k ≤ cs.length) :
    ∃ us, us.length = k ∧ RL { Fs with N := 0 } (IV.relabL ((cs.drop o).take k)) us ∧ Rdl Fs.rd (F.blk n) o us := by
  obtain ⟨us, h1, h2, h3⟩ := h.hin.cells e o k hk
  have h4 : RL { F with N := 0 } ((cs.drop o).take k) us := by
    simp only [Bool.or_eq_true] at hs
    rcases hs with hs | hs
    · exact h.hin.cellsArr e hs h2 h3
    · exact RL.shut hs h2
  refine ⟨us, h1, RL.relab h.ext0 h4, fun j v hj => ?_⟩
  by_cases hb : F.bsz n = 0
  · exfalso
    rcases h.hin.read e with ⟨_, h5⟩ | ⟨vs, ty, lo, hi', pre, suf, q1, q2, q3, q4, q5⟩
    · subst h5; simp at hk; have := lt_of_get hj; omega
    · have := q5.length; have := congrArg List.length q4; simp at this; have := lt_of_get hj; omega
  · exact h.off (hcells_live e) hb (inv_none hn) (h3 j v hj)

mutual
theorem vw_sound {F Fs : Fix} {H : List HO} {π : List Nat} {w : World} (h : Small F Fs H π w) : ∀ {c x : IV} {v : Value} {ps : List Prop}, R F c v → vw H π c = some (ps, x) → AllP ps → R Fs x v
  | .any, _, _, _, _, e, _ => by simp only [vw] at e; cases e; exact .any _
  | .sc u, _, _, _, hr, e, _ => by simp only [vw] at e; cases e; cases hr; exact .sc _
  | .agg cs, _, _, _, hr, e, hp => by
    simp only [vw] at e
    split at e
    · cases e; cases hr with | agg k => exact .agg (vwL_sound h k (by assumption) hp)
    · cases e
  | .tup cs, _, _, _, hr, e, hp => by
    simp only [vw] at e
    split at e
    · cases e; cases hr with | tup k => exact .tup (vwL_sound h k (by assumption) hp)
    · cases e
  | .mp n, _, _, _, hr, e, hp => by
    simp only [vw] at e
    cases hr with
    | mp hn =>
    split at e
    · rename_i j hj
      cases e
      have hg := inv_get hj
      rw [← (h.blk j n hg).1]
      exact .mp (by rw [h.N]; exact lt_of_get hg)
    · cases e
  | .ptr n off, _, _, _, hr, e, hp => by
    simp only [vw] at e
    cases hr with
    | ptr hn =>
    split at e
    · rename_i j hj
      cases e
      have hg := inv_get hj
      rw [← (h.blk j n hg).1]
      exact .ptr (by rw [h.N]; exact lt_of_get hg)
    · rename_i hj
      split at e
      · rename_i cs hcs
        split at e
        · rename_i hs
          cases e
          have hs' : (isArr H n || IV.closedL ((cs.drop 0).take cs.length)) = true := by simpa using hs
          obtain ⟨us, k1, k2, k3⟩ := h.cells hcs hj hs' (by omega)
          rw [List.drop_zero, List.take_length] at k2
          have := R.fp (F := Fs) (new := false) (off := off) (fun e => by cases e) k3 k2
          rwa [Nat.zero_add] at this
        · cases e
      · cases e
  | .fp _ cs off, _, _, _, hr, e, _ => by
    simp only [vw] at e; cases e
    cases hr with
    | fp hb hrr k => exact .fp (fun e => by cases e) (fun j v hj => h.ext0.rd _ _ (hrr j v hj)) (RL.relab h.ext0 k)
  | .sl n off len cap esz, _, _, _, hr, e, hp => by
    simp only [vw] at e
    split at e
    · rename_i j hj
      cases e
      have hg := inv_get hj
      obtain ⟨b1, b2⟩ := h.blk j n hg
      cases hr with
      | sl hn hl hc ho hs => rw [← b1]; exact .sl (by rw [h.N]; exact lt_of_get hg) hl hc ho (by rw [b2]; exact hs)
      | slnil hn => exact .slnil (by rw [h.N]; exact lt_of_get hg)
    · rename_i hj
      split at e
      · rename_i cs hcs
        split at e
        · rename_i hs
          cases e
          obtain ⟨us, k1, k2, k3⟩ := h.cells hcs hj hs hp.1
          cases hr with
          | slnil hn =>
            have : (cs.drop off).take (0 * esz) = [] := by simp
            rw [this]; exact .fznil
          | sl hn hl hc ho hss =>
            rename_i cap' o
            by_cases h0 : 0 < cap'
            · have := ho h0; subst this
              exact .fz (fun e => by cases e) k3 k2 (Nat.le_trans hl hc)
            · have hl0 : len = 0 := by omega
              subst hl0
              have : (cs.drop off).take (0 * esz) = [] := by simp
              rw [this]
              exact .fz (vs := []) (fun e => by cases e) (fun j v hj => by simp at hj) .nil (Nat.zero_le _)
        · cases e
      · cases e
  | .fz _ cs len, _, _, _, hr, e, _ => by
    simp only [vw] at e; cases e
    cases hr with
    | fz hb hrr k hl => exact .fz (fun e => by cases e) (fun j v hj => h.ext0.rd _ _ (hrr j v hj)) (RL.relab h.ext0 k) hl
    | fznil => exact .fznil
    | fz0 => exact .fz0
  | .fn f a b, _, _, _, hr, e, hp => by
    simp only [vw] at e
    split at e
    · rename_i p c q d h1 h2
      cases e
      cases hr with
      | fn k1 k2 => exact .fn (vwL_sound h k1 h1 (AllP.append hp).1) (vwL_sound h k2 h2 (AllP.append hp).2)
    · cases e
theorem vwL_sound {F Fs : Fix} {H : List HO} {π : List Nat} {w : World} (h : Small F Fs H π w) : ∀ {cs xs : List IV} {vs : List Value} {ps : List Prop}, RL F cs vs → vwL H π cs = some (ps, xs) → AllP ps → RL Fs xs vs
  | [], _, _, _, hr, e, _ => by simp only [vwL] at e; cases e; cases hr; exact .nil
  | c :: cs, _, _, _, hr, e, hp => by
    simp only [vwL] at e
    split at e
    · rename_i p d q ds h1 h2
      cases e
      cases hr with
      | cons k1 k2 => exact .cons (vw_sound h k1 h1 (AllP.append hp).1) (vwL_sound h k2 h2 (AllP.append hp).2)
    · cases e
end

end Go.Idl
