/-
  A heap: rising and sinking.
-/
import Derived.Test.YtnlelckfhlcbgaaHeaA
namespace Go.Proofs.Ytnlelckfhlcbgaa
open Go Go.Idl
set_option linter.unusedSimpArgs false
set_option linter.unusedVariables false
set_option maxRecDepth 100000
set_option maxHeartbeats 1000000
attribute [local irreducible] Go.Idl.IWP Go.Idl.IOps Go.Idl.Obl Go.Idl.OpG Go.Idl.thenI Go.Idl.inBlockI Go.Idl.LoopU Go.Idl.noGotoI Go.Idl.jumpI
attribute [local go_sem] List.length_set
/-- All stand ahead of none of their parents. -/
def par (i : Nat) : Nat := (i - 1) / 4
def H4 (n : Nat) (L : List It) : Prop := ∀ i, 0 < i → i < n → lessI (gd L i) (gd L (par i)) = false
/-- All but those next to k. -/
def N4 (n k : Nat) (L : List It) : Prop := (∀ i, 0 < i → i < n → i ≠ k → par i ≠ k → lessI (gd L i) (gd L (par i)) = false) ∧ ∀ i, 0 < i → i < n → par i = k → 0 < k → lessI (gd L i) (gd L (par k)) = false
/-- All but k below its parent. -/
def U4 (n k : Nat) (L : List It) : Prop := (∀ i, 0 < i → i < n → i ≠ k → lessI (gd L i) (gd L (par i)) = false) ∧ ∀ i, 0 < i → i < n → par i = k → 0 < k → lessI (gd L i) (gd L (par k)) = false
/-- All but k's children below k. -/
def D4 (n k : Nat) (L : List It) : Prop := (∀ i, 0 < i → i < n → par i ≠ k → lessI (gd L i) (gd L (par i)) = false) ∧ ∀ i, 0 < i → i < n → par i = k → 0 < k → lessI (gd L i) (gd L (par k)) = false
theorem par_lt {k : Nat} (h : 0 < k) : par k < k := by unfold par; omega
theorem lessI_back {x y z : It} (h : lessI x y = true) (k : lessI z y = false) : lessI z x = false := by
  cases e : lessI z x
  · rfl
  · rw [lessI_lt e h] at k; cases k
theorem H4.down {n k : Nat} {L : List It} (hk : k < n) (h : H4 n L) : D4 n k L :=
  ⟨fun i h1 h2 _ => h i h1 h2, fun i h1 h2 h3 h4 => lessI_trans (h3 ▸ h i h1 h2) (h k h4 hk)⟩
theorem U4.done {n k : Nat} {L : List It} (h : U4 n k L) (hs : 0 < k → lessI (gd L k) (gd L (par k)) = false) : H4 n L := fun i h1 h2 => by
  by_cases e : i = k
  · subst e; exact hs h1
  · exact h.1 i h1 h2 e
theorem N4.down {n k : Nat} {L : List It} (h : N4 n k L) (hs : 0 < k → lessI (gd L k) (gd L (par k)) = false) : D4 n k L := ⟨fun i h1 h2 h3 => by
  by_cases e : i = k
  · subst e; exact hs h1
  · exact h.1 i h1 h2 e h3, h.2⟩
theorem U4.near {n k : Nat} {L : List It} (h : U4 n k L) : N4 n k L := ⟨fun i h1 h2 h3 _ => h.1 i h1 h2 h3, h.2⟩
/-- A step up. -/
theorem N4.up {n k : Nat} {L : List It} (h : N4 n k L) (hk : 0 < k) (hl : k < n) (hn : n ≤ L.length) (hs : lessI (gd L k) (gd L (par k)) = true) : U4 n (par k) (sw L k (par k)) := by
  have hp := par_lt hk
  have g : ∀ j, gd (sw L k (par k)) j = if j = par k then gd L k else if j = k then gd L (par k) else gd L j := fun j => gd_sw (by omega) (by omega)
  have hpp : ∀ i, 0 < i → par i < i := fun i => par_lt
  refine ⟨fun i h1 h2 h3 => ?_, fun i h1 h2 h3 h4 => ?_⟩
  · rw [g i, g (par i), if_neg h3]
    by_cases e : i = k
    · subst e
      rw [if_pos rfl, if_pos rfl]
      exact lessI_asym hs
    · rw [if_neg e]
      by_cases e2 : par i = par k
      · rw [if_pos e2]
        have := h.1 i h1 h2 e (by omega)
        rw [e2] at this
        exact lessI_back hs this
      · rw [if_neg e2]
        by_cases e3 : par i = k
        · rw [if_pos e3]; exact h.2 i h1 h2 e3 hk
        · rw [if_neg e3]; exact h.1 i h1 h2 e e3
  · have := hpp i h1; have hq := hpp _ h4
    have n1 : i ≠ par k := by rintro rfl; omega
    have m1 : par (par k) ≠ par k := by omega
    have m2 : par (par k) ≠ k := by omega
    rw [g i, if_neg n1, g (par (par k)), if_neg m1, if_neg m2]
    have hgp : lessI (gd L (par k)) (gd L (par (par k))) = false := h.1 (par k) h4 (by omega) (by omega) (by omega)
    by_cases e : i = k
    · rw [if_pos e]; exact hgp
    · rw [if_neg e]
      have := h.1 i h1 h2 e (by omega)
      rw [h3] at this
      exact lessI_trans this hgp
/-- A step down. -/
theorem D4.step {n k b : Nat} {L : List It} (h : D4 n k L) (hb0 : 0 < b) (hb : b < n) (hn : n ≤ L.length) (hbk : par b = k) (hs : lessI (gd L b) (gd L k) = true)
    (hm : ∀ i, 0 < i → i < n → par i = k → lessI (gd L i) (gd L b) = false) : D4 n b (sw L k b) := by
  have hp := par_lt hb0
  have hpp : ∀ i, 0 < i → par i < i := fun i => par_lt
  have g : ∀ j, gd (sw L k b) j = if j = b then gd L k else if j = k then gd L b else gd L j := fun j => gd_sw (by omega) (by omega)
  refine ⟨fun i h1 h2 h3 => ?_, fun i h1 h2 h3 h4 => ?_⟩
  · have := hpp i h1
    rw [g i, g (par i), if_neg h3]
    by_cases e : i = b
    · subst e
      rw [if_pos rfl, if_pos hbk]
      exact lessI_asym hs
    · rw [if_neg e]
      by_cases e2 : par i = k
      · rw [if_pos e2, if_neg (by omega)]
        exact hm i h1 h2 e2
      · rw [if_neg e2]
        by_cases e3 : i = k
        · subst e3
          rw [if_pos rfl]
          exact h.2 b hb0 hb hbk h1
        · rw [if_neg e3]; exact h.1 i h1 h2 e2
  · have := hpp i h1
    rw [g i, g (par b), if_neg (by omega), if_neg (by omega), if_neg (by omega), if_pos hbk]
    have := h.1 i h1 h2 (by omega)
    rwa [h3] at this
theorem D4.done {n k : Nat} {L : List It} (h : D4 n k L) (hm : ∀ i, 0 < i → i < n → par i = k → lessI (gd L i) (gd L k) = false) : H4 n L := fun i h1 h2 => by
  by_cases e : par i = k
  · rw [e]; exact hm i h1 h2 e
  · exact h.1 i h1 h2 e
theorem sw_out {L : List It} {i j k : Nat} (hi : i < L.length) (hj : j < L.length) (h1 : k ≠ i) (h2 : k ≠ j) : gd (sw L i j) k = gd L k := by
  rw [gd_sw hi hj, if_neg h2, if_neg h1]
theorem rise_spec (L : List It) (n k cap : Nat) (hk : k < n) (hn : n ≤ L.length) (hL : L.length ≤ 1000) (hN : N4 n k L) : Idl.Spec Try.prog 63 [.sl 0 0 n cap 3, .i64 k] [.arr false (items L)]
    (Ex (fun M : List It => (M.Perm L ∧ ∀ i, n ≤ i → gd M i = gd L i) ∧ D4 n k M) (fun _ => .tup []) (fun M => [.arr false (items M)])) := by
  refine sE Try.func63 Try.ntmps63 ?_
  refine IWP_jumps 0 rfl (fun x : List It × Nat => ⟨35, [(0, .sl 0 0 n cap 3), (1, .i64 x.2)], [.arr false (items x.1)]⟩) (fun x => x.1.length = L.length ∧ (x.1.Perm L ∧ ∀ i, n ≤ i → gd x.1 i = gd L i) ∧ x.2 < n ∧ U4 n x.2 x.1) (fun x => x.2) ?_ ?_
  · by_cases h0 : 0 < k
    · have hp := par_lt h0
      by_cases hs : lessI (gd L k) (gd L ((k - 1) / 4)) = true
      · have hl := less_spec (gd L k) (gd L ((k - 1) / 4))
        rw [hs] at hl
        repeat' (first
          | refine IOps_nil ?_
          | refine oS ?_
          | refine IOps_s rfl rfl ?_
          | refine oT ?_
          | refine IOps_s0 rfl ?_
          | refine oC (π := []) (hs := by first | exact parent_spec _ (by omega) | fail) (hx := ?_)
          | refine oC (π := []) (hs := by first | exact hl | fail) (hx := ?_)
          | refine oZ ?_
          | refine oI ?_
          | refine thenI_n ?_
          | refine IWP_seq ?_
          | refine IWP_region ?_
          | refine IWP_ct rfl ?_
          | refine IWP_cf rfl ?_
          | refine IWP_skip ?_
          | refine IWP_ret ?_
          | refine IWP_block ?_
          | refine inB_n ?_
          | refine thenI_r ?_
          | refine thenI_e ?_
          | refine inB_r ?_
          | refine inB_hit ?_
          | refine inB_miss rfl ?_
          | refine IWP_exit ?_
          | refine IWP_scope ?_
          | refine IWP_label ?_
          | refine noG_n ?_
          | refine noG_r ?_
          | refine noG_e ?_
          | refine jmp_n ?_
          | refine jmp_r ?_
          | refine jmp_e ?_
          | refine jmp_g ?_
          | refine thenI_g ?_
          | refine inB_g ?_
          | refine IWP_goto ?_
          | refine Loop_n ?_
          | refine oD (id := 1) W63_1 [] O63_1 [_, _, _, _, _, _, _, _, _, _, _, _, _] [_] rfl (by repeat' (first | exact trivial | refine And.intro ?_ ?_ | exact bS | exact bX | exact bZ | exact bI | exact bC (π := []) (hs := by first | exact parent_spec _ (by omega) | fail) | exact bC (π := []) (hs := by first | exact hl | fail) | fail)) ?_
          | refine oD (id := 2) W63_2 [13, 15] O63_2 [_, _, _, _, _, _, _, _, _, _, _, _, _, _, _, _] [_, _, _] rfl (by repeat' (first | exact trivial | refine And.intro ?_ ?_ | exact bS | exact bX | exact bZ | exact bI | exact bC (π := []) (hs := by first | exact parent_spec _ (by omega) | fail) | exact bC (π := []) (hs := by first | exact hl | fail) | fail)) ?_
          | fail)
        exact ⟨(sw L k (par k), par k), ⟨sw_length _ _ _, ⟨sw_perm (by omega) (by omega), fun i hi => sw_out (by omega) (by omega) (by omega) (by omega)⟩, by simp only; omega, hN.up h0 hk hn hs⟩, lP [0]⟩
      · replace hs : lessI (gd L k) (gd L ((k - 1) / 4)) = false := by simpa using hs
        have hl := less_spec (gd L k) (gd L ((k - 1) / 4))
        rw [hs] at hl
        repeat' (first
          | refine IOps_nil ?_
          | refine oS ?_
          | refine IOps_s rfl rfl ?_
          | refine oT ?_
          | refine IOps_s0 rfl ?_
          | refine oC (π := []) (hs := by first | exact parent_spec _ (by omega) | fail) (hx := ?_)
          | refine oC (π := []) (hs := by first | exact hl | fail) (hx := ?_)
          | refine oZ ?_
          | refine oI ?_
          | refine thenI_n ?_
          | refine IWP_seq ?_
          | refine IWP_region ?_
          | refine IWP_ct rfl ?_
          | refine IWP_cf rfl ?_
          | refine IWP_skip ?_
          | refine IWP_ret ?_
          | refine IWP_block ?_
          | refine inB_n ?_
          | refine thenI_r ?_
          | refine thenI_e ?_
          | refine inB_r ?_
          | refine inB_hit ?_
          | refine inB_miss rfl ?_
          | refine IWP_exit ?_
          | refine IWP_scope ?_
          | refine IWP_label ?_
          | refine noG_n ?_
          | refine noG_r ?_
          | refine noG_e ?_
          | refine jmp_n ?_
          | refine jmp_r ?_
          | refine jmp_e ?_
          | refine jmp_g ?_
          | refine thenI_g ?_
          | refine inB_g ?_
          | refine IWP_goto ?_
          | refine Loop_n ?_
          | refine oD (id := 1) W63_1 [] O63_1 [_, _, _, _, _, _, _, _, _, _, _, _, _] [_] rfl (by repeat' (first | exact trivial | refine And.intro ?_ ?_ | exact bS | exact bX | exact bZ | exact bI | exact bC (π := []) (hs := by first | exact parent_spec _ (by omega) | fail) | exact bC (π := []) (hs := by first | exact hl | fail) | fail)) ?_
          | refine oD (id := 2) W63_2 [13, 15] O63_2 [_, _, _, _, _, _, _, _, _, _, _, _, _, _, _, _] [_, _, _] rfl (by repeat' (first | exact trivial | refine And.intro ?_ ?_ | exact bS | exact bX | exact bZ | exact bI | exact bC (π := []) (hs := by first | exact parent_spec _ (by omega) | fail) | exact bC (π := []) (hs := by first | exact hl | fail) | fail)) ?_
          | fail)
        exact pX [0] L ⟨⟨.refl _, fun _ _ => rfl⟩, hN.down fun _ => hs⟩ rfl
    · repeat' (first
        | refine IOps_nil ?_
        | refine oS ?_
        | refine IOps_s rfl rfl ?_
        | refine oT ?_
        | refine IOps_s0 rfl ?_
        | refine oC (π := []) (hs := by first | exact parent_spec _ (by omega) | fail) (hx := ?_)
        | refine oZ ?_
        | refine oI ?_
        | refine thenI_n ?_
        | refine IWP_seq ?_
        | refine IWP_region ?_
        | refine IWP_ct rfl ?_
        | refine IWP_cf rfl ?_
        | refine IWP_skip ?_
        | refine IWP_ret ?_
        | refine IWP_block ?_
        | refine inB_n ?_
        | refine thenI_r ?_
        | refine thenI_e ?_
        | refine inB_r ?_
        | refine inB_hit ?_
        | refine inB_miss rfl ?_
        | refine IWP_exit ?_
        | refine IWP_scope ?_
        | refine IWP_label ?_
        | refine noG_n ?_
        | refine noG_r ?_
        | refine noG_e ?_
        | refine jmp_n ?_
        | refine jmp_r ?_
        | refine jmp_e ?_
        | refine jmp_g ?_
        | refine thenI_g ?_
        | refine inB_g ?_
        | refine IWP_goto ?_
        | refine Loop_n ?_
        | refine oD (id := 1) W63_1 [] O63_1 [_, _, _, _, _, _, _, _, _, _, _, _, _] [_] rfl (by repeat' (first | exact trivial | refine And.intro ?_ ?_ | exact bS | exact bX | exact bZ | exact bI | exact bC (π := []) (hs := by first | exact parent_spec _ (by omega) | fail) | fail)) ?_
        | refine oD (id := 2) W63_2 [13, 15] O63_2 [_, _, _, _, _, _, _, _, _, _, _, _, _, _, _, _] [_, _, _] rfl (by repeat' (first | exact trivial | refine And.intro ?_ ?_ | exact bS | exact bX | exact bZ | exact bI | exact bC (π := []) (hs := by first | exact parent_spec _ (by omega) | fail) | fail)) ?_
        | fail)
      exact pX [0] L ⟨⟨.refl _, fun _ _ => rfl⟩, hN.down fun h => absurd h h0⟩ rfl
  · rintro ⟨M, j⟩ ⟨hlen, hM, hj, hU⟩
    simp only at hlen hM hj hU ⊢
    by_cases h0 : 0 < j
    · have hp := par_lt h0
      by_cases hs : lessI (gd M j) (gd M ((j - 1) / 4)) = true
      · have hl := less_spec (gd M j) (gd M ((j - 1) / 4))
        rw [hs] at hl
        repeat' (first
          | refine IOps_nil ?_
          | refine oS ?_
          | refine IOps_s rfl rfl ?_
          | refine oT ?_
          | refine IOps_s0 rfl ?_
          | refine oC (π := []) (hs := by first | exact parent_spec _ (by omega) | fail) (hx := ?_)
          | refine oC (π := []) (hs := by first | exact hl | fail) (hx := ?_)
          | refine oZ ?_
          | refine oI ?_
          | refine thenI_n ?_
          | refine IWP_seq ?_
          | refine IWP_region ?_
          | refine IWP_ct rfl ?_
          | refine IWP_cf rfl ?_
          | refine IWP_skip ?_
          | refine IWP_ret ?_
          | refine IWP_block ?_
          | refine inB_n ?_
          | refine thenI_r ?_
          | refine thenI_e ?_
          | refine inB_r ?_
          | refine inB_hit ?_
          | refine inB_miss rfl ?_
          | refine IWP_exit ?_
          | refine IWP_scope ?_
          | refine IWP_label ?_
          | refine noG_n ?_
          | refine noG_r ?_
          | refine noG_e ?_
          | refine jmp_n ?_
          | refine jmp_r ?_
          | refine jmp_e ?_
          | refine jmp_g ?_
          | refine thenI_g ?_
          | refine inB_g ?_
          | refine IWP_goto ?_
          | refine Loop_n ?_
          | refine oD (id := 1) W63_1 [] O63_1 [_, _, _, _, _, _, _, _, _, _, _, _, _] [_] rfl (by repeat' (first | exact trivial | refine And.intro ?_ ?_ | exact bS | exact bX | exact bZ | exact bI | exact bC (π := []) (hs := by first | exact parent_spec _ (by omega) | fail) | exact bC (π := []) (hs := by first | exact hl | fail) | fail)) ?_
          | refine oD (id := 2) W63_2 [13, 15] O63_2 [_, _, _, _, _, _, _, _, _, _, _, _, _, _, _, _] [_, _, _] rfl (by repeat' (first | exact trivial | refine And.intro ?_ ?_ | exact bS | exact bX | exact bZ | exact bI | exact bC (π := []) (hs := by first | exact parent_spec _ (by omega) | fail) | exact bC (π := []) (hs := by first | exact hl | fail) | fail)) ?_
          | fail)
        exact ⟨(sw M j (par j), par j), ⟨(sw_length _ _ _).trans hlen, ⟨(sw_perm (by omega) (by omega)).trans hM.1, fun i hi => (sw_out (by omega) (by omega) (by omega) (by omega)).trans (hM.2 i hi)⟩, by simp only; omega, hU.near.up h0 (by omega) (by omega) hs⟩, hp, lP [0]⟩
      · replace hs : lessI (gd M j) (gd M ((j - 1) / 4)) = false := by simpa using hs
        have hl := less_spec (gd M j) (gd M ((j - 1) / 4))
        rw [hs] at hl
        repeat' (first
          | refine IOps_nil ?_
          | refine oS ?_
          | refine IOps_s rfl rfl ?_
          | refine oT ?_
          | refine IOps_s0 rfl ?_
          | refine oC (π := []) (hs := by first | exact parent_spec _ (by omega) | fail) (hx := ?_)
          | refine oC (π := []) (hs := by first | exact hl | fail) (hx := ?_)
          | refine oZ ?_
          | refine oI ?_
          | refine thenI_n ?_
          | refine IWP_seq ?_
          | refine IWP_region ?_
          | refine IWP_ct rfl ?_
          | refine IWP_cf rfl ?_
          | refine IWP_skip ?_
          | refine IWP_ret ?_
          | refine IWP_block ?_
          | refine inB_n ?_
          | refine thenI_r ?_
          | refine thenI_e ?_
          | refine inB_r ?_
          | refine inB_hit ?_
          | refine inB_miss rfl ?_
          | refine IWP_exit ?_
          | refine IWP_scope ?_
          | refine IWP_label ?_
          | refine noG_n ?_
          | refine noG_r ?_
          | refine noG_e ?_
          | refine jmp_n ?_
          | refine jmp_r ?_
          | refine jmp_e ?_
          | refine jmp_g ?_
          | refine thenI_g ?_
          | refine inB_g ?_
          | refine IWP_goto ?_
          | refine Loop_n ?_
          | refine oD (id := 1) W63_1 [] O63_1 [_, _, _, _, _, _, _, _, _, _, _, _, _] [_] rfl (by repeat' (first | exact trivial | refine And.intro ?_ ?_ | exact bS | exact bX | exact bZ | exact bI | exact bC (π := []) (hs := by first | exact parent_spec _ (by omega) | fail) | exact bC (π := []) (hs := by first | exact hl | fail) | fail)) ?_
          | refine oD (id := 2) W63_2 [13, 15] O63_2 [_, _, _, _, _, _, _, _, _, _, _, _, _, _, _, _] [_, _, _] rfl (by repeat' (first | exact trivial | refine And.intro ?_ ?_ | exact bS | exact bX | exact bZ | exact bI | exact bC (π := []) (hs := by first | exact parent_spec _ (by omega) | fail) | exact bC (π := []) (hs := by first | exact hl | fail) | fail)) ?_
          | fail)
        exact pX [0] M ⟨hM, H4.down (by omega) (hU.done fun _ => hs)⟩ rfl
    · repeat' (first
        | refine IOps_nil ?_
        | refine oS ?_
        | refine IOps_s rfl rfl ?_
        | refine oT ?_
        | refine IOps_s0 rfl ?_
        | refine oC (π := []) (hs := by first | exact parent_spec _ (by omega) | fail) (hx := ?_)
        | refine oZ ?_
        | refine oI ?_
        | refine thenI_n ?_
        | refine IWP_seq ?_
        | refine IWP_region ?_
        | refine IWP_ct rfl ?_
        | refine IWP_cf rfl ?_
        | refine IWP_skip ?_
        | refine IWP_ret ?_
        | refine IWP_block ?_
        | refine inB_n ?_
        | refine thenI_r ?_
        | refine thenI_e ?_
        | refine inB_r ?_
        | refine inB_hit ?_
        | refine inB_miss rfl ?_
        | refine IWP_exit ?_
        | refine IWP_scope ?_
        | refine IWP_label ?_
        | refine noG_n ?_
        | refine noG_r ?_
        | refine noG_e ?_
        | refine jmp_n ?_
        | refine jmp_r ?_
        | refine jmp_e ?_
        | refine jmp_g ?_
        | refine thenI_g ?_
        | refine inB_g ?_
        | refine IWP_goto ?_
        | refine Loop_n ?_
        | refine oD (id := 1) W63_1 [] O63_1 [_, _, _, _, _, _, _, _, _, _, _, _, _] [_] rfl (by repeat' (first | exact trivial | refine And.intro ?_ ?_ | exact bS | exact bX | exact bZ | exact bI | exact bC (π := []) (hs := by first | exact parent_spec _ (by omega) | fail) | fail)) ?_
        | refine oD (id := 2) W63_2 [13, 15] O63_2 [_, _, _, _, _, _, _, _, _, _, _, _, _, _, _, _] [_, _, _] rfl (by repeat' (first | exact trivial | refine And.intro ?_ ?_ | exact bS | exact bX | exact bZ | exact bI | exact bC (π := []) (hs := by first | exact parent_spec _ (by omega) | fail) | fail)) ?_
        | fail)
      exact pX [0] M ⟨hM, H4.down (by omega) (hU.done fun h => absurd h h0)⟩ rfl
theorem sink_spec (L : List It) (n k cap : Nat) (hk : k < n) (hn : n ≤ L.length) (hL : L.length ≤ 1000) (hN : D4 n k L) : Idl.Spec Try.prog 64 [.sl 0 0 n cap 3, .i64 k] [.arr false (items L)]
    (Ex (fun M : List It => (M.Perm L ∧ ∀ i, n ≤ i → gd M i = gd L i) ∧ H4 n M) (fun _ => .tup []) (fun M => [.arr false (items M)])) := by
  refine sE Try.func64 Try.ntmps64 ?_
  repeat' (first
    | refine IOps_nil ?_
    | refine oS ?_
    | refine IOps_s rfl rfl ?_
    | refine oT ?_
    | refine IOps_s0 rfl ?_
    | refine oC (π := []) (hs := by first | exact less_spec _ _ | fail) (hx := ?_)
    | refine oZ ?_
    | refine oI ?_
    | refine thenI_n ?_
    | refine IWP_seq ?_
    | refine IWP_region ?_
    | refine IWP_ct rfl ?_
    | refine IWP_cf rfl ?_
    | refine IWP_skip ?_
    | refine IWP_ret ?_
    | refine IWP_block ?_
    | refine inB_n ?_
    | refine thenI_r ?_
    | refine thenI_e ?_
    | refine inB_r ?_
    | refine inB_hit ?_
    | refine inB_miss rfl ?_
    | refine IWP_exit ?_
    | refine IWP_scope ?_
    | refine IWP_label ?_
    | refine noG_n ?_
    | refine noG_r ?_
    | refine noG_e ?_
    | refine jmp_n ?_
    | refine jmp_r ?_
    | refine jmp_e ?_
    | refine jmp_g ?_
    | refine thenI_g ?_
    | refine inB_g ?_
    | refine IWP_goto ?_
    | refine Loop_n ?_
    | refine oD (id := 4) W64_4 [] O64_4 [_, _, _, _, _, _, _, _, _] [_] rfl (by repeat' (first | exact trivial | refine And.intro ?_ ?_ | exact bS | exact bX | exact bZ | exact bI | exact bC (π := []) (hs := by first | exact less_spec _ _ | fail) | fail)) ?_
    | refine oD (id := 7) W64_7 [13, 15] O64_7 [_, _, _, _, _, _, _, _, _, _, _, _, _, _, _, _] [_, _, _] rfl (by repeat' (first | exact trivial | refine And.intro ?_ ?_ | exact bS | exact bX | exact bZ | exact bI | exact bC (π := []) (hs := by first | exact less_spec _ _ | fail) | fail)) ?_
    | fail)
  refine IWP_loop (fun x : List It × Nat => ⟨51, [(0, .sl 0 0 n cap 3), (1, .i64 x.2)], [.arr false (items x.1)]⟩) (fun x => x.1.length = L.length ∧ (x.1.Perm L ∧ ∀ i, n ≤ i → gd x.1 i = gd L i) ∧ x.2 < n ∧ D4 n x.2 x.1) (fun x => n - x.2) (L, k) (lP [0]) ⟨rfl, ⟨.refl _, fun _ _ => rfl⟩, hk, hN⟩ ?_
  rintro ⟨M, j⟩ ⟨hlen, hM, hj, hD⟩
  simp only at hlen hM hj hD ⊢
  repeat' (first
    | refine IOps_nil ?_
    | refine oS ?_
    | refine IOps_s rfl rfl ?_
    | refine oT ?_
    | refine IOps_s0 rfl ?_
    | refine oC (π := []) (hs := by first | exact less_spec _ _ | fail) (hx := ?_)
    | refine oZ ?_
    | refine oI ?_
    | refine thenI_n ?_
    | refine IWP_seq ?_
    | refine IWP_region ?_
    | refine IWP_ct rfl ?_
    | refine IWP_cf rfl ?_
    | refine IWP_skip ?_
    | refine IWP_ret ?_
    | refine IWP_block ?_
    | refine inB_n ?_
    | refine thenI_r ?_
    | refine thenI_e ?_
    | refine inB_r ?_
    | refine inB_hit ?_
    | refine inB_miss rfl ?_
    | refine IWP_exit ?_
    | refine IWP_scope ?_
    | refine IWP_label ?_
    | refine noG_n ?_
    | refine noG_r ?_
    | refine noG_e ?_
    | refine jmp_n ?_
    | refine jmp_r ?_
    | refine jmp_e ?_
    | refine jmp_g ?_
    | refine thenI_g ?_
    | refine inB_g ?_
    | refine IWP_goto ?_
    | refine Loop_n ?_
    | refine oD (id := 4) W64_4 [] O64_4 [_, _, _, _, _, _, _, _, _] [_] rfl (by repeat' (first | exact trivial | refine And.intro ?_ ?_ | exact bS | exact bX | exact bZ | exact bI | exact bC (π := []) (hs := by first | exact less_spec _ _ | fail) | fail)) ?_
    | refine oD (id := 7) W64_7 [13, 15] O64_7 [_, _, _, _, _, _, _, _, _, _, _, _, _, _, _, _] [_, _, _] rfl (by repeat' (first | exact trivial | refine And.intro ?_ ?_ | exact bS | exact bX | exact bZ | exact bI | exact bC (π := []) (hs := by first | exact less_spec _ _ | fail) | fail)) ?_
    | fail)
  refine IWP_loop (fun x : Nat × Nat => ⟨51, [(0, .sl 0 0 n cap 3), (1, .i64 j), (4, .i64 x.1), (5, .i64 x.2)], [.arr false (items M)]⟩)
    (fun x => (x.1 = j ∨ (par x.1 = j ∧ 0 < x.1 ∧ lessI (gd M x.1) (gd M j) = true)) ∧ x.1 < n ∧ 4 * j + 1 ≤ x.2 ∧ x.2 ≤ 4 * j + 5 ∧ ∀ i, (i = j ∨ (4 * j + 1 ≤ i ∧ i < x.2)) → lessI (gd M i) (gd M x.1) = false) (fun x => 4 * j + 5 - x.2) (j, 4 * j + 1) (lP [0])
    ⟨.inl rfl, hj, by simp, by simp, fun i h => by obtain rfl | h := h; exact lessI_irr _; exact absurd h.2 (by simp only; omega)⟩ ?_
  rintro ⟨b, q⟩ ⟨hb, hbl, hq1, hq2, hb2⟩
  simp only at hb hbl hq1 hq2 hb2 ⊢
  have fin : (4 * j + 4 < q ∨ n ≤ q) → ∀ i, 0 < i → i < n → par i = j → lessI (gd M i) (gd M b) = false := fun h i h1 h2 h3 => hb2 i (.inr (by unfold par at h3; omega))
  have stop : (4 * j + 4 < q ∨ n ≤ q) → b = j → H4 n M := fun h e => hD.done fun i h1 h2 h3 => e ▸ fin h i h1 h2 h3
  have go : (4 * j + 4 < q ∨ n ≤ q) → b ≠ j → j < b ∧ D4 n b (sw M j b) := fun h e => by
    obtain ⟨h1, h2, h3⟩ := hb.resolve_left e
    have hlt := par_lt h2
    exact ⟨by omega, hD.step h2 (by omega) (by omega) h1 h3 (fin h)⟩
  by_cases hk1 : q ≤ 4 * j + 4
  · by_cases hk2 : q < n
    · by_cases hs : lessI (gd M q) (gd M b) = true
      · have hl := less_spec (gd M q) (gd M b)
        rw [hs] at hl
        repeat' (first
          | refine IOps_nil ?_
          | refine oS ?_
          | refine IOps_s rfl rfl ?_
          | refine oT ?_
          | refine IOps_s0 rfl ?_
          | refine oC (π := []) (hs := by first | exact hl | fail) (hx := ?_)
          | refine oZ ?_
          | refine oI ?_
          | refine thenI_n ?_
          | refine IWP_seq ?_
          | refine IWP_region ?_
          | refine IWP_ct rfl ?_
          | refine IWP_cf rfl ?_
          | refine IWP_skip ?_
          | refine IWP_ret ?_
          | refine IWP_block ?_
          | refine inB_n ?_
          | refine thenI_r ?_
          | refine thenI_e ?_
          | refine inB_r ?_
          | refine inB_hit ?_
          | refine inB_miss rfl ?_
          | refine IWP_exit ?_
          | refine IWP_scope ?_
          | refine IWP_label ?_
          | refine noG_n ?_
          | refine noG_r ?_
          | refine noG_e ?_
          | refine jmp_n ?_
          | refine jmp_r ?_
          | refine jmp_e ?_
          | refine jmp_g ?_
          | refine thenI_g ?_
          | refine inB_g ?_
          | refine IWP_goto ?_
          | refine Loop_n ?_
          | refine oD (id := 4) W64_4 [] O64_4 [_, _, _, _, _, _, _, _, _] [_] rfl (by repeat' (first | exact trivial | refine And.intro ?_ ?_ | exact bS | exact bX | exact bZ | exact bI | exact bC (π := []) (hs := by first | exact hl | fail) | fail)) ?_
          | refine oD (id := 7) W64_7 [13, 15] O64_7 [_, _, _, _, _, _, _, _, _, _, _, _, _, _, _, _] [_, _, _] rfl (by repeat' (first | exact trivial | refine And.intro ?_ ?_ | exact bS | exact bX | exact bZ | exact bI | exact bC (π := []) (hs := by first | exact hl | fail) | fail)) ?_
          | fail)
        exact ⟨(q, q + 1), ⟨.inr ⟨by unfold par; simp only; omega, by simp only; omega, by obtain h | h := hb; exact h ▸ hs; exact lessI_lt hs h.2.2⟩, by simp only; omega, by simp only; omega, by simp only; omega, fun i h => by
          simp only at h ⊢
          by_cases e : i = q
          · subst e; exact lessI_irr _
          · exact lessI_trans (hb2 i (by omega)) (lessI_asym hs)⟩, by simp only; omega, lP [0]⟩
      · replace hs : lessI (gd M q) (gd M b) = false := by simpa using hs
        have hl := less_spec (gd M q) (gd M b)
        rw [hs] at hl
        repeat' (first
          | refine IOps_nil ?_
          | refine oS ?_
          | refine IOps_s rfl rfl ?_
          | refine oT ?_
          | refine IOps_s0 rfl ?_
          | refine oC (π := []) (hs := by first | exact hl | fail) (hx := ?_)
          | refine oZ ?_
          | refine oI ?_
          | refine thenI_n ?_
          | refine IWP_seq ?_
          | refine IWP_region ?_
          | refine IWP_ct rfl ?_
          | refine IWP_cf rfl ?_
          | refine IWP_skip ?_
          | refine IWP_ret ?_
          | refine IWP_block ?_
          | refine inB_n ?_
          | refine thenI_r ?_
          | refine thenI_e ?_
          | refine inB_r ?_
          | refine inB_hit ?_
          | refine inB_miss rfl ?_
          | refine IWP_exit ?_
          | refine IWP_scope ?_
          | refine IWP_label ?_
          | refine noG_n ?_
          | refine noG_r ?_
          | refine noG_e ?_
          | refine jmp_n ?_
          | refine jmp_r ?_
          | refine jmp_e ?_
          | refine jmp_g ?_
          | refine thenI_g ?_
          | refine inB_g ?_
          | refine IWP_goto ?_
          | refine Loop_n ?_
          | refine oD (id := 4) W64_4 [] O64_4 [_, _, _, _, _, _, _, _, _] [_] rfl (by repeat' (first | exact trivial | refine And.intro ?_ ?_ | exact bS | exact bX | exact bZ | exact bI | exact bC (π := []) (hs := by first | exact hl | fail) | fail)) ?_
          | refine oD (id := 7) W64_7 [13, 15] O64_7 [_, _, _, _, _, _, _, _, _, _, _, _, _, _, _, _] [_, _, _] rfl (by repeat' (first | exact trivial | refine And.intro ?_ ?_ | exact bS | exact bX | exact bZ | exact bI | exact bC (π := []) (hs := by first | exact hl | fail) | fail)) ?_
          | fail)
        exact ⟨(b, q + 1), ⟨hb, hbl, by simp only; omega, by simp only; omega, fun i h => by
          simp only at h ⊢
          by_cases e : i = q
          · subst e; exact hs
          · exact hb2 i (by omega)⟩, by simp only; omega, lP [0]⟩
    · by_cases e : b = j
      · repeat' (first
          | refine IOps_nil ?_
          | refine oS ?_
          | refine IOps_s rfl rfl ?_
          | refine oT ?_
          | refine IOps_s0 rfl ?_
          | refine oC (π := []) (hs := by first | exact less_spec _ _ | fail) (hx := ?_)
          | refine oZ ?_
          | refine oI ?_
          | refine thenI_n ?_
          | refine IWP_seq ?_
          | refine IWP_region ?_
          | refine IWP_ct rfl ?_
          | refine IWP_cf rfl ?_
          | refine IWP_skip ?_
          | refine IWP_ret ?_
          | refine IWP_block ?_
          | refine inB_n ?_
          | refine thenI_r ?_
          | refine thenI_e ?_
          | refine inB_r ?_
          | refine inB_hit ?_
          | refine inB_miss rfl ?_
          | refine IWP_exit ?_
          | refine IWP_scope ?_
          | refine IWP_label ?_
          | refine noG_n ?_
          | refine noG_r ?_
          | refine noG_e ?_
          | refine jmp_n ?_
          | refine jmp_r ?_
          | refine jmp_e ?_
          | refine jmp_g ?_
          | refine thenI_g ?_
          | refine inB_g ?_
          | refine IWP_goto ?_
          | refine Loop_n ?_
          | refine oD (id := 4) W64_4 [] O64_4 [_, _, _, _, _, _, _, _, _] [_] rfl (by repeat' (first | exact trivial | refine And.intro ?_ ?_ | exact bS | exact bX | exact bZ | exact bI | exact bC (π := []) (hs := by first | exact less_spec _ _ | fail) | fail)) ?_
          | refine oD (id := 7) W64_7 [13, 15] O64_7 [_, _, _, _, _, _, _, _, _, _, _, _, _, _, _, _] [_, _, _] rfl (by repeat' (first | exact trivial | refine And.intro ?_ ?_ | exact bS | exact bX | exact bZ | exact bI | exact bC (π := []) (hs := by first | exact less_spec _ _ | fail) | fail)) ?_
          | fail)
        exact pX [0] M ⟨hM, stop (by omega) e⟩ rfl
      · have hg := go (by omega) e
        repeat' (first
          | refine IOps_nil ?_
          | refine oS ?_
          | refine IOps_s rfl rfl ?_
          | refine oT ?_
          | refine IOps_s0 rfl ?_
          | refine oC (π := []) (hs := by first | exact less_spec _ _ | fail) (hx := ?_)
          | refine oZ ?_
          | refine oI ?_
          | refine thenI_n ?_
          | refine IWP_seq ?_
          | refine IWP_region ?_
          | refine IWP_ct rfl ?_
          | refine IWP_cf rfl ?_
          | refine IWP_skip ?_
          | refine IWP_ret ?_
          | refine IWP_block ?_
          | refine inB_n ?_
          | refine thenI_r ?_
          | refine thenI_e ?_
          | refine inB_r ?_
          | refine inB_hit ?_
          | refine inB_miss rfl ?_
          | refine IWP_exit ?_
          | refine IWP_scope ?_
          | refine IWP_label ?_
          | refine noG_n ?_
          | refine noG_r ?_
          | refine noG_e ?_
          | refine jmp_n ?_
          | refine jmp_r ?_
          | refine jmp_e ?_
          | refine jmp_g ?_
          | refine thenI_g ?_
          | refine inB_g ?_
          | refine IWP_goto ?_
          | refine Loop_n ?_
          | refine oD (id := 4) W64_4 [] O64_4 [_, _, _, _, _, _, _, _, _] [_] rfl (by repeat' (first | exact trivial | refine And.intro ?_ ?_ | exact bS | exact bX | exact bZ | exact bI | exact bC (π := []) (hs := by first | exact less_spec _ _ | fail) | fail)) ?_
          | refine oD (id := 7) W64_7 [13, 15] O64_7 [_, _, _, _, _, _, _, _, _, _, _, _, _, _, _, _] [_, _, _] rfl (by repeat' (first | exact trivial | refine And.intro ?_ ?_ | exact bS | exact bX | exact bZ | exact bI | exact bC (π := []) (hs := by first | exact less_spec _ _ | fail) | fail)) ?_
          | fail)
        exact ⟨(sw M j b, b), ⟨(sw_length _ _ _).trans hlen, ⟨(sw_perm (by omega) (by omega)).trans hM.1, fun i hi => (sw_out (by omega) (by omega) (by omega) (by omega)).trans (hM.2 i hi)⟩, hbl, hg.2⟩, by simp only; omega, lP [0]⟩
  · by_cases e : b = j
    · repeat' (first
        | refine IOps_nil ?_
        | refine oS ?_
        | refine IOps_s rfl rfl ?_
        | refine oT ?_
        | refine IOps_s0 rfl ?_
        | refine oC (π := []) (hs := by first | exact less_spec _ _ | fail) (hx := ?_)
        | refine oZ ?_
        | refine oI ?_
        | refine thenI_n ?_
        | refine IWP_seq ?_
        | refine IWP_region ?_
        | refine IWP_ct rfl ?_
        | refine IWP_cf rfl ?_
        | refine IWP_skip ?_
        | refine IWP_ret ?_
        | refine IWP_block ?_
        | refine inB_n ?_
        | refine thenI_r ?_
        | refine thenI_e ?_
        | refine inB_r ?_
        | refine inB_hit ?_
        | refine inB_miss rfl ?_
        | refine IWP_exit ?_
        | refine IWP_scope ?_
        | refine IWP_label ?_
        | refine noG_n ?_
        | refine noG_r ?_
        | refine noG_e ?_
        | refine jmp_n ?_
        | refine jmp_r ?_
        | refine jmp_e ?_
        | refine jmp_g ?_
        | refine thenI_g ?_
        | refine inB_g ?_
        | refine IWP_goto ?_
        | refine Loop_n ?_
        | refine oD (id := 4) W64_4 [] O64_4 [_, _, _, _, _, _, _, _, _] [_] rfl (by repeat' (first | exact trivial | refine And.intro ?_ ?_ | exact bS | exact bX | exact bZ | exact bI | exact bC (π := []) (hs := by first | exact less_spec _ _ | fail) | fail)) ?_
        | refine oD (id := 7) W64_7 [13, 15] O64_7 [_, _, _, _, _, _, _, _, _, _, _, _, _, _, _, _] [_, _, _] rfl (by repeat' (first | exact trivial | refine And.intro ?_ ?_ | exact bS | exact bX | exact bZ | exact bI | exact bC (π := []) (hs := by first | exact less_spec _ _ | fail) | fail)) ?_
        | fail)
      exact pX [0] M ⟨hM, stop (by omega) e⟩ rfl
    · have hg := go (by omega) e
      repeat' (first
        | refine IOps_nil ?_
        | refine oS ?_
        | refine IOps_s rfl rfl ?_
        | refine oT ?_
        | refine IOps_s0 rfl ?_
        | refine oC (π := []) (hs := by first | exact less_spec _ _ | fail) (hx := ?_)
        | refine oZ ?_
        | refine oI ?_
        | refine thenI_n ?_
        | refine IWP_seq ?_
        | refine IWP_region ?_
        | refine IWP_ct rfl ?_
        | refine IWP_cf rfl ?_
        | refine IWP_skip ?_
        | refine IWP_ret ?_
        | refine IWP_block ?_
        | refine inB_n ?_
        | refine thenI_r ?_
        | refine thenI_e ?_
        | refine inB_r ?_
        | refine inB_hit ?_
        | refine inB_miss rfl ?_
        | refine IWP_exit ?_
        | refine IWP_scope ?_
        | refine IWP_label ?_
        | refine noG_n ?_
        | refine noG_r ?_
        | refine noG_e ?_
        | refine jmp_n ?_
        | refine jmp_r ?_
        | refine jmp_e ?_
        | refine jmp_g ?_
        | refine thenI_g ?_
        | refine inB_g ?_
        | refine IWP_goto ?_
        | refine Loop_n ?_
        | refine oD (id := 4) W64_4 [] O64_4 [_, _, _, _, _, _, _, _, _] [_] rfl (by repeat' (first | exact trivial | refine And.intro ?_ ?_ | exact bS | exact bX | exact bZ | exact bI | exact bC (π := []) (hs := by first | exact less_spec _ _ | fail) | fail)) ?_
        | refine oD (id := 7) W64_7 [13, 15] O64_7 [_, _, _, _, _, _, _, _, _, _, _, _, _, _, _, _] [_, _, _] rfl (by repeat' (first | exact trivial | refine And.intro ?_ ?_ | exact bS | exact bX | exact bZ | exact bI | exact bC (π := []) (hs := by first | exact less_spec _ _ | fail) | fail)) ?_
        | fail)
      exact ⟨(sw M j b, b), ⟨(sw_length _ _ _).trans hlen, ⟨(sw_perm (by omega) (by omega)).trans hM.1, fun i hi => (sw_out (by omega) (by omega) (by omega) (by omega)).trans (hM.2 i hi)⟩, hbl, hg.2⟩, by simp only; omega, lP [0]⟩
end Go.Proofs.Ytnlelckfhlcbgaa
