/-
  Sorting, at texts: a part that may be sorted but for a few.
-/
import Derived.Test.YtmgcoopmbohkoaaStM
namespace Go.Proofs.Ytmgcoopmbohkoaa
open Go Go.Idl
set_option linter.unusedSimpArgs false
set_option linter.unusedVariables false
set_option maxRecDepth 100000
set_option maxHeartbeats 4000000
attribute [local irreducible] Go.Idl.IWP Go.Idl.IOps Go.Idl.Obl Go.Idl.OpG Go.Idl.thenI Go.Idl.inBlockI Go.Idl.LoopU Go.Idl.noGotoI Go.Idl.jumpI
attribute [local go_sem] List.length_set
theorem partial_spec (L : List Ks) (a b cap : Nat) (oc : OrdL fun x y => decide (cS x y < 0)) (hab : a < b) (hb : b ≤ L.length) (hL : L.length ≤ 1000000000) (hpre : 0 < a → ∀ q, a ≤ q → q < b → ¬ cS (gd L q) (gd L (a - 1)) < 0) :
    Idl.Spec Try.prog 59 [.sl 0 0 L.length cap 1, .i64 a, .i64 b] [.arr false (strs L)]
      (Ex (fun x : List Ks × Bool => PS a b L x.1 ∧ (x.2 = true → SS (fun x y => decide (cS x y < 0)) a b x.1)) (fun x => .sc (.bool x.2)) (fun x => [.arr false (strs x.1)])) := by
  refine sE Try.func59 Try.ntmps59 ?_
  repeat' (first
    | refine IOps_nil ?_
    | refine oS ?_
    | refine IOps_s rfl rfl ?_
    | refine oT ?_
    | refine IOps_s0 rfl ?_
    | refine oC (π := []) (hs := by first | exact less_spec _ _ | fail) (hx := ?_)
    | refine oZ ?_
    | refine oI ?_
    | refine thenI_n ?_
    | refine IWP_seq ?_
    | refine IWP_region ?_
    | refine IWP_ct rfl ?_
    | refine IWP_cf rfl ?_
    | refine IWP_skip ?_
    | refine IWP_ret ?_
    | refine IWP_block ?_
    | refine inB_n ?_
    | refine thenI_r ?_
    | refine thenI_e ?_
    | refine inB_r ?_
    | refine inB_hit ?_
    | refine inB_miss rfl ?_
    | refine IWP_exit ?_
    | refine IWP_scope ?_
    | refine IWP_label ?_
    | refine noG_n ?_
    | refine noG_r ?_
    | refine noG_e ?_
    | refine jmp_n ?_
    | refine jmp_r ?_
    | refine jmp_e ?_
    | refine jmp_g ?_
    | refine thenI_g ?_
    | refine inB_g ?_
    | refine IWP_goto ?_
    | refine Loop_n ?_
    | refine oD (id := 5) W59_5 [] O59_5 [_, _, _, _, _, _, _, _, _, _, _, _, _, _, _, _] [_] rfl (by repeat' (first | exact trivial | refine And.intro ?_ ?_ | exact bS | exact bX | exact bZ | exact bI | exact bC (π := []) (hs := by first | exact less_spec _ _ | fail) | fail)) ?_
    | refine oD (id := 11) W59_11 [15, 17] O59_11 [_, _, _, _, _, _, _, _, _, _, _, _, _, _, _, _, _, _] [_, _, _] rfl (by repeat' (first | exact trivial | refine And.intro ?_ ?_ | exact bS | exact bX | exact bZ | exact bI | exact bC (π := []) (hs := by first | exact less_spec _ _ | fail) | fail)) ?_
    | refine oD (id := 16) W59_16 [] O59_16 [_, _, _, _, _, _, _, _, _, _, _] [_] rfl (by repeat' (first | exact trivial | refine And.intro ?_ ?_ | exact bS | exact bX | exact bZ | exact bI | exact bC (π := []) (hs := by first | exact less_spec _ _ | fail) | fail)) ?_
    | refine oD (id := 17) W59_17 [15, 17] O59_17 [_, _, _, _, _, _, _, _, _, _, _, _, _, _, _, _, _, _] [_, _, _] rfl (by repeat' (first | exact trivial | refine And.intro ?_ ?_ | exact bS | exact bX | exact bZ | exact bI | exact bC (π := []) (hs := by first | exact less_spec _ _ | fail) | fail)) ?_
    | refine oD (id := 22) W59_22 [] O59_22 [_, _, _, _, _, _, _, _, _, _, _] [_] rfl (by repeat' (first | exact trivial | refine And.intro ?_ ?_ | exact bS | exact bX | exact bZ | exact bI | exact bC (π := []) (hs := by first | exact less_spec _ _ | fail) | fail)) ?_
    | refine oD (id := 23) W59_23 [15, 17] O59_23 [_, _, _, _, _, _, _, _, _, _, _, _, _, _, _, _, _, _] [_, _, _] rfl (by repeat' (first | exact trivial | refine And.intro ?_ ?_ | exact bS | exact bX | exact bZ | exact bI | exact bC (π := []) (hs := by first | exact less_spec _ _ | fail) | fail)) ?_
    | fail)
  refine IWP_loop (fun x : List Ks × Nat × Nat => ⟨133, [(0, .sl 0 0 L.length cap 1), (1, .i64 a), (2, .i64 b), (7, .i64 x.2.1), (8, .i64 x.2.2)], [.arr false (strs x.1)]⟩) (fun x => PS a b L x.1 ∧ SS (fun x y => decide (cS x y < 0)) a x.2.1 x.1 ∧ a + 1 ≤ x.2.1 ∧ x.2.1 ≤ b ∧ x.2.2 ≤ 5) (fun x => 5 - x.2.2) (L, a + 1, 0) (lP [0]) ⟨.refl _ _ _, fun p q h1 h2 h3 => by simp only at h3; omega, Nat.le_refl _, by simp only; omega, by simp⟩ ?_
  rintro ⟨M, i0, k⟩ ⟨hp, hs, hi1, hi2, hk⟩
  replace hp : PS a b L M := hp
  have hl := hp.len
  simp only at hs hi1 hi2 hk ⊢
  by_cases hk5 : k < 5
  · repeat' (first
      | refine IOps_nil ?_
      | refine oS ?_
      | refine IOps_s rfl rfl ?_
      | refine oT ?_
      | refine IOps_s0 rfl ?_
      | refine oC (π := []) (hs := by first | exact less_spec _ _ | fail) (hx := ?_)
      | refine oZ ?_
      | refine oI ?_
      | refine thenI_n ?_
      | refine IWP_seq ?_
      | refine IWP_region ?_
      | refine IWP_ct rfl ?_
      | refine IWP_cf rfl ?_
      | refine IWP_skip ?_
      | refine IWP_ret ?_
      | refine IWP_block ?_
      | refine inB_n ?_
      | refine thenI_r ?_
      | refine thenI_e ?_
      | refine inB_r ?_
      | refine inB_hit ?_
      | refine inB_miss rfl ?_
      | refine IWP_exit ?_
      | refine IWP_scope ?_
      | refine IWP_label ?_
      | refine noG_n ?_
      | refine noG_r ?_
      | refine noG_e ?_
      | refine jmp_n ?_
      | refine jmp_r ?_
      | refine jmp_e ?_
      | refine jmp_g ?_
      | refine thenI_g ?_
      | refine inB_g ?_
      | refine IWP_goto ?_
      | refine Loop_n ?_
      | refine oD (id := 5) W59_5 [] O59_5 [_, _, _, _, _, _, _, _, _, _, _, _, _, _, _, _] [_] rfl (by repeat' (first | exact trivial | refine And.intro ?_ ?_ | exact bS | exact bX | exact bZ | exact bI | exact bC (π := []) (hs := by first | exact less_spec _ _ | fail) | fail)) ?_
      | refine oD (id := 11) W59_11 [15, 17] O59_11 [_, _, _, _, _, _, _, _, _, _, _, _, _, _, _, _, _, _] [_, _, _] rfl (by repeat' (first | exact trivial | refine And.intro ?_ ?_ | exact bS | exact bX | exact bZ | exact bI | exact bC (π := []) (hs := by first | exact less_spec _ _ | fail) | fail)) ?_
      | refine oD (id := 16) W59_16 [] O59_16 [_, _, _, _, _, _, _, _, _, _, _] [_] rfl (by repeat' (first | exact trivial | refine And.intro ?_ ?_ | exact bS | exact bX | exact bZ | exact bI | exact bC (π := []) (hs := by first | exact less_spec _ _ | fail) | fail)) ?_
      | refine oD (id := 17) W59_17 [15, 17] O59_17 [_, _, _, _, _, _, _, _, _, _, _, _, _, _, _, _, _, _] [_, _, _] rfl (by repeat' (first | exact trivial | refine And.intro ?_ ?_ | exact bS | exact bX | exact bZ | exact bI | exact bC (π := []) (hs := by first | exact less_spec _ _ | fail) | fail)) ?_
      | refine oD (id := 22) W59_22 [] O59_22 [_, _, _, _, _, _, _, _, _, _, _] [_] rfl (by repeat' (first | exact trivial | refine And.intro ?_ ?_ | exact bS | exact bX | exact bZ | exact bI | exact bC (π := []) (hs := by first | exact less_spec _ _ | fail) | fail)) ?_
      | refine oD (id := 23) W59_23 [15, 17] O59_23 [_, _, _, _, _, _, _, _, _, _, _, _, _, _, _, _, _, _] [_, _, _] rfl (by repeat' (first | exact trivial | refine And.intro ?_ ?_ | exact bS | exact bX | exact bZ | exact bI | exact bC (π := []) (hs := by first | exact less_spec _ _ | fail) | fail)) ?_
      | fail)
    refine IWP_loop (fun i : Nat => ⟨133, [(0, .sl 0 0 L.length cap 1), (1, .i64 a), (2, .i64 b), (7, .i64 i), (8, .i64 k)], [.arr false (strs M)]⟩) (fun i => SS (fun x y => decide (cS x y < 0)) a i M ∧ a + 1 ≤ i ∧ i ≤ b) (fun i => b - i) i0 (lP [0]) ⟨hs, hi1, hi2⟩ ?_
    clear hs hi1 hi2
    rintro i ⟨hs, hi1, hi2⟩
    by_cases hib : i < b
    · by_cases hlt : cS (gd M i) (gd M (i - 1)) < 0
      · by_cases h50 : b - a < 50
        · repeat' (first
            | refine IOps_nil ?_
            | refine oS ?_
            | refine IOps_s rfl rfl ?_
            | refine oT ?_
            | refine IOps_s0 rfl ?_
            | refine oC (π := []) (hs := by first | exact less_spec _ _ | fail) (hx := ?_)
            | refine oZ ?_
            | refine oI ?_
            | refine thenI_n ?_
            | refine IWP_seq ?_
            | refine IWP_region ?_
            | refine IWP_ct rfl ?_
            | refine IWP_cf rfl ?_
            | refine IWP_skip ?_
            | refine IWP_ret ?_
            | refine IWP_block ?_
            | refine inB_n ?_
            | refine thenI_r ?_
            | refine thenI_e ?_
            | refine inB_r ?_
            | refine inB_hit ?_
            | refine inB_miss rfl ?_
            | refine IWP_exit ?_
            | refine IWP_scope ?_
            | refine IWP_label ?_
            | refine noG_n ?_
            | refine noG_r ?_
            | refine noG_e ?_
            | refine jmp_n ?_
            | refine jmp_r ?_
            | refine jmp_e ?_
            | refine jmp_g ?_
            | refine thenI_g ?_
            | refine inB_g ?_
            | refine IWP_goto ?_
            | refine Loop_n ?_
            | refine oD (id := 5) W59_5 [] O59_5 [_, _, _, _, _, _, _, _, _, _, _, _, _, _, _, _] [_] rfl (by repeat' (first | exact trivial | refine And.intro ?_ ?_ | exact bS | exact bX | exact bZ | exact bI | exact bC (π := []) (hs := by first | exact less_spec _ _ | fail) | fail)) ?_
            | refine oD (id := 11) W59_11 [15, 17] O59_11 [_, _, _, _, _, _, _, _, _, _, _, _, _, _, _, _, _, _] [_, _, _] rfl (by repeat' (first | exact trivial | refine And.intro ?_ ?_ | exact bS | exact bX | exact bZ | exact bI | exact bC (π := []) (hs := by first | exact less_spec _ _ | fail) | fail)) ?_
            | refine oD (id := 16) W59_16 [] O59_16 [_, _, _, _, _, _, _, _, _, _, _] [_] rfl (by repeat' (first | exact trivial | refine And.intro ?_ ?_ | exact bS | exact bX | exact bZ | exact bI | exact bC (π := []) (hs := by first | exact less_spec _ _ | fail) | fail)) ?_
            | refine oD (id := 17) W59_17 [15, 17] O59_17 [_, _, _, _, _, _, _, _, _, _, _, _, _, _, _, _, _, _] [_, _, _] rfl (by repeat' (first | exact trivial | refine And.intro ?_ ?_ | exact bS | exact bX | exact bZ | exact bI | exact bC (π := []) (hs := by first | exact less_spec _ _ | fail) | fail)) ?_
            | refine oD (id := 22) W59_22 [] O59_22 [_, _, _, _, _, _, _, _, _, _, _] [_] rfl (by repeat' (first | exact trivial | refine And.intro ?_ ?_ | exact bS | exact bX | exact bZ | exact bI | exact bC (π := []) (hs := by first | exact less_spec _ _ | fail) | fail)) ?_
            | refine oD (id := 23) W59_23 [15, 17] O59_23 [_, _, _, _, _, _, _, _, _, _, _, _, _, _, _, _, _, _] [_, _, _] rfl (by repeat' (first | exact trivial | refine And.intro ?_ ?_ | exact bS | exact bX | exact bZ | exact bI | exact bC (π := []) (hs := by first | exact less_spec _ _ | fail) | fail)) ?_
            | fail)
          exact pX [0] (M, false) ⟨hp, by simp⟩ rfl
        · have hsw : PS a b M (sw M i (i - 1)) := .sw (by omega) (by omega) (by omega) (by omega) (by omega)
          by_cases h2 : a + 2 ≤ i
          · have hss : SS (fun x y => decide (cS x y < 0)) a (i - 1) (sw M i (i - 1)) := SS.out (fun p q h1 h2 h3 => hs p q h1 h2 (by omega)) (PS.sw (a := i - 1) (b := b) (by omega) (by omega) (by omega) (by omega) (by omega)) (.inr (Nat.le_refl _))
            repeat' (first
              | refine IOps_nil ?_
              | refine oS ?_
              | refine IOps_s rfl rfl ?_
              | refine oT ?_
              | refine IOps_s0 rfl ?_
              | refine oC (π := []) (hs := by first | exact less_spec _ _ | fail) (hx := ?_)
              | refine oZ ?_
              | refine oI ?_
              | refine thenI_n ?_
              | refine IWP_seq ?_
              | refine IWP_region ?_
              | refine IWP_ct rfl ?_
              | refine IWP_cf rfl ?_
              | refine IWP_skip ?_
              | refine IWP_ret ?_
              | refine IWP_block ?_
              | refine inB_n ?_
              | refine thenI_r ?_
              | refine thenI_e ?_
              | refine inB_r ?_
              | refine inB_hit ?_
              | refine inB_miss rfl ?_
              | refine IWP_exit ?_
              | refine IWP_scope ?_
              | refine IWP_label ?_
              | refine noG_n ?_
              | refine noG_r ?_
              | refine noG_e ?_
              | refine jmp_n ?_
              | refine jmp_r ?_
              | refine jmp_e ?_
              | refine jmp_g ?_
              | refine thenI_g ?_
              | refine inB_g ?_
              | refine IWP_goto ?_
              | refine Loop_n ?_
              | refine oD (id := 5) W59_5 [] O59_5 [_, _, _, _, _, _, _, _, _, _, _, _, _, _, _, _] [_] rfl (by repeat' (first | exact trivial | refine And.intro ?_ ?_ | exact bS | exact bX | exact bZ | exact bI | exact bC (π := []) (hs := by first | exact less_spec _ _ | fail) | fail)) ?_
              | refine oD (id := 11) W59_11 [15, 17] O59_11 [_, _, _, _, _, _, _, _, _, _, _, _, _, _, _, _, _, _] [_, _, _] rfl (by repeat' (first | exact trivial | refine And.intro ?_ ?_ | exact bS | exact bX | exact bZ | exact bI | exact bC (π := []) (hs := by first | exact less_spec _ _ | fail) | fail)) ?_
              | refine oD (id := 16) W59_16 [] O59_16 [_, _, _, _, _, _, _, _, _, _, _] [_] rfl (by repeat' (first | exact trivial | refine And.intro ?_ ?_ | exact bS | exact bX | exact bZ | exact bI | exact bC (π := []) (hs := by first | exact less_spec _ _ | fail) | fail)) ?_
              | refine oD (id := 17) W59_17 [15, 17] O59_17 [_, _, _, _, _, _, _, _, _, _, _, _, _, _, _, _, _, _] [_, _, _] rfl (by repeat' (first | exact trivial | refine And.intro ?_ ?_ | exact bS | exact bX | exact bZ | exact bI | exact bC (π := []) (hs := by first | exact less_spec _ _ | fail) | fail)) ?_
              | refine oD (id := 22) W59_22 [] O59_22 [_, _, _, _, _, _, _, _, _, _, _] [_] rfl (by repeat' (first | exact trivial | refine And.intro ?_ ?_ | exact bS | exact bX | exact bZ | exact bI | exact bC (π := []) (hs := by first | exact less_spec _ _ | fail) | fail)) ?_
              | refine oD (id := 23) W59_23 [15, 17] O59_23 [_, _, _, _, _, _, _, _, _, _, _, _, _, _, _, _, _, _] [_, _, _] rfl (by repeat' (first | exact trivial | refine And.intro ?_ ?_ | exact bS | exact bX | exact bZ | exact bI | exact bC (π := []) (hs := by first | exact less_spec _ _ | fail) | fail)) ?_
              | fail)
            refine IWP_loop (fun x : List Ks × Nat => ⟨133, [(0, .sl 0 0 L.length cap 1), (1, .i64 a), (2, .i64 b), (7, .i64 i), (8, .i64 k), (9, .i64 x.2)], [.arr false (strs x.1)]⟩) (fun x => PS a b L x.1 ∧ InsI (fun x y => decide (cS x y < 0)) a (i - 1) x.2 x.1 ∧ a ≤ x.2 ∧ x.2 ≤ i - 1) (fun x => x.2) (sw M i (i - 1), i - 1) (lP [0]) ⟨hp.trans hsw, InsI.start hss, by simp only; omega, Nat.le_refl _⟩ ?_
            rintro ⟨N, j⟩ ⟨hp2, hs2, hj1, hj2⟩
            replace hp2 : PS a b L N := hp2
            have hl2 := hp2.len
            simp only at hs2 hj1 hj2 ⊢
            by_cases hj : 1 ≤ j
            · by_cases hlt2 : cS (gd N j) (gd N (j - 1)) < 0
              · have haj : a < j := by
                  apply Nat.lt_of_le_of_ne hj1
                  rintro rfl
                  obtain ⟨q, q1, q2, q3⟩ := hp2.inn a (Nat.le_refl _) hab
                  rw [q3, hp2.out (a - 1) (by omega)] at hlt2
                  exact hpre (by omega) q q1 q2 hlt2
                repeat' (first
                  | refine IOps_nil ?_
                  | refine oS ?_
                  | refine IOps_s rfl rfl ?_
                  | refine oT ?_
                  | refine IOps_s0 rfl ?_
                  | refine oC (π := []) (hs := by first | exact less_spec _ _ | fail) (hx := ?_)
                  | refine oZ ?_
                  | refine oI ?_
                  | refine thenI_n ?_
                  | refine IWP_seq ?_
                  | refine IWP_region ?_
                  | refine IWP_ct rfl ?_
                  | refine IWP_cf rfl ?_
                  | refine IWP_skip ?_
                  | refine IWP_ret ?_
                  | refine IWP_block ?_
                  | refine inB_n ?_
                  | refine thenI_r ?_
                  | refine thenI_e ?_
                  | refine inB_r ?_
                  | refine inB_hit ?_
                  | refine inB_miss rfl ?_
                  | refine IWP_exit ?_
                  | refine IWP_scope ?_
                  | refine IWP_label ?_
                  | refine noG_n ?_
                  | refine noG_r ?_
                  | refine noG_e ?_
                  | refine jmp_n ?_
                  | refine jmp_r ?_
                  | refine jmp_e ?_
                  | refine jmp_g ?_
                  | refine thenI_g ?_
                  | refine inB_g ?_
                  | refine IWP_goto ?_
                  | refine Loop_n ?_
                  | refine oD (id := 5) W59_5 [] O59_5 [_, _, _, _, _, _, _, _, _, _, _, _, _, _, _, _] [_] rfl (by repeat' (first | exact trivial | refine And.intro ?_ ?_ | exact bS | exact bX | exact bZ | exact bI | exact bC (π := []) (hs := by first | exact less_spec _ _ | fail) | fail)) ?_
                  | refine oD (id := 11) W59_11 [15, 17] O59_11 [_, _, _, _, _, _, _, _, _, _, _, _, _, _, _, _, _, _] [_, _, _] rfl (by repeat' (first | exact trivial | refine And.intro ?_ ?_ | exact bS | exact bX | exact bZ | exact bI | exact bC (π := []) (hs := by first | exact less_spec _ _ | fail) | fail)) ?_
                  | refine oD (id := 16) W59_16 [] O59_16 [_, _, _, _, _, _, _, _, _, _, _] [_] rfl (by repeat' (first | exact trivial | refine And.intro ?_ ?_ | exact bS | exact bX | exact bZ | exact bI | exact bC (π := []) (hs := by first | exact less_spec _ _ | fail) | fail)) ?_
                  | refine oD (id := 17) W59_17 [15, 17] O59_17 [_, _, _, _, _, _, _, _, _, _, _, _, _, _, _, _, _, _] [_, _, _] rfl (by repeat' (first | exact trivial | refine And.intro ?_ ?_ | exact bS | exact bX | exact bZ | exact bI | exact bC (π := []) (hs := by first | exact less_spec _ _ | fail) | fail)) ?_
                  | refine oD (id := 22) W59_22 [] O59_22 [_, _, _, _, _, _, _, _, _, _, _] [_] rfl (by repeat' (first | exact trivial | refine And.intro ?_ ?_ | exact bS | exact bX | exact bZ | exact bI | exact bC (π := []) (hs := by first | exact less_spec _ _ | fail) | fail)) ?_
                  | refine oD (id := 23) W59_23 [15, 17] O59_23 [_, _, _, _, _, _, _, _, _, _, _, _, _, _, _, _, _, _] [_, _, _] rfl (by repeat' (first | exact trivial | refine And.intro ?_ ?_ | exact bS | exact bX | exact bZ | exact bI | exact bC (π := []) (hs := by first | exact less_spec _ _ | fail) | fail)) ?_
                  | fail)
                exact ⟨(sw N j (j - 1), j - 1), ⟨hp2.trans (.sw (by omega) (by omega) (by omega) (by omega) (by omega)), InsI.step oc hs2 haj hj2 (by omega) (decide_eq_true hlt2), by simp only; omega, by simp only; omega⟩, by simp only; omega, lP [0]⟩
              · have hSS : SS (fun x y => decide (cS x y < 0)) a i N := by
                  have h : SS (fun x y => decide (cS x y < 0)) a (i - 1 + 1) N := by
                    by_cases haj : a < j
                    · exact InsI.fits oc hs2 haj (decide_eq_false hlt2)
                    · obtain rfl : j = a := by omega
                      exact InsI.stop hs2
                  rwa [show i - 1 + 1 = i by omega] at h
                by_cases hb2 : i + 2 ≤ b
                · repeat' (first
                    | refine IOps_nil ?_
                    | refine oS ?_
                    | refine IOps_s rfl rfl ?_
                    | refine oT ?_
                    | refine IOps_s0 rfl ?_
                    | refine oC (π := []) (hs := by first | exact less_spec _ _ | fail) (hx := ?_)
                    | refine oZ ?_
                    | refine oI ?_
                    | refine thenI_n ?_
                    | refine IWP_seq ?_
                    | refine IWP_region ?_
                    | refine IWP_ct rfl ?_
                    | refine IWP_cf rfl ?_
                    | refine IWP_skip ?_
                    | refine IWP_ret ?_
                    | refine IWP_block ?_
                    | refine inB_n ?_
                    | refine thenI_r ?_
                    | refine thenI_e ?_
                    | refine inB_r ?_
                    | refine inB_hit ?_
                    | refine inB_miss rfl ?_
                    | refine IWP_exit ?_
                    | refine IWP_scope ?_
                    | refine IWP_label ?_
                    | refine noG_n ?_
                    | refine noG_r ?_
                    | refine noG_e ?_
                    | refine jmp_n ?_
                    | refine jmp_r ?_
                    | refine jmp_e ?_
                    | refine jmp_g ?_
                    | refine thenI_g ?_
                    | refine inB_g ?_
                    | refine IWP_goto ?_
                    | refine Loop_n ?_
                    | refine oD (id := 5) W59_5 [] O59_5 [_, _, _, _, _, _, _, _, _, _, _, _, _, _, _, _] [_] rfl (by repeat' (first | exact trivial | refine And.intro ?_ ?_ | exact bS | exact bX | exact bZ | exact bI | exact bC (π := []) (hs := by first | exact less_spec _ _ | fail) | fail)) ?_
                    | refine oD (id := 11) W59_11 [15, 17] O59_11 [_, _, _, _, _, _, _, _, _, _, _, _, _, _, _, _, _, _] [_, _, _] rfl (by repeat' (first | exact trivial | refine And.intro ?_ ?_ | exact bS | exact bX | exact bZ | exact bI | exact bC (π := []) (hs := by first | exact less_spec _ _ | fail) | fail)) ?_
                    | refine oD (id := 16) W59_16 [] O59_16 [_, _, _, _, _, _, _, _, _, _, _] [_] rfl (by repeat' (first | exact trivial | refine And.intro ?_ ?_ | exact bS | exact bX | exact bZ | exact bI | exact bC (π := []) (hs := by first | exact less_spec _ _ | fail) | fail)) ?_
                    | refine oD (id := 17) W59_17 [15, 17] O59_17 [_, _, _, _, _, _, _, _, _, _, _, _, _, _, _, _, _, _] [_, _, _] rfl (by repeat' (first | exact trivial | refine And.intro ?_ ?_ | exact bS | exact bX | exact bZ | exact bI | exact bC (π := []) (hs := by first | exact less_spec _ _ | fail) | fail)) ?_
                    | refine oD (id := 22) W59_22 [] O59_22 [_, _, _, _, _, _, _, _, _, _, _] [_] rfl (by repeat' (first | exact trivial | refine And.intro ?_ ?_ | exact bS | exact bX | exact bZ | exact bI | exact bC (π := []) (hs := by first | exact less_spec _ _ | fail) | fail)) ?_
                    | refine oD (id := 23) W59_23 [15, 17] O59_23 [_, _, _, _, _, _, _, _, _, _, _, _, _, _, _, _, _, _] [_, _, _] rfl (by repeat' (first | exact trivial | refine And.intro ?_ ?_ | exact bS | exact bX | exact bZ | exact bI | exact bC (π := []) (hs := by first | exact less_spec _ _ | fail) | fail)) ?_
                    | fail)
                  refine IWP_loop (fun x : List Ks × Nat => ⟨133, [(0, .sl 0 0 L.length cap 1), (1, .i64 a), (2, .i64 b), (7, .i64 i), (8, .i64 k), (10, .i64 x.2)], [.arr false (strs x.1)]⟩) (fun x => PS a b L x.1 ∧ SS (fun x y => decide (cS x y < 0)) a i x.1 ∧ i + 1 ≤ x.2 ∧ x.2 ≤ b) (fun x => b - x.2) (N, i + 1) (lP [0]) ⟨hp2, hSS, by simp, by simp only; omega⟩ ?_
                  rintro ⟨N2, j2⟩ ⟨hp3, hs3, hj3, hj4⟩
                  replace hp3 : PS a b L N2 := hp3
                  have hl3 := hp3.len
                  simp only at hs3 hj3 hj4 ⊢
                  by_cases hjb : j2 < b
                  · by_cases hlt2 : cS (gd N2 j2) (gd N2 (j2 - 1)) < 0
                    · repeat' (first
                        | refine IOps_nil ?_
                        | refine oS ?_
                        | refine IOps_s rfl rfl ?_
                        | refine oT ?_
                        | refine IOps_s0 rfl ?_
                        | refine oC (π := []) (hs := by first | exact less_spec _ _ | fail) (hx := ?_)
                        | refine oZ ?_
                        | refine oI ?_
                        | refine thenI_n ?_
                        | refine IWP_seq ?_
                        | refine IWP_region ?_
                        | refine IWP_ct rfl ?_
                        | refine IWP_cf rfl ?_
                        | refine IWP_skip ?_
                        | refine IWP_ret ?_
                        | refine IWP_block ?_
                        | refine inB_n ?_
                        | refine thenI_r ?_
                        | refine thenI_e ?_
                        | refine inB_r ?_
                        | refine inB_hit ?_
                        | refine inB_miss rfl ?_
                        | refine IWP_exit ?_
                        | refine IWP_scope ?_
                        | refine IWP_label ?_
                        | refine noG_n ?_
                        | refine noG_r ?_
                        | refine noG_e ?_
                        | refine jmp_n ?_
                        | refine jmp_r ?_
                        | refine jmp_e ?_
                        | refine jmp_g ?_
                        | refine thenI_g ?_
                        | refine inB_g ?_
                        | refine IWP_goto ?_
                        | refine Loop_n ?_
                        | refine oD (id := 5) W59_5 [] O59_5 [_, _, _, _, _, _, _, _, _, _, _, _, _, _, _, _] [_] rfl (by repeat' (first | exact trivial | refine And.intro ?_ ?_ | exact bS | exact bX | exact bZ | exact bI | exact bC (π := []) (hs := by first | exact less_spec _ _ | fail) | fail)) ?_
                        | refine oD (id := 11) W59_11 [15, 17] O59_11 [_, _, _, _, _, _, _, _, _, _, _, _, _, _, _, _, _, _] [_, _, _] rfl (by repeat' (first | exact trivial | refine And.intro ?_ ?_ | exact bS | exact bX | exact bZ | exact bI | exact bC (π := []) (hs := by first | exact less_spec _ _ | fail) | fail)) ?_
                        | refine oD (id := 16) W59_16 [] O59_16 [_, _, _, _, _, _, _, _, _, _, _] [_] rfl (by repeat' (first | exact trivial | refine And.intro ?_ ?_ | exact bS | exact bX | exact bZ | exact bI | exact bC (π := []) (hs := by first | exact less_spec _ _ | fail) | fail)) ?_
                        | refine oD (id := 17) W59_17 [15, 17] O59_17 [_, _, _, _, _, _, _, _, _, _, _, _, _, _, _, _, _, _] [_, _, _] rfl (by repeat' (first | exact trivial | refine And.intro ?_ ?_ | exact bS | exact bX | exact bZ | exact bI | exact bC (π := []) (hs := by first | exact less_spec _ _ | fail) | fail)) ?_
                        | refine oD (id := 22) W59_22 [] O59_22 [_, _, _, _, _, _, _, _, _, _, _] [_] rfl (by repeat' (first | exact trivial | refine And.intro ?_ ?_ | exact bS | exact bX | exact bZ | exact bI | exact bC (π := []) (hs := by first | exact less_spec _ _ | fail) | fail)) ?_
                        | refine oD (id := 23) W59_23 [15, 17] O59_23 [_, _, _, _, _, _, _, _, _, _, _, _, _, _, _, _, _, _] [_, _, _] rfl (by repeat' (first | exact trivial | refine And.intro ?_ ?_ | exact bS | exact bX | exact bZ | exact bI | exact bC (π := []) (hs := by first | exact less_spec _ _ | fail) | fail)) ?_
                        | fail)
                      exact ⟨(sw N2 j2 (j2 - 1), j2 + 1), ⟨hp3.trans (.sw (by omega) (by omega) (by omega) (by omega) (by omega)), hs3.out (PS.sw (a := i) (b := b) (by omega) (by omega) (by omega) (by omega) (by omega)) (.inr (Nat.le_refl _)), by simp only; omega, by simp only; omega⟩, by simp only; omega, lP [0]⟩
                    · repeat' (first
                        | refine IOps_nil ?_
                        | refine oS ?_
                        | refine IOps_s rfl rfl ?_
                        | refine oT ?_
                        | refine IOps_s0 rfl ?_
                        | refine oC (π := []) (hs := by first | exact less_spec _ _ | fail) (hx := ?_)
                        | refine oZ ?_
                        | refine oI ?_
                        | refine thenI_n ?_
                        | refine IWP_seq ?_
                        | refine IWP_region ?_
                        | refine IWP_ct rfl ?_
                        | refine IWP_cf rfl ?_
                        | refine IWP_skip ?_
                        | refine IWP_ret ?_
                        | refine IWP_block ?_
                        | refine inB_n ?_
                        | refine thenI_r ?_
                        | refine thenI_e ?_
                        | refine inB_r ?_
                        | refine inB_hit ?_
                        | refine inB_miss rfl ?_
                        | refine IWP_exit ?_
                        | refine IWP_scope ?_
                        | refine IWP_label ?_
                        | refine noG_n ?_
                        | refine noG_r ?_
                        | refine noG_e ?_
                        | refine jmp_n ?_
                        | refine jmp_r ?_
                        | refine jmp_e ?_
                        | refine jmp_g ?_
                        | refine thenI_g ?_
                        | refine inB_g ?_
                        | refine IWP_goto ?_
                        | refine Loop_n ?_
                        | refine oD (id := 5) W59_5 [] O59_5 [_, _, _, _, _, _, _, _, _, _, _, _, _, _, _, _] [_] rfl (by repeat' (first | exact trivial | refine And.intro ?_ ?_ | exact bS | exact bX | exact bZ | exact bI | exact bC (π := []) (hs := by first | exact less_spec _ _ | fail) | fail)) ?_
                        | refine oD (id := 11) W59_11 [15, 17] O59_11 [_, _, _, _, _, _, _, _, _, _, _, _, _, _, _, _, _, _] [_, _, _] rfl (by repeat' (first | exact trivial | refine And.intro ?_ ?_ | exact bS | exact bX | exact bZ | exact bI | exact bC (π := []) (hs := by first | exact less_spec _ _ | fail) | fail)) ?_
                        | refine oD (id := 16) W59_16 [] O59_16 [_, _, _, _, _, _, _, _, _, _, _] [_] rfl (by repeat' (first | exact trivial | refine And.intro ?_ ?_ | exact bS | exact bX | exact bZ | exact bI | exact bC (π := []) (hs := by first | exact less_spec _ _ | fail) | fail)) ?_
                        | refine oD (id := 17) W59_17 [15, 17] O59_17 [_, _, _, _, _, _, _, _, _, _, _, _, _, _, _, _, _, _] [_, _, _] rfl (by repeat' (first | exact trivial | refine And.intro ?_ ?_ | exact bS | exact bX | exact bZ | exact bI | exact bC (π := []) (hs := by first | exact less_spec _ _ | fail) | fail)) ?_
                        | refine oD (id := 22) W59_22 [] O59_22 [_, _, _, _, _, _, _, _, _, _, _] [_] rfl (by repeat' (first | exact trivial | refine And.intro ?_ ?_ | exact bS | exact bX | exact bZ | exact bI | exact bC (π := []) (hs := by first | exact less_spec _ _ | fail) | fail)) ?_
                        | refine oD (id := 23) W59_23 [15, 17] O59_23 [_, _, _, _, _, _, _, _, _, _, _, _, _, _, _, _, _, _] [_, _, _] rfl (by repeat' (first | exact trivial | refine And.intro ?_ ?_ | exact bS | exact bX | exact bZ | exact bI | exact bC (π := []) (hs := by first | exact less_spec _ _ | fail) | fail)) ?_
                        | fail)
                      exact ⟨(N2, i, k + 1), ⟨hp3, hs3, by simp only; omega, by simp only; omega, by simp only; omega⟩, by simp only; omega, lP [0]⟩
                  · repeat' (first
                      | refine IOps_nil ?_
                      | refine oS ?_
                      | refine IOps_s rfl rfl ?_
                      | refine oT ?_
                      | refine IOps_s0 rfl ?_
                      | refine oC (π := []) (hs := by first | exact less_spec _ _ | fail) (hx := ?_)
                      | refine oZ ?_
                      | refine oI ?_
                      | refine thenI_n ?_
                      | refine IWP_seq ?_
                      | refine IWP_region ?_
                      | refine IWP_ct rfl ?_
                      | refine IWP_cf rfl ?_
                      | refine IWP_skip ?_
                      | refine IWP_ret ?_
                      | refine IWP_block ?_
                      | refine inB_n ?_
                      | refine thenI_r ?_
                      | refine thenI_e ?_
                      | refine inB_r ?_
                      | refine inB_hit ?_
                      | refine inB_miss rfl ?_
                      | refine IWP_exit ?_
                      | refine IWP_scope ?_
                      | refine IWP_label ?_
                      | refine noG_n ?_
                      | refine noG_r ?_
                      | refine noG_e ?_
                      | refine jmp_n ?_
                      | refine jmp_r ?_
                      | refine jmp_e ?_
                      | refine jmp_g ?_
                      | refine thenI_g ?_
                      | refine inB_g ?_
                      | refine IWP_goto ?_
                      | refine Loop_n ?_
                      | refine oD (id := 5) W59_5 [] O59_5 [_, _, _, _, _, _, _, _, _, _, _, _, _, _, _, _] [_] rfl (by repeat' (first | exact trivial | refine And.intro ?_ ?_ | exact bS | exact bX | exact bZ | exact bI | exact bC (π := []) (hs := by first | exact less_spec _ _ | fail) | fail)) ?_
                      | refine oD (id := 11) W59_11 [15, 17] O59_11 [_, _, _, _, _, _, _, _, _, _, _, _, _, _, _, _, _, _] [_, _, _] rfl (by repeat' (first | exact trivial | refine And.intro ?_ ?_ | exact bS | exact bX | exact bZ | exact bI | exact bC (π := []) (hs := by first | exact less_spec _ _ | fail) | fail)) ?_
                      | refine oD (id := 16) W59_16 [] O59_16 [_, _, _, _, _, _, _, _, _, _, _] [_] rfl (by repeat' (first | exact trivial | refine And.intro ?_ ?_ | exact bS | exact bX | exact bZ | exact bI | exact bC (π := []) (hs := by first | exact less_spec _ _ | fail) | fail)) ?_
                      | refine oD (id := 17) W59_17 [15, 17] O59_17 [_, _, _, _, _, _, _, _, _, _, _, _, _, _, _, _, _, _] [_, _, _] rfl (by repeat' (first | exact trivial | refine And.intro ?_ ?_ | exact bS | exact bX | exact bZ | exact bI | exact bC (π := []) (hs := by first | exact less_spec _ _ | fail) | fail)) ?_
                      | refine oD (id := 22) W59_22 [] O59_22 [_, _, _, _, _, _, _, _, _, _, _] [_] rfl (by repeat' (first | exact trivial | refine And.intro ?_ ?_ | exact bS | exact bX | exact bZ | exact bI | exact bC (π := []) (hs := by first | exact less_spec _ _ | fail) | fail)) ?_
                      | refine oD (id := 23) W59_23 [15, 17] O59_23 [_, _, _, _, _, _, _, _, _, _, _, _, _, _, _, _, _, _] [_, _, _] rfl (by repeat' (first | exact trivial | refine And.intro ?_ ?_ | exact bS | exact bX | exact bZ | exact bI | exact bC (π := []) (hs := by first | exact less_spec _ _ | fail) | fail)) ?_
                      | fail)
                    exact ⟨(N2, i, k + 1), ⟨hp3, hs3, by simp only; omega, by simp only; omega, by simp only; omega⟩, by simp only; omega, lP [0]⟩
                · repeat' (first
                    | refine IOps_nil ?_
                    | refine oS ?_
                    | refine IOps_s rfl rfl ?_
                    | refine oT ?_
                    | refine IOps_s0 rfl ?_
                    | refine oC (π := []) (hs := by first | exact less_spec _ _ | fail) (hx := ?_)
                    | refine oZ ?_
                    | refine oI ?_
                    | refine thenI_n ?_
                    | refine IWP_seq ?_
                    | refine IWP_region ?_
                    | refine IWP_ct rfl ?_
                    | refine IWP_cf rfl ?_
                    | refine IWP_skip ?_
                    | refine IWP_ret ?_
                    | refine IWP_block ?_
                    | refine inB_n ?_
                    | refine thenI_r ?_
                    | refine thenI_e ?_
                    | refine inB_r ?_
                    | refine inB_hit ?_
                    | refine inB_miss rfl ?_
                    | refine IWP_exit ?_
                    | refine IWP_scope ?_
                    | refine IWP_label ?_
                    | refine noG_n ?_
                    | refine noG_r ?_
                    | refine noG_e ?_
                    | refine jmp_n ?_
                    | refine jmp_r ?_
                    | refine jmp_e ?_
                    | refine jmp_g ?_
                    | refine thenI_g ?_
                    | refine inB_g ?_
                    | refine IWP_goto ?_
                    | refine Loop_n ?_
                    | refine oD (id := 5) W59_5 [] O59_5 [_, _, _, _, _, _, _, _, _, _, _, _, _, _, _, _] [_] rfl (by repeat' (first | exact trivial | refine And.intro ?_ ?_ | exact bS | exact bX | exact bZ | exact bI | exact bC (π := []) (hs := by first | exact less_spec _ _ | fail) | fail)) ?_
                    | refine oD (id := 11) W59_11 [15, 17] O59_11 [_, _, _, _, _, _, _, _, _, _, _, _, _, _, _, _, _, _] [_, _, _] rfl (by repeat' (first | exact trivial | refine And.intro ?_ ?_ | exact bS | exact bX | exact bZ | exact bI | exact bC (π := []) (hs := by first | exact less_spec _ _ | fail) | fail)) ?_
                    | refine oD (id := 16) W59_16 [] O59_16 [_, _, _, _, _, _, _, _, _, _, _] [_] rfl (by repeat' (first | exact trivial | refine And.intro ?_ ?_ | exact bS | exact bX | exact bZ | exact bI | exact bC (π := []) (hs := by first | exact less_spec _ _ | fail) | fail)) ?_
                    | refine oD (id := 17) W59_17 [15, 17] O59_17 [_, _, _, _, _, _, _, _, _, _, _, _, _, _, _, _, _, _] [_, _, _] rfl (by repeat' (first | exact trivial | refine And.intro ?_ ?_ | exact bS | exact bX | exact bZ | exact bI | exact bC (π := []) (hs := by first | exact less_spec _ _ | fail) | fail)) ?_
                    | refine oD (id := 22) W59_22 [] O59_22 [_, _, _, _, _, _, _, _, _, _, _] [_] rfl (by repeat' (first | exact trivial | refine And.intro ?_ ?_ | exact bS | exact bX | exact bZ | exact bI | exact bC (π := []) (hs := by first | exact less_spec _ _ | fail) | fail)) ?_
                    | refine oD (id := 23) W59_23 [15, 17] O59_23 [_, _, _, _, _, _, _, _, _, _, _, _, _, _, _, _, _, _] [_, _, _] rfl (by repeat' (first | exact trivial | refine And.intro ?_ ?_ | exact bS | exact bX | exact bZ | exact bI | exact bC (π := []) (hs := by first | exact less_spec _ _ | fail) | fail)) ?_
                    | fail)
                  exact ⟨(N, i, k + 1), ⟨hp2, hSS, by simp only; omega, by simp only; omega, by simp only; omega⟩, by simp only; omega, lP [0]⟩
            · have hSS : SS (fun x y => decide (cS x y < 0)) a i N := by
                have h : SS (fun x y => decide (cS x y < 0)) a (i - 1 + 1) N := by
                  obtain rfl : j = a := by omega
                  exact InsI.stop hs2
                rwa [show i - 1 + 1 = i by omega] at h
              by_cases hb2 : i + 2 ≤ b
              · repeat' (first
                  | refine IOps_nil ?_
                  | refine oS ?_
                  | refine IOps_s rfl rfl ?_
                  | refine oT ?_
                  | refine IOps_s0 rfl ?_
                  | refine oC (π := []) (hs := by first | exact less_spec _ _ | fail) (hx := ?_)
                  | refine oZ ?_
                  | refine oI ?_
                  | refine thenI_n ?_
                  | refine IWP_seq ?_
                  | refine IWP_region ?_
                  | refine IWP_ct rfl ?_
                  | refine IWP_cf rfl ?_
                  | refine IWP_skip ?_
                  | refine IWP_ret ?_
                  | refine IWP_block ?_
                  | refine inB_n ?_
                  | refine thenI_r ?_
                  | refine thenI_e ?_
                  | refine inB_r ?_
                  | refine inB_hit ?_
                  | refine inB_miss rfl ?_
                  | refine IWP_exit ?_
                  | refine IWP_scope ?_
                  | refine IWP_label ?_
                  | refine noG_n ?_
                  | refine noG_r ?_
                  | refine noG_e ?_
                  | refine jmp_n ?_
                  | refine jmp_r ?_
                  | refine jmp_e ?_
                  | refine jmp_g ?_
                  | refine thenI_g ?_
                  | refine inB_g ?_
                  | refine IWP_goto ?_
                  | refine Loop_n ?_
                  | refine oD (id := 5) W59_5 [] O59_5 [_, _, _, _, _, _, _, _, _, _, _, _, _, _, _, _] [_] rfl (by repeat' (first | exact trivial | refine And.intro ?_ ?_ | exact bS | exact bX | exact bZ | exact bI | exact bC (π := []) (hs := by first | exact less_spec _ _ | fail) | fail)) ?_
                  | refine oD (id := 11) W59_11 [15, 17] O59_11 [_, _, _, _, _, _, _, _, _, _, _, _, _, _, _, _, _, _] [_, _, _] rfl (by repeat' (first | exact trivial | refine And.intro ?_ ?_ | exact bS | exact bX | exact bZ | exact bI | exact bC (π := []) (hs := by first | exact less_spec _ _ | fail) | fail)) ?_
                  | refine oD (id := 16) W59_16 [] O59_16 [_, _, _, _, _, _, _, _, _, _, _] [_] rfl (by repeat' (first | exact trivial | refine And.intro ?_ ?_ | exact bS | exact bX | exact bZ | exact bI | exact bC (π := []) (hs := by first | exact less_spec _ _ | fail) | fail)) ?_
                  | refine oD (id := 17) W59_17 [15, 17] O59_17 [_, _, _, _, _, _, _, _, _, _, _, _, _, _, _, _, _, _] [_, _, _] rfl (by repeat' (first | exact trivial | refine And.intro ?_ ?_ | exact bS | exact bX | exact bZ | exact bI | exact bC (π := []) (hs := by first | exact less_spec _ _ | fail) | fail)) ?_
                  | refine oD (id := 22) W59_22 [] O59_22 [_, _, _, _, _, _, _, _, _, _, _] [_] rfl (by repeat' (first | exact trivial | refine And.intro ?_ ?_ | exact bS | exact bX | exact bZ | exact bI | exact bC (π := []) (hs := by first | exact less_spec _ _ | fail) | fail)) ?_
                  | refine oD (id := 23) W59_23 [15, 17] O59_23 [_, _, _, _, _, _, _, _, _, _, _, _, _, _, _, _, _, _] [_, _, _] rfl (by repeat' (first | exact trivial | refine And.intro ?_ ?_ | exact bS | exact bX | exact bZ | exact bI | exact bC (π := []) (hs := by first | exact less_spec _ _ | fail) | fail)) ?_
                  | fail)
                refine IWP_loop (fun x : List Ks × Nat => ⟨133, [(0, .sl 0 0 L.length cap 1), (1, .i64 a), (2, .i64 b), (7, .i64 i), (8, .i64 k), (10, .i64 x.2)], [.arr false (strs x.1)]⟩) (fun x => PS a b L x.1 ∧ SS (fun x y => decide (cS x y < 0)) a i x.1 ∧ i + 1 ≤ x.2 ∧ x.2 ≤ b) (fun x => b - x.2) (N, i + 1) (lP [0]) ⟨hp2, hSS, by simp, by simp only; omega⟩ ?_
                rintro ⟨N2, j2⟩ ⟨hp3, hs3, hj3, hj4⟩
                replace hp3 : PS a b L N2 := hp3
                have hl3 := hp3.len
                simp only at hs3 hj3 hj4 ⊢
                by_cases hjb : j2 < b
                · by_cases hlt2 : cS (gd N2 j2) (gd N2 (j2 - 1)) < 0
                  · repeat' (first
                      | refine IOps_nil ?_
                      | refine oS ?_
                      | refine IOps_s rfl rfl ?_
                      | refine oT ?_
                      | refine IOps_s0 rfl ?_
                      | refine oC (π := []) (hs := by first | exact less_spec _ _ | fail) (hx := ?_)
                      | refine oZ ?_
                      | refine oI ?_
                      | refine thenI_n ?_
                      | refine IWP_seq ?_
                      | refine IWP_region ?_
                      | refine IWP_ct rfl ?_
                      | refine IWP_cf rfl ?_
                      | refine IWP_skip ?_
                      | refine IWP_ret ?_
                      | refine IWP_block ?_
                      | refine inB_n ?_
                      | refine thenI_r ?_
                      | refine thenI_e ?_
                      | refine inB_r ?_
                      | refine inB_hit ?_
                      | refine inB_miss rfl ?_
                      | refine IWP_exit ?_
                      | refine IWP_scope ?_
                      | refine IWP_label ?_
                      | refine noG_n ?_
                      | refine noG_r ?_
                      | refine noG_e ?_
                      | refine jmp_n ?_
                      | refine jmp_r ?_
                      | refine jmp_e ?_
                      | refine jmp_g ?_
                      | refine thenI_g ?_
                      | refine inB_g ?_
                      | refine IWP_goto ?_
                      | refine Loop_n ?_
                      | refine oD (id := 5) W59_5 [] O59_5 [_, _, _, _, _, _, _, _, _, _, _, _, _, _, _, _] [_] rfl (by repeat' (first | exact trivial | refine And.intro ?_ ?_ | exact bS | exact bX | exact bZ | exact bI | exact bC (π := []) (hs := by first | exact less_spec _ _ | fail) | fail)) ?_
                      | refine oD (id := 11) W59_11 [15, 17] O59_11 [_, _, _, _, _, _, _, _, _, _, _, _, _, _, _, _, _, _] [_, _, _] rfl (by repeat' (first | exact trivial | refine And.intro ?_ ?_ | exact bS | exact bX | exact bZ | exact bI | exact bC (π := []) (hs := by first | exact less_spec _ _ | fail) | fail)) ?_
                      | refine oD (id := 16) W59_16 [] O59_16 [_, _, _, _, _, _, _, _, _, _, _] [_] rfl (by repeat' (first | exact trivial | refine And.intro ?_ ?_ | exact bS | exact bX | exact bZ | exact bI | exact bC (π := []) (hs := by first | exact less_spec _ _ | fail) | fail)) ?_
                      | refine oD (id := 17) W59_17 [15, 17] O59_17 [_, _, _, _, _, _, _, _, _, _, _, _, _, _, _, _, _, _] [_, _, _] rfl (by repeat' (first | exact trivial | refine And.intro ?_ ?_ | exact bS | exact bX | exact bZ | exact bI | exact bC (π := []) (hs := by first | exact less_spec _ _ | fail) | fail)) ?_
                      | refine oD (id := 22) W59_22 [] O59_22 [_, _, _, _, _, _, _, _, _, _, _] [_] rfl (by repeat' (first | exact trivial | refine And.intro ?_ ?_ | exact bS | exact bX | exact bZ | exact bI | exact bC (π := []) (hs := by first | exact less_spec _ _ | fail) | fail)) ?_
                      | refine oD (id := 23) W59_23 [15, 17] O59_23 [_, _, _, _, _, _, _, _, _, _, _, _, _, _, _, _, _, _] [_, _, _] rfl (by repeat' (first | exact trivial | refine And.intro ?_ ?_ | exact bS | exact bX | exact bZ | exact bI | exact bC (π := []) (hs := by first | exact less_spec _ _ | fail) | fail)) ?_
                      | fail)
                    exact ⟨(sw N2 j2 (j2 - 1), j2 + 1), ⟨hp3.trans (.sw (by omega) (by omega) (by omega) (by omega) (by omega)), hs3.out (PS.sw (a := i) (b := b) (by omega) (by omega) (by omega) (by omega) (by omega)) (.inr (Nat.le_refl _)), by simp only; omega, by simp only; omega⟩, by simp only; omega, lP [0]⟩
                  · repeat' (first
                      | refine IOps_nil ?_
                      | refine oS ?_
                      | refine IOps_s rfl rfl ?_
                      | refine oT ?_
                      | refine IOps_s0 rfl ?_
                      | refine oC (π := []) (hs := by first | exact less_spec _ _ | fail) (hx := ?_)
                      | refine oZ ?_
                      | refine oI ?_
                      | refine thenI_n ?_
                      | refine IWP_seq ?_
                      | refine IWP_region ?_
                      | refine IWP_ct rfl ?_
                      | refine IWP_cf rfl ?_
                      | refine IWP_skip ?_
                      | refine IWP_ret ?_
                      | refine IWP_block ?_
                      | refine inB_n ?_
                      | refine thenI_r ?_
                      | refine thenI_e ?_
                      | refine inB_r ?_
                      | refine inB_hit ?_
                      | refine inB_miss rfl ?_
                      | refine IWP_exit ?_
                      | refine IWP_scope ?_
                      | refine IWP_label ?_
                      | refine noG_n ?_
                      | refine noG_r ?_
                      | refine noG_e ?_
                      | refine jmp_n ?_
                      | refine jmp_r ?_
                      | refine jmp_e ?_
                      | refine jmp_g ?_
                      | refine thenI_g ?_
                      | refine inB_g ?_
                      | refine IWP_goto ?_
                      | refine Loop_n ?_
                      | refine oD (id := 5) W59_5 [] O59_5 [_, _, _, _, _, _, _, _, _, _, _, _, _, _, _, _] [_] rfl (by repeat' (first | exact trivial | refine And.intro ?_ ?_ | exact bS | exact bX | exact bZ | exact bI | exact bC (π := []) (hs := by first | exact less_spec _ _ | fail) | fail)) ?_
                      | refine oD (id := 11) W59_11 [15, 17] O59_11 [_, _, _, _, _, _, _, _, _, _, _, _, _, _, _, _, _, _] [_, _, _] rfl (by repeat' (first | exact trivial | refine And.intro ?_ ?_ | exact bS | exact bX | exact bZ | exact bI | exact bC (π := []) (hs := by first | exact less_spec _ _ | fail) | fail)) ?_
                      | refine oD (id := 16) W59_16 [] O59_16 [_, _, _, _, _, _, _, _, _, _, _] [_] rfl (by repeat' (first | exact trivial | refine And.intro ?_ ?_ | exact bS | exact bX | exact bZ | exact bI | exact bC (π := []) (hs := by first | exact less_spec _ _ | fail) | fail)) ?_
                      | refine oD (id := 17) W59_17 [15, 17] O59_17 [_, _, _, _, _, _, _, _, _, _, _, _, _, _, _, _, _, _] [_, _, _] rfl (by repeat' (first | exact trivial | refine And.intro ?_ ?_ | exact bS | exact bX | exact bZ | exact bI | exact bC (π := []) (hs := by first | exact less_spec _ _ | fail) | fail)) ?_
                      | refine oD (id := 22) W59_22 [] O59_22 [_, _, _, _, _, _, _, _, _, _, _] [_] rfl (by repeat' (first | exact trivial | refine And.intro ?_ ?_ | exact bS | exact bX | exact bZ | exact bI | exact bC (π := []) (hs := by first | exact less_spec _ _ | fail) | fail)) ?_
                      | refine oD (id := 23) W59_23 [15, 17] O59_23 [_, _, _, _, _, _, _, _, _, _, _, _, _, _, _, _, _, _] [_, _, _] rfl (by repeat' (first | exact trivial | refine And.intro ?_ ?_ | exact bS | exact bX | exact bZ | exact bI | exact bC (π := []) (hs := by first | exact less_spec _ _ | fail) | fail)) ?_
                      | fail)
                    exact ⟨(N2, i, k + 1), ⟨hp3, hs3, by simp only; omega, by simp only; omega, by simp only; omega⟩, by simp only; omega, lP [0]⟩
                · repeat' (first
                    | refine IOps_nil ?_
                    | refine oS ?_
                    | refine IOps_s rfl rfl ?_
                    | refine oT ?_
                    | refine IOps_s0 rfl ?_
                    | refine oC (π := []) (hs := by first | exact less_spec _ _ | fail) (hx := ?_)
                    | refine oZ ?_
                    | refine oI ?_
                    | refine thenI_n ?_
                    | refine IWP_seq ?_
                    | refine IWP_region ?_
                    | refine IWP_ct rfl ?_
                    | refine IWP_cf rfl ?_
                    | refine IWP_skip ?_
                    | refine IWP_ret ?_
                    | refine IWP_block ?_
                    | refine inB_n ?_
                    | refine thenI_r ?_
                    | refine thenI_e ?_
                    | refine inB_r ?_
                    | refine inB_hit ?_
                    | refine inB_miss rfl ?_
                    | refine IWP_exit ?_
                    | refine IWP_scope ?_
                    | refine IWP_label ?_
                    | refine noG_n ?_
                    | refine noG_r ?_
                    | refine noG_e ?_
                    | refine jmp_n ?_
                    | refine jmp_r ?_
                    | refine jmp_e ?_
                    | refine jmp_g ?_
                    | refine thenI_g ?_
                    | refine inB_g ?_
                    | refine IWP_goto ?_
                    | refine Loop_n ?_
                    | refine oD (id := 5) W59_5 [] O59_5 [_, _, _, _, _, _, _, _, _, _, _, _, _, _, _, _] [_] rfl (by repeat' (first | exact trivial | refine And.intro ?_ ?_ | exact bS | exact bX | exact bZ | exact bI | exact bC (π := []) (hs := by first | exact less_spec _ _ | fail) | fail)) ?_
                    | refine oD (id := 11) W59_11 [15, 17] O59_11 [_, _, _, _, _, _, _, _, _, _, _, _, _, _, _, _, _, _] [_, _, _] rfl (by repeat' (first | exact trivial | refine And.intro ?_ ?_ | exact bS | exact bX | exact bZ | exact bI | exact bC (π := []) (hs := by first | exact less_spec _ _ | fail) | fail)) ?_
                    | refine oD (id := 16) W59_16 [] O59_16 [_, _, _, _, _, _, _, _, _, _, _] [_] rfl (by repeat' (first | exact trivial | refine And.intro ?_ ?_ | exact bS | exact bX | exact bZ | exact bI | exact bC (π := []) (hs := by first | exact less_spec _ _ | fail) | fail)) ?_
                    | refine oD (id := 17) W59_17 [15, 17] O59_17 [_, _, _, _, _, _, _, _, _, _, _, _, _, _, _, _, _, _] [_, _, _] rfl (by repeat' (first | exact trivial | refine And.intro ?_ ?_ | exact bS | exact bX | exact bZ | exact bI | exact bC (π := []) (hs := by first | exact less_spec _ _ | fail) | fail)) ?_
                    | refine oD (id := 22) W59_22 [] O59_22 [_, _, _, _, _, _, _, _, _, _, _] [_] rfl (by repeat' (first | exact trivial | refine And.intro ?_ ?_ | exact bS | exact bX | exact bZ | exact bI | exact bC (π := []) (hs := by first | exact less_spec _ _ | fail) | fail)) ?_
                    | refine oD (id := 23) W59_23 [15, 17] O59_23 [_, _, _, _, _, _, _, _, _, _, _, _, _, _, _, _, _, _] [_, _, _] rfl (by repeat' (first | exact trivial | refine And.intro ?_ ?_ | exact bS | exact bX | exact bZ | exact bI | exact bC (π := []) (hs := by first | exact less_spec _ _ | fail) | fail)) ?_
                    | fail)
                  exact ⟨(N2, i, k + 1), ⟨hp3, hs3, by simp only; omega, by simp only; omega, by simp only; omega⟩, by simp only; omega, lP [0]⟩
              · repeat' (first
                  | refine IOps_nil ?_
                  | refine oS ?_
                  | refine IOps_s rfl rfl ?_
                  | refine oT ?_
                  | refine IOps_s0 rfl ?_
                  | refine oC (π := []) (hs := by first | exact less_spec _ _ | fail) (hx := ?_)
                  | refine oZ ?_
                  | refine oI ?_
                  | refine thenI_n ?_
                  | refine IWP_seq ?_
                  | refine IWP_region ?_
                  | refine IWP_ct rfl ?_
                  | refine IWP_cf rfl ?_
                  | refine IWP_skip ?_
                  | refine IWP_ret ?_
                  | refine IWP_block ?_
                  | refine inB_n ?_
                  | refine thenI_r ?_
                  | refine thenI_e ?_
                  | refine inB_r ?_
                  | refine inB_hit ?_
                  | refine inB_miss rfl ?_
                  | refine IWP_exit ?_
                  | refine IWP_scope ?_
                  | refine IWP_label ?_
                  | refine noG_n ?_
                  | refine noG_r ?_
                  | refine noG_e ?_
                  | refine jmp_n ?_
                  | refine jmp_r ?_
                  | refine jmp_e ?_
                  | refine jmp_g ?_
                  | refine thenI_g ?_
                  | refine inB_g ?_
                  | refine IWP_goto ?_
                  | refine Loop_n ?_
                  | refine oD (id := 5) W59_5 [] O59_5 [_, _, _, _, _, _, _, _, _, _, _, _, _, _, _, _] [_] rfl (by repeat' (first | exact trivial | refine And.intro ?_ ?_ | exact bS | exact bX | exact bZ | exact bI | exact bC (π := []) (hs := by first | exact less_spec _ _ | fail) | fail)) ?_
                  | refine oD (id := 11) W59_11 [15, 17] O59_11 [_, _, _, _, _, _, _, _, _, _, _, _, _, _, _, _, _, _] [_, _, _] rfl (by repeat' (first | exact trivial | refine And.intro ?_ ?_ | exact bS | exact bX | exact bZ | exact bI | exact bC (π := []) (hs := by first | exact less_spec _ _ | fail) | fail)) ?_
                  | refine oD (id := 16) W59_16 [] O59_16 [_, _, _, _, _, _, _, _, _, _, _] [_] rfl (by repeat' (first | exact trivial | refine And.intro ?_ ?_ | exact bS | exact bX | exact bZ | exact bI | exact bC (π := []) (hs := by first | exact less_spec _ _ | fail) | fail)) ?_
                  | refine oD (id := 17) W59_17 [15, 17] O59_17 [_, _, _, _, _, _, _, _, _, _, _, _, _, _, _, _, _, _] [_, _, _] rfl (by repeat' (first | exact trivial | refine And.intro ?_ ?_ | exact bS | exact bX | exact bZ | exact bI | exact bC (π := []) (hs := by first | exact less_spec _ _ | fail) | fail)) ?_
                  | refine oD (id := 22) W59_22 [] O59_22 [_, _, _, _, _, _, _, _, _, _, _] [_] rfl (by repeat' (first | exact trivial | refine And.intro ?_ ?_ | exact bS | exact bX | exact bZ | exact bI | exact bC (π := []) (hs := by first | exact less_spec _ _ | fail) | fail)) ?_
                  | refine oD (id := 23) W59_23 [15, 17] O59_23 [_, _, _, _, _, _, _, _, _, _, _, _, _, _, _, _, _, _] [_, _, _] rfl (by repeat' (first | exact trivial | refine And.intro ?_ ?_ | exact bS | exact bX | exact bZ | exact bI | exact bC (π := []) (hs := by first | exact less_spec _ _ | fail) | fail)) ?_
                  | fail)
                exact ⟨(N, i, k + 1), ⟨hp2, hSS, by simp only; omega, by simp only; omega, by simp only; omega⟩, by simp only; omega, lP [0]⟩
          · have hss : SS (fun x y => decide (cS x y < 0)) a i (sw M i (i - 1)) := fun p q h1 h2 h3 => by omega
            by_cases hb2 : i + 2 ≤ b
            · repeat' (first
                | refine IOps_nil ?_
                | refine oS ?_
                | refine IOps_s rfl rfl ?_
                | refine oT ?_
                | refine IOps_s0 rfl ?_
                | refine oC (π := []) (hs := by first | exact less_spec _ _ | fail) (hx := ?_)
                | refine oZ ?_
                | refine oI ?_
                | refine thenI_n ?_
                | refine IWP_seq ?_
                | refine IWP_region ?_
                | refine IWP_ct rfl ?_
                | refine IWP_cf rfl ?_
                | refine IWP_skip ?_
                | refine IWP_ret ?_
                | refine IWP_block ?_
                | refine inB_n ?_
                | refine thenI_r ?_
                | refine thenI_e ?_
                | refine inB_r ?_
                | refine inB_hit ?_
                | refine inB_miss rfl ?_
                | refine IWP_exit ?_
                | refine IWP_scope ?_
                | refine IWP_label ?_
                | refine noG_n ?_
                | refine noG_r ?_
                | refine noG_e ?_
                | refine jmp_n ?_
                | refine jmp_r ?_
                | refine jmp_e ?_
                | refine jmp_g ?_
                | refine thenI_g ?_
                | refine inB_g ?_
                | refine IWP_goto ?_
                | refine Loop_n ?_
                | refine oD (id := 5) W59_5 [] O59_5 [_, _, _, _, _, _, _, _, _, _, _, _, _, _, _, _] [_] rfl (by repeat' (first | exact trivial | refine And.intro ?_ ?_ | exact bS | exact bX | exact bZ | exact bI | exact bC (π := []) (hs := by first | exact less_spec _ _ | fail) | fail)) ?_
                | refine oD (id := 11) W59_11 [15, 17] O59_11 [_, _, _, _, _, _, _, _, _, _, _, _, _, _, _, _, _, _] [_, _, _] rfl (by repeat' (first | exact trivial | refine And.intro ?_ ?_ | exact bS | exact bX | exact bZ | exact bI | exact bC (π := []) (hs := by first | exact less_spec _ _ | fail) | fail)) ?_
                | refine oD (id := 16) W59_16 [] O59_16 [_, _, _, _, _, _, _, _, _, _, _] [_] rfl (by repeat' (first | exact trivial | refine And.intro ?_ ?_ | exact bS | exact bX | exact bZ | exact bI | exact bC (π := []) (hs := by first | exact less_spec _ _ | fail) | fail)) ?_
                | refine oD (id := 17) W59_17 [15, 17] O59_17 [_, _, _, _, _, _, _, _, _, _, _, _, _, _, _, _, _, _] [_, _, _] rfl (by repeat' (first | exact trivial | refine And.intro ?_ ?_ | exact bS | exact bX | exact bZ | exact bI | exact bC (π := []) (hs := by first | exact less_spec _ _ | fail) | fail)) ?_
                | refine oD (id := 22) W59_22 [] O59_22 [_, _, _, _, _, _, _, _, _, _, _] [_] rfl (by repeat' (first | exact trivial | refine And.intro ?_ ?_ | exact bS | exact bX | exact bZ | exact bI | exact bC (π := []) (hs := by first | exact less_spec _ _ | fail) | fail)) ?_
                | refine oD (id := 23) W59_23 [15, 17] O59_23 [_, _, _, _, _, _, _, _, _, _, _, _, _, _, _, _, _, _] [_, _, _] rfl (by repeat' (first | exact trivial | refine And.intro ?_ ?_ | exact bS | exact bX | exact bZ | exact bI | exact bC (π := []) (hs := by first | exact less_spec _ _ | fail) | fail)) ?_
                | fail)
              refine IWP_loop (fun x : List Ks × Nat => ⟨133, [(0, .sl 0 0 L.length cap 1), (1, .i64 a), (2, .i64 b), (7, .i64 i), (8, .i64 k), (10, .i64 x.2)], [.arr false (strs x.1)]⟩) (fun x => PS a b L x.1 ∧ SS (fun x y => decide (cS x y < 0)) a i x.1 ∧ i + 1 ≤ x.2 ∧ x.2 ≤ b) (fun x => b - x.2) (sw M i (i - 1), i + 1) (lP [0]) ⟨(hp.trans hsw), hss, by simp, by simp only; omega⟩ ?_
              rintro ⟨N2, j2⟩ ⟨hp3, hs3, hj3, hj4⟩
              replace hp3 : PS a b L N2 := hp3
              have hl3 := hp3.len
              simp only at hs3 hj3 hj4 ⊢
              by_cases hjb : j2 < b
              · by_cases hlt2 : cS (gd N2 j2) (gd N2 (j2 - 1)) < 0
                · repeat' (first
                    | refine IOps_nil ?_
                    | refine oS ?_
                    | refine IOps_s rfl rfl ?_
                    | refine oT ?_
                    | refine IOps_s0 rfl ?_
                    | refine oC (π := []) (hs := by first | exact less_spec _ _ | fail) (hx := ?_)
                    | refine oZ ?_
                    | refine oI ?_
                    | refine thenI_n ?_
                    | refine IWP_seq ?_
                    | refine IWP_region ?_
                    | refine IWP_ct rfl ?_
                    | refine IWP_cf rfl ?_
                    | refine IWP_skip ?_
                    | refine IWP_ret ?_
                    | refine IWP_block ?_
                    | refine inB_n ?_
                    | refine thenI_r ?_
                    | refine thenI_e ?_
                    | refine inB_r ?_
                    | refine inB_hit ?_
                    | refine inB_miss rfl ?_
                    | refine IWP_exit ?_
                    | refine IWP_scope ?_
                    | refine IWP_label ?_
                    | refine noG_n ?_
                    | refine noG_r ?_
                    | refine noG_e ?_
                    | refine jmp_n ?_
                    | refine jmp_r ?_
                    | refine jmp_e ?_
                    | refine jmp_g ?_
                    | refine thenI_g ?_
                    | refine inB_g ?_
                    | refine IWP_goto ?_
                    | refine Loop_n ?_
                    | refine oD (id := 5) W59_5 [] O59_5 [_, _, _, _, _, _, _, _, _, _, _, _, _, _, _, _] [_] rfl (by repeat' (first | exact trivial | refine And.intro ?_ ?_ | exact bS | exact bX | exact bZ | exact bI | exact bC (π := []) (hs := by first | exact less_spec _ _ | fail) | fail)) ?_
                    | refine oD (id := 11) W59_11 [15, 17] O59_11 [_, _, _, _, _, _, _, _, _, _, _, _, _, _, _, _, _, _] [_, _, _] rfl (by repeat' (first | exact trivial | refine And.intro ?_ ?_ | exact bS | exact bX | exact bZ | exact bI | exact bC (π := []) (hs := by first | exact less_spec _ _ | fail) | fail)) ?_
                    | refine oD (id := 16) W59_16 [] O59_16 [_, _, _, _, _, _, _, _, _, _, _] [_] rfl (by repeat' (first | exact trivial | refine And.intro ?_ ?_ | exact bS | exact bX | exact bZ | exact bI | exact bC (π := []) (hs := by first | exact less_spec _ _ | fail) | fail)) ?_
                    | refine oD (id := 17) W59_17 [15, 17] O59_17 [_, _, _, _, _, _, _, _, _, _, _, _, _, _, _, _, _, _] [_, _, _] rfl (by repeat' (first | exact trivial | refine And.intro ?_ ?_ | exact bS | exact bX | exact bZ | exact bI | exact bC (π := []) (hs := by first | exact less_spec _ _ | fail) | fail)) ?_
                    | refine oD (id := 22) W59_22 [] O59_22 [_, _, _, _, _, _, _, _, _, _, _] [_] rfl (by repeat' (first | exact trivial | refine And.intro ?_ ?_ | exact bS | exact bX | exact bZ | exact bI | exact bC (π := []) (hs := by first | exact less_spec _ _ | fail) | fail)) ?_
                    | refine oD (id := 23) W59_23 [15, 17] O59_23 [_, _, _, _, _, _, _, _, _, _, _, _, _, _, _, _, _, _] [_, _, _] rfl (by repeat' (first | exact trivial | refine And.intro ?_ ?_ | exact bS | exact bX | exact bZ | exact bI | exact bC (π := []) (hs := by first | exact less_spec _ _ | fail) | fail)) ?_
                    | fail)
                  exact ⟨(sw N2 j2 (j2 - 1), j2 + 1), ⟨hp3.trans (.sw (by omega) (by omega) (by omega) (by omega) (by omega)), hs3.out (PS.sw (a := i) (b := b) (by omega) (by omega) (by omega) (by omega) (by omega)) (.inr (Nat.le_refl _)), by simp only; omega, by simp only; omega⟩, by simp only; omega, lP [0]⟩
                · repeat' (first
                    | refine IOps_nil ?_
                    | refine oS ?_
                    | refine IOps_s rfl rfl ?_
                    | refine oT ?_
                    | refine IOps_s0 rfl ?_
                    | refine oC (π := []) (hs := by first | exact less_spec _ _ | fail) (hx := ?_)
                    | refine oZ ?_
                    | refine oI ?_
                    | refine thenI_n ?_
                    | refine IWP_seq ?_
                    | refine IWP_region ?_
                    | refine IWP_ct rfl ?_
                    | refine IWP_cf rfl ?_
                    | refine IWP_skip ?_
                    | refine IWP_ret ?_
                    | refine IWP_block ?_
                    | refine inB_n ?_
                    | refine thenI_r ?_
                    | refine thenI_e ?_
                    | refine inB_r ?_
                    | refine inB_hit ?_
                    | refine inB_miss rfl ?_
                    | refine IWP_exit ?_
                    | refine IWP_scope ?_
                    | refine IWP_label ?_
                    | refine noG_n ?_
                    | refine noG_r ?_
                    | refine noG_e ?_
                    | refine jmp_n ?_
                    | refine jmp_r ?_
                    | refine jmp_e ?_
                    | refine jmp_g ?_
                    | refine thenI_g ?_
                    | refine inB_g ?_
                    | refine IWP_goto ?_
                    | refine Loop_n ?_
                    | refine oD (id := 5) W59_5 [] O59_5 [_, _, _, _, _, _, _, _, _, _, _, _, _, _, _, _] [_] rfl (by repeat' (first | exact trivial | refine And.intro ?_ ?_ | exact bS | exact bX | exact bZ | exact bI | exact bC (π := []) (hs := by first | exact less_spec _ _ | fail) | fail)) ?_
                    | refine oD (id := 11) W59_11 [15, 17] O59_11 [_, _, _, _, _, _, _, _, _, _, _, _, _, _, _, _, _, _] [_, _, _] rfl (by repeat' (first | exact trivial | refine And.intro ?_ ?_ | exact bS | exact bX | exact bZ | exact bI | exact bC (π := []) (hs := by first | exact less_spec _ _ | fail) | fail)) ?_
                    | refine oD (id := 16) W59_16 [] O59_16 [_, _, _, _, _, _, _, _, _, _, _] [_] rfl (by repeat' (first | exact trivial | refine And.intro ?_ ?_ | exact bS | exact bX | exact bZ | exact bI | exact bC (π := []) (hs := by first | exact less_spec _ _ | fail) | fail)) ?_
                    | refine oD (id := 17) W59_17 [15, 17] O59_17 [_, _, _, _, _, _, _, _, _, _, _, _, _, _, _, _, _, _] [_, _, _] rfl (by repeat' (first | exact trivial | refine And.intro ?_ ?_ | exact bS | exact bX | exact bZ | exact bI | exact bC (π := []) (hs := by first | exact less_spec _ _ | fail) | fail)) ?_
                    | refine oD (id := 22) W59_22 [] O59_22 [_, _, _, _, _, _, _, _, _, _, _] [_] rfl (by repeat' (first | exact trivial | refine And.intro ?_ ?_ | exact bS | exact bX | exact bZ | exact bI | exact bC (π := []) (hs := by first | exact less_spec _ _ | fail) | fail)) ?_
                    | refine oD (id := 23) W59_23 [15, 17] O59_23 [_, _, _, _, _, _, _, _, _, _, _, _, _, _, _, _, _, _] [_, _, _] rfl (by repeat' (first | exact trivial | refine And.intro ?_ ?_ | exact bS | exact bX | exact bZ | exact bI | exact bC (π := []) (hs := by first | exact less_spec _ _ | fail) | fail)) ?_
                    | fail)
                  exact ⟨(N2, i, k + 1), ⟨hp3, hs3, by simp only; omega, by simp only; omega, by simp only; omega⟩, by simp only; omega, lP [0]⟩
              · repeat' (first
                  | refine IOps_nil ?_
                  | refine oS ?_
                  | refine IOps_s rfl rfl ?_
                  | refine oT ?_
                  | refine IOps_s0 rfl ?_
                  | refine oC (π := []) (hs := by first | exact less_spec _ _ | fail) (hx := ?_)
                  | refine oZ ?_
                  | refine oI ?_
                  | refine thenI_n ?_
                  | refine IWP_seq ?_
                  | refine IWP_region ?_
                  | refine IWP_ct rfl ?_
                  | refine IWP_cf rfl ?_
                  | refine IWP_skip ?_
                  | refine IWP_ret ?_
                  | refine IWP_block ?_
                  | refine inB_n ?_
                  | refine thenI_r ?_
                  | refine thenI_e ?_
                  | refine inB_r ?_
                  | refine inB_hit ?_
                  | refine inB_miss rfl ?_
                  | refine IWP_exit ?_
                  | refine IWP_scope ?_
                  | refine IWP_label ?_
                  | refine noG_n ?_
                  | refine noG_r ?_
                  | refine noG_e ?_
                  | refine jmp_n ?_
                  | refine jmp_r ?_
                  | refine jmp_e ?_
                  | refine jmp_g ?_
                  | refine thenI_g ?_
                  | refine inB_g ?_
                  | refine IWP_goto ?_
                  | refine Loop_n ?_
                  | refine oD (id := 5) W59_5 [] O59_5 [_, _, _, _, _, _, _, _, _, _, _, _, _, _, _, _] [_] rfl (by repeat' (first | exact trivial | refine And.intro ?_ ?_ | exact bS | exact bX | exact bZ | exact bI | exact bC (π := []) (hs := by first | exact less_spec _ _ | fail) | fail)) ?_
                  | refine oD (id := 11) W59_11 [15, 17] O59_11 [_, _, _, _, _, _, _, _, _, _, _, _, _, _, _, _, _, _] [_, _, _] rfl (by repeat' (first | exact trivial | refine And.intro ?_ ?_ | exact bS | exact bX | exact bZ | exact bI | exact bC (π := []) (hs := by first | exact less_spec _ _ | fail) | fail)) ?_
                  | refine oD (id := 16) W59_16 [] O59_16 [_, _, _, _, _, _, _, _, _, _, _] [_] rfl (by repeat' (first | exact trivial | refine And.intro ?_ ?_ | exact bS | exact bX | exact bZ | exact bI | exact bC (π := []) (hs := by first | exact less_spec _ _ | fail) | fail)) ?_
                  | refine oD (id := 17) W59_17 [15, 17] O59_17 [_, _, _, _, _, _, _, _, _, _, _, _, _, _, _, _, _, _] [_, _, _] rfl (by repeat' (first | exact trivial | refine And.intro ?_ ?_ | exact bS | exact bX | exact bZ | exact bI | exact bC (π := []) (hs := by first | exact less_spec _ _ | fail) | fail)) ?_
                  | refine oD (id := 22) W59_22 [] O59_22 [_, _, _, _, _, _, _, _, _, _, _] [_] rfl (by repeat' (first | exact trivial | refine And.intro ?_ ?_ | exact bS | exact bX | exact bZ | exact bI | exact bC (π := []) (hs := by first | exact less_spec _ _ | fail) | fail)) ?_
                  | refine oD (id := 23) W59_23 [15, 17] O59_23 [_, _, _, _, _, _, _, _, _, _, _, _, _, _, _, _, _, _] [_, _, _] rfl (by repeat' (first | exact trivial | refine And.intro ?_ ?_ | exact bS | exact bX | exact bZ | exact bI | exact bC (π := []) (hs := by first | exact less_spec _ _ | fail) | fail)) ?_
                  | fail)
                exact ⟨(N2, i, k + 1), ⟨hp3, hs3, by simp only; omega, by simp only; omega, by simp only; omega⟩, by simp only; omega, lP [0]⟩
            · exfalso; omega
      · repeat' (first
          | refine IOps_nil ?_
          | refine oS ?_
          | refine IOps_s rfl rfl ?_
          | refine oT ?_
          | refine IOps_s0 rfl ?_
          | refine oC (π := []) (hs := by first | exact less_spec _ _ | fail) (hx := ?_)
          | refine oZ ?_
          | refine oI ?_
          | refine thenI_n ?_
          | refine IWP_seq ?_
          | refine IWP_region ?_
          | refine IWP_ct rfl ?_
          | refine IWP_cf rfl ?_
          | refine IWP_skip ?_
          | refine IWP_ret ?_
          | refine IWP_block ?_
          | refine inB_n ?_
          | refine thenI_r ?_
          | refine thenI_e ?_
          | refine inB_r ?_
          | refine inB_hit ?_
          | refine inB_miss rfl ?_
          | refine IWP_exit ?_
          | refine IWP_scope ?_
          | refine IWP_label ?_
          | refine noG_n ?_
          | refine noG_r ?_
          | refine noG_e ?_
          | refine jmp_n ?_
          | refine jmp_r ?_
          | refine jmp_e ?_
          | refine jmp_g ?_
          | refine thenI_g ?_
          | refine inB_g ?_
          | refine IWP_goto ?_
          | refine Loop_n ?_
          | refine oD (id := 5) W59_5 [] O59_5 [_, _, _, _, _, _, _, _, _, _, _, _, _, _, _, _] [_] rfl (by repeat' (first | exact trivial | refine And.intro ?_ ?_ | exact bS | exact bX | exact bZ | exact bI | exact bC (π := []) (hs := by first | exact less_spec _ _ | fail) | fail)) ?_
          | refine oD (id := 11) W59_11 [15, 17] O59_11 [_, _, _, _, _, _, _, _, _, _, _, _, _, _, _, _, _, _] [_, _, _] rfl (by repeat' (first | exact trivial | refine And.intro ?_ ?_ | exact bS | exact bX | exact bZ | exact bI | exact bC (π := []) (hs := by first | exact less_spec _ _ | fail) | fail)) ?_
          | refine oD (id := 16) W59_16 [] O59_16 [_, _, _, _, _, _, _, _, _, _, _] [_] rfl (by repeat' (first | exact trivial | refine And.intro ?_ ?_ | exact bS | exact bX | exact bZ | exact bI | exact bC (π := []) (hs := by first | exact less_spec _ _ | fail) | fail)) ?_
          | refine oD (id := 17) W59_17 [15, 17] O59_17 [_, _, _, _, _, _, _, _, _, _, _, _, _, _, _, _, _, _] [_, _, _] rfl (by repeat' (first | exact trivial | refine And.intro ?_ ?_ | exact bS | exact bX | exact bZ | exact bI | exact bC (π := []) (hs := by first | exact less_spec _ _ | fail) | fail)) ?_
          | refine oD (id := 22) W59_22 [] O59_22 [_, _, _, _, _, _, _, _, _, _, _] [_] rfl (by repeat' (first | exact trivial | refine And.intro ?_ ?_ | exact bS | exact bX | exact bZ | exact bI | exact bC (π := []) (hs := by first | exact less_spec _ _ | fail) | fail)) ?_
          | refine oD (id := 23) W59_23 [15, 17] O59_23 [_, _, _, _, _, _, _, _, _, _, _, _, _, _, _, _, _, _] [_, _, _] rfl (by repeat' (first | exact trivial | refine And.intro ?_ ?_ | exact bS | exact bX | exact bZ | exact bI | exact bC (π := []) (hs := by first | exact less_spec _ _ | fail) | fail)) ?_
          | fail)
        exact ⟨i + 1, ⟨InsI.fits oc (InsI.start hs) hi1 (decide_eq_false hlt), by omega, by omega⟩, by omega, lP [0]⟩
    · obtain rfl : i = b := by omega
      repeat' (first
        | refine IOps_nil ?_
        | refine oS ?_
        | refine IOps_s rfl rfl ?_
        | refine oT ?_
        | refine IOps_s0 rfl ?_
        | refine oC (π := []) (hs := by first | exact less_spec _ _ | fail) (hx := ?_)
        | refine oZ ?_
        | refine oI ?_
        | refine thenI_n ?_
        | refine IWP_seq ?_
        | refine IWP_region ?_
        | refine IWP_ct rfl ?_
        | refine IWP_cf rfl ?_
        | refine IWP_skip ?_
        | refine IWP_ret ?_
        | refine IWP_block ?_
        | refine inB_n ?_
        | refine thenI_r ?_
        | refine thenI_e ?_
        | refine inB_r ?_
        | refine inB_hit ?_
        | refine inB_miss rfl ?_
        | refine IWP_exit ?_
        | refine IWP_scope ?_
        | refine IWP_label ?_
        | refine noG_n ?_
        | refine noG_r ?_
        | refine noG_e ?_
        | refine jmp_n ?_
        | refine jmp_r ?_
        | refine jmp_e ?_
        | refine jmp_g ?_
        | refine thenI_g ?_
        | refine inB_g ?_
        | refine IWP_goto ?_
        | refine Loop_n ?_
        | refine oD (id := 5) W59_5 [] O59_5 [_, _, _, _, _, _, _, _, _, _, _, _, _, _, _, _] [_] rfl (by repeat' (first | exact trivial | refine And.intro ?_ ?_ | exact bS | exact bX | exact bZ | exact bI | exact bC (π := []) (hs := by first | exact less_spec _ _ | fail) | fail)) ?_
        | refine oD (id := 11) W59_11 [15, 17] O59_11 [_, _, _, _, _, _, _, _, _, _, _, _, _, _, _, _, _, _] [_, _, _] rfl (by repeat' (first | exact trivial | refine And.intro ?_ ?_ | exact bS | exact bX | exact bZ | exact bI | exact bC (π := []) (hs := by first | exact less_spec _ _ | fail) | fail)) ?_
        | refine oD (id := 16) W59_16 [] O59_16 [_, _, _, _, _, _, _, _, _, _, _] [_] rfl (by repeat' (first | exact trivial | refine And.intro ?_ ?_ | exact bS | exact bX | exact bZ | exact bI | exact bC (π := []) (hs := by first | exact less_spec _ _ | fail) | fail)) ?_
        | refine oD (id := 17) W59_17 [15, 17] O59_17 [_, _, _, _, _, _, _, _, _, _, _, _, _, _, _, _, _, _] [_, _, _] rfl (by repeat' (first | exact trivial | refine And.intro ?_ ?_ | exact bS | exact bX | exact bZ | exact bI | exact bC (π := []) (hs := by first | exact less_spec _ _ | fail) | fail)) ?_
        | refine oD (id := 22) W59_22 [] O59_22 [_, _, _, _, _, _, _, _, _, _, _] [_] rfl (by repeat' (first | exact trivial | refine And.intro ?_ ?_ | exact bS | exact bX | exact bZ | exact bI | exact bC (π := []) (hs := by first | exact less_spec _ _ | fail) | fail)) ?_
        | refine oD (id := 23) W59_23 [15, 17] O59_23 [_, _, _, _, _, _, _, _, _, _, _, _, _, _, _, _, _, _] [_, _, _] rfl (by repeat' (first | exact trivial | refine And.intro ?_ ?_ | exact bS | exact bX | exact bZ | exact bI | exact bC (π := []) (hs := by first | exact less_spec _ _ | fail) | fail)) ?_
        | fail)
      exact pX [0] (M, true) ⟨hp, fun _ => hs⟩ rfl
  · repeat' (first
      | refine IOps_nil ?_
      | refine oS ?_
      | refine IOps_s rfl rfl ?_
      | refine oT ?_
      | refine IOps_s0 rfl ?_
      | refine oC (π := []) (hs := by first | exact less_spec _ _ | fail) (hx := ?_)
      | refine oZ ?_
      | refine oI ?_
      | refine thenI_n ?_
      | refine IWP_seq ?_
      | refine IWP_region ?_
      | refine IWP_ct rfl ?_
      | refine IWP_cf rfl ?_
      | refine IWP_skip ?_
      | refine IWP_ret ?_
      | refine IWP_block ?_
      | refine inB_n ?_
      | refine thenI_r ?_
      | refine thenI_e ?_
      | refine inB_r ?_
      | refine inB_hit ?_
      | refine inB_miss rfl ?_
      | refine IWP_exit ?_
      | refine IWP_scope ?_
      | refine IWP_label ?_
      | refine noG_n ?_
      | refine noG_r ?_
      | refine noG_e ?_
      | refine jmp_n ?_
      | refine jmp_r ?_
      | refine jmp_e ?_
      | refine jmp_g ?_
      | refine thenI_g ?_
      | refine inB_g ?_
      | refine IWP_goto ?_
      | refine Loop_n ?_
      | refine oD (id := 5) W59_5 [] O59_5 [_, _, _, _, _, _, _, _, _, _, _, _, _, _, _, _] [_] rfl (by repeat' (first | exact trivial | refine And.intro ?_ ?_ | exact bS | exact bX | exact bZ | exact bI | exact bC (π := []) (hs := by first | exact less_spec _ _ | fail) | fail)) ?_
      | refine oD (id := 11) W59_11 [15, 17] O59_11 [_, _, _, _, _, _, _, _, _, _, _, _, _, _, _, _, _, _] [_, _, _] rfl (by repeat' (first | exact trivial | refine And.intro ?_ ?_ | exact bS | exact bX | exact bZ | exact bI | exact bC (π := []) (hs := by first | exact less_spec _ _ | fail) | fail)) ?_
      | refine oD (id := 16) W59_16 [] O59_16 [_, _, _, _, _, _, _, _, _, _, _] [_] rfl (by repeat' (first | exact trivial | refine And.intro ?_ ?_ | exact bS | exact bX | exact bZ | exact bI | exact bC (π := []) (hs := by first | exact less_spec _ _ | fail) | fail)) ?_
      | refine oD (id := 17) W59_17 [15, 17] O59_17 [_, _, _, _, _, _, _, _, _, _, _, _, _, _, _, _, _, _] [_, _, _] rfl (by repeat' (first | exact trivial | refine And.intro ?_ ?_ | exact bS | exact bX | exact bZ | exact bI | exact bC (π := []) (hs := by first | exact less_spec _ _ | fail) | fail)) ?_
      | refine oD (id := 22) W59_22 [] O59_22 [_, _, _, _, _, _, _, _, _, _, _] [_] rfl (by repeat' (first | exact trivial | refine And.intro ?_ ?_ | exact bS | exact bX | exact bZ | exact bI | exact bC (π := []) (hs := by first | exact less_spec _ _ | fail) | fail)) ?_
      | refine oD (id := 23) W59_23 [15, 17] O59_23 [_, _, _, _, _, _, _, _, _, _, _, _, _, _, _, _, _, _] [_, _, _] rfl (by repeat' (first | exact trivial | refine And.intro ?_ ?_ | exact bS | exact bX | exact bZ | exact bI | exact bC (π := []) (hs := by first | exact less_spec _ _ | fail) | fail)) ?_
      | fail)
    exact pX [0] (M, false) ⟨hp, by simp⟩ rfl
end Go.Proofs.Ytmgcoopmbohkoaa
