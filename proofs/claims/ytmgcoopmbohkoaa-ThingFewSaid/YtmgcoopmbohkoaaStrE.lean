/-
  Sorting, at texts: parting off the equal ones; sorting a part by insertion.
-/
import Derived.Test.YtmgcoopmbohkoaaStM
namespace Go.Proofs.Ytmgcoopmbohkoaa
open Go Go.Idl
set_option linter.unusedSimpArgs false
set_option linter.unusedVariables false
set_option maxRecDepth 100000
set_option maxHeartbeats 1000000
attribute [local irreducible] Go.Idl.IWP Go.Idl.IOps Go.Idl.Obl Go.Idl.OpG Go.Idl.thenI Go.Idl.inBlockI Go.Idl.LoopU Go.Idl.noGotoI Go.Idl.jumpI
attribute [local go_sem] List.length_set
theorem PI.eqEnd {a b i j : Nat} {L M : List Ks} (oc : OrdL fun x y => decide (cS x y < 0)) (h : PI (fun x y => !decide (cS y x < 0)) a b i j L M) (hij : j < i) :
    (∀ p, a ≤ p → p < i → ¬ cS (gd M a) (gd M p) < 0) ∧ ∀ q, i ≤ q → q < b → cS (gd M a) (gd M q) < 0 := by
  refine ⟨fun p h1 h2 => ?_, fun q h1 h2 => ?_⟩
  · rcases Nat.eq_or_lt_of_le h1 with rfl | h3
    · have := oc.irr (gd M a); simpa using this
    · have := h.less p h3 h2; simpa using this
  · have := h.more q (by omega) h2; simpa using this

theorem parteq_spec (L : List Ks) (a b k cap : Nat) (oc : OrdL fun x y => decide (cS x y < 0)) (hak : a ≤ k) (hkb : k < b) (hb : b ≤ L.length) (hL : L.length ≤ 1000000000) :
    Idl.Spec Try.prog 61 [.sl 0 0 L.length cap 1, .i64 a, .i64 b, .i64 k] [.arr false (strs L)]
      (Ex (fun x : List Ks × Nat => PS a b L x.1 ∧ a < x.2 ∧ x.2 ≤ b ∧ (∀ p, a ≤ p → p < x.2 → ¬ cS (gd L k) (gd x.1 p) < 0) ∧ ∀ q, x.2 ≤ q → q < b → cS (gd L k) (gd x.1 q) < 0) (fun x => .i64 x.2) (fun x => [.arr false (strs x.1)])) := by
  refine sE Try.func61 Try.ntmps61 ?_
  repeat' (first
    | refine IOps_nil ?_
    | refine oS ?_
    | refine IOps_s rfl rfl ?_
    | refine oT ?_
    | refine IOps_s0 rfl ?_
    | refine oC (π := []) (hs := by first | exact less_spec _ _ | fail) (hx := ?_)
    | refine oZ ?_
    | refine oI ?_
    | refine thenI_n ?_
    | refine IWP_seq ?_
    | refine IWP_region ?_
    | refine IWP_ct rfl ?_
    | refine IWP_cf rfl ?_
    | refine IWP_skip ?_
    | refine IWP_ret ?_
    | refine IWP_block ?_
    | refine inB_n ?_
    | refine thenI_r ?_
    | refine thenI_e ?_
    | refine inB_r ?_
    | refine inB_hit ?_
    | refine inB_miss rfl ?_
    | refine IWP_exit ?_
    | refine IWP_scope ?_
    | refine IWP_label ?_
    | refine noG_n ?_
    | refine noG_r ?_
    | refine noG_e ?_
    | refine jmp_n ?_
    | refine jmp_r ?_
    | refine jmp_e ?_
    | refine jmp_g ?_
    | refine thenI_g ?_
    | refine inB_g ?_
    | refine IWP_goto ?_
    | refine Loop_n ?_
    | refine oD (id := 1) W61_1 [13, 15] O61_1 [_, _, _, _, _, _, _, _, _, _, _, _, _, _, _, _] [_, _, _] rfl (by repeat' (first | exact trivial | refine And.intro ?_ ?_ | exact bS | exact bX | exact bZ | exact bI | exact bC (π := []) (hs := by first | exact less_spec _ _ | fail) | fail)) ?_
    | refine oD (id := 3) W61_3 [] O61_3 [_, _, _, _, _, _, _, _, _, _, _, _, _, _, _] [_] rfl (by repeat' (first | exact trivial | refine And.intro ?_ ?_ | exact bS | exact bX | exact bZ | exact bI | exact bC (π := []) (hs := by first | exact less_spec _ _ | fail) | fail)) ?_
    | refine oD (id := 5) W61_5 [] O61_5 [_, _, _, _, _, _, _, _, _, _, _, _, _, _] [_] rfl (by repeat' (first | exact trivial | refine And.intro ?_ ?_ | exact bS | exact bX | exact bZ | exact bI | exact bC (π := []) (hs := by first | exact less_spec _ _ | fail) | fail)) ?_
    | refine oD (id := 8) W61_8 [13, 15] O61_8 [_, _, _, _, _, _, _, _, _, _, _, _, _, _, _, _] [_, _, _] rfl (by repeat' (first | exact trivial | refine And.intro ?_ ?_ | exact bS | exact bX | exact bZ | exact bI | exact bC (π := []) (hs := by first | exact less_spec _ _ | fail) | fail)) ?_
    | fail)
  refine IWP_loop (fun x : List Ks × Nat × Nat => ⟨84, [(0, .sl 0 0 L.length cap 1), (1, .i64 a), (9, .i64 x.2.1), (10, .i64 x.2.2)], [.arr false (strs x.1)]⟩) (fun x => PI (fun x y => !decide (cS y x < 0)) a b x.2.1 x.2.2 L x.1 ∧ gd x.1 a = gd L k) (fun x => x.2.2 + 1 - x.2.1) (sw L a k, a + 1, b - 1) (lP [0]) ⟨PI.start hak hkb hb, by simp only; rw [gd_sw (by omega) (by omega)]; split <;> simp_all⟩ ?_
  rintro ⟨M, i0, j0⟩ ⟨hi0, hv⟩
  replace hi0 : PI (fun x y => !decide (cS y x < 0)) a b i0 j0 L M := hi0
  replace hv : gd M a = gd L k := hv
  have hl := hi0.ps.len
  have q3 := hi0.bl
  simp only
  repeat' (first
    | refine IOps_nil ?_
    | refine oS ?_
    | refine IOps_s rfl rfl ?_
    | refine oT ?_
    | refine IOps_s0 rfl ?_
    | refine oZ ?_
    | refine oI ?_
    | refine thenI_n ?_
    | refine IWP_seq ?_
    | refine IWP_region ?_
    | refine IWP_ct rfl ?_
    | refine IWP_cf rfl ?_
    | refine IWP_skip ?_
    | refine IWP_ret ?_
    | refine IWP_block ?_
    | refine inB_n ?_
    | refine thenI_r ?_
    | refine thenI_e ?_
    | refine inB_r ?_
    | refine inB_hit ?_
    | refine inB_miss rfl ?_
    | refine IWP_exit ?_
    | refine IWP_scope ?_
    | refine IWP_label ?_
    | refine noG_n ?_
    | refine noG_r ?_
    | refine noG_e ?_
    | refine jmp_n ?_
    | refine jmp_r ?_
    | refine jmp_e ?_
    | refine jmp_g ?_
    | refine thenI_g ?_
    | refine inB_g ?_
    | refine IWP_goto ?_
    | refine Loop_n ?_
    | refine oD (id := 1) W61_1 [13, 15] O61_1 [_, _, _, _, _, _, _, _, _, _, _, _, _, _, _, _] [_, _, _] rfl (by repeat' (first | exact trivial | refine And.intro ?_ ?_ | exact bS | exact bX | exact bZ | exact bI | fail)) ?_
    | refine oD (id := 3) W61_3 [] O61_3 [_, _, _, _, _, _, _, _, _, _, _, _, _, _, _] [_] rfl (by repeat' (first | exact trivial | refine And.intro ?_ ?_ | exact bS | exact bX | exact bZ | exact bI | fail)) ?_
    | refine oD (id := 5) W61_5 [] O61_5 [_, _, _, _, _, _, _, _, _, _, _, _, _, _] [_] rfl (by repeat' (first | exact trivial | refine And.intro ?_ ?_ | exact bS | exact bX | exact bZ | exact bI | fail)) ?_
    | refine oD (id := 8) W61_8 [13, 15] O61_8 [_, _, _, _, _, _, _, _, _, _, _, _, _, _, _, _] [_, _, _] rfl (by repeat' (first | exact trivial | refine And.intro ?_ ?_ | exact bS | exact bX | exact bZ | exact bI | fail)) ?_
    | fail)
  refine IWP_loop (fun i : Nat => ⟨84, [(0, .sl 0 0 L.length cap 1), (1, .i64 a), (9, .i64 i), (10, .i64 j0)], [.arr false (strs M)]⟩) (fun i => PI (fun x y => !decide (cS y x < 0)) a b i j0 L M ∧ i0 ≤ i) (fun i => b - i) i0 (lP [0]) ⟨hi0, Nat.le_refl _⟩ ?_
  rintro i ⟨hi, hi00⟩
  have q0 := hi.i0; have q1 := hi.ij; have q2 := hi.jb
  by_cases h1 : i ≤ j0
  · by_cases h2 : cS (gd M a) (gd M i) < 0
    · repeat' (first
        | refine IOps_nil ?_
        | refine oS ?_
        | refine IOps_s rfl rfl ?_
        | refine oT ?_
        | refine IOps_s0 rfl ?_
        | refine oC (π := []) (hs := by first | exact less_spec _ _ | fail) (hx := ?_)
        | refine oZ ?_
        | refine oI ?_
        | refine thenI_n ?_
        | refine IWP_seq ?_
        | refine IWP_region ?_
        | refine IWP_ct rfl ?_
        | refine IWP_cf rfl ?_
        | refine IWP_skip ?_
        | refine IWP_ret ?_
        | refine IWP_block ?_
        | refine inB_n ?_
        | refine thenI_r ?_
        | refine thenI_e ?_
        | refine inB_r ?_
        | refine inB_hit ?_
        | refine inB_miss rfl ?_
        | refine IWP_exit ?_
        | refine IWP_scope ?_
        | refine IWP_label ?_
        | refine noG_n ?_
        | refine noG_r ?_
        | refine noG_e ?_
        | refine jmp_n ?_
        | refine jmp_r ?_
        | refine jmp_e ?_
        | refine jmp_g ?_
        | refine thenI_g ?_
        | refine inB_g ?_
        | refine IWP_goto ?_
        | refine Loop_n ?_
        | refine oD (id := 1) W61_1 [13, 15] O61_1 [_, _, _, _, _, _, _, _, _, _, _, _, _, _, _, _] [_, _, _] rfl (by repeat' (first | exact trivial | refine And.intro ?_ ?_ | exact bS | exact bX | exact bZ | exact bI | exact bC (π := []) (hs := by first | exact less_spec _ _ | fail) | fail)) ?_
        | refine oD (id := 3) W61_3 [] O61_3 [_, _, _, _, _, _, _, _, _, _, _, _, _, _, _] [_] rfl (by repeat' (first | exact trivial | refine And.intro ?_ ?_ | exact bS | exact bX | exact bZ | exact bI | exact bC (π := []) (hs := by first | exact less_spec _ _ | fail) | fail)) ?_
        | refine oD (id := 5) W61_5 [] O61_5 [_, _, _, _, _, _, _, _, _, _, _, _, _, _] [_] rfl (by repeat' (first | exact trivial | refine And.intro ?_ ?_ | exact bS | exact bX | exact bZ | exact bI | exact bC (π := []) (hs := by first | exact less_spec _ _ | fail) | fail)) ?_
        | refine oD (id := 8) W61_8 [13, 15] O61_8 [_, _, _, _, _, _, _, _, _, _, _, _, _, _, _, _] [_, _, _] rfl (by repeat' (first | exact trivial | refine And.intro ?_ ?_ | exact bS | exact bX | exact bZ | exact bI | exact bC (π := []) (hs := by first | exact less_spec _ _ | fail) | fail)) ?_
        | fail)
      refine IWP_loop (fun j : Nat => ⟨84, [(0, .sl 0 0 L.length cap 1), (1, .i64 a), (9, .i64 i), (10, .i64 j)], [.arr false (strs M)]⟩) (fun j => PI (fun x y => !decide (cS y x < 0)) a b i j L M ∧ j ≤ j0) (fun j => j) j0 (lP [0]) ⟨hi, Nat.le_refl _⟩ ?_
      rintro j ⟨hi, hj0⟩
      have q0 := hi.i0; have q1 := hi.ij; have q2 := hi.jb
      by_cases h3 : i ≤ j
      · by_cases h4 : cS (gd M a) (gd M j) < 0
        · repeat' (first
            | refine IOps_nil ?_
            | refine oS ?_
            | refine IOps_s rfl rfl ?_
            | refine oT ?_
            | refine IOps_s0 rfl ?_
            | refine oC (π := []) (hs := by first | exact less_spec _ _ | fail) (hx := ?_)
            | refine oZ ?_
            | refine oI ?_
            | refine thenI_n ?_
            | refine IWP_seq ?_
            | refine IWP_region ?_
            | refine IWP_ct rfl ?_
            | refine IWP_cf rfl ?_
            | refine IWP_skip ?_
            | refine IWP_ret ?_
            | refine IWP_block ?_
            | refine inB_n ?_
            | refine thenI_r ?_
            | refine thenI_e ?_
            | refine inB_r ?_
            | refine inB_hit ?_
            | refine inB_miss rfl ?_
            | refine IWP_exit ?_
            | refine IWP_scope ?_
            | refine IWP_label ?_
            | refine noG_n ?_
            | refine noG_r ?_
            | refine noG_e ?_
            | refine jmp_n ?_
            | refine jmp_r ?_
            | refine jmp_e ?_
            | refine jmp_g ?_
            | refine thenI_g ?_
            | refine inB_g ?_
            | refine IWP_goto ?_
            | refine Loop_n ?_
            | refine oD (id := 1) W61_1 [13, 15] O61_1 [_, _, _, _, _, _, _, _, _, _, _, _, _, _, _, _] [_, _, _] rfl (by repeat' (first | exact trivial | refine And.intro ?_ ?_ | exact bS | exact bX | exact bZ | exact bI | exact bC (π := []) (hs := by first | exact less_spec _ _ | fail) | fail)) ?_
            | refine oD (id := 3) W61_3 [] O61_3 [_, _, _, _, _, _, _, _, _, _, _, _, _, _, _] [_] rfl (by repeat' (first | exact trivial | refine And.intro ?_ ?_ | exact bS | exact bX | exact bZ | exact bI | exact bC (π := []) (hs := by first | exact less_spec _ _ | fail) | fail)) ?_
            | refine oD (id := 5) W61_5 [] O61_5 [_, _, _, _, _, _, _, _, _, _, _, _, _, _] [_] rfl (by repeat' (first | exact trivial | refine And.intro ?_ ?_ | exact bS | exact bX | exact bZ | exact bI | exact bC (π := []) (hs := by first | exact less_spec _ _ | fail) | fail)) ?_
            | refine oD (id := 8) W61_8 [13, 15] O61_8 [_, _, _, _, _, _, _, _, _, _, _, _, _, _, _, _] [_, _, _] rfl (by repeat' (first | exact trivial | refine And.intro ?_ ?_ | exact bS | exact bX | exact bZ | exact bI | exact bC (π := []) (hs := by first | exact less_spec _ _ | fail) | fail)) ?_
            | fail)
          exact ⟨j - 1, ⟨hi.decJ h3 (by simpa using h4), by omega⟩, by omega, lP [0]⟩
        · obtain ⟨hij, hs⟩ := hi.swap h3 (by simpa using h2) (by simpa using h4)
          repeat' (first
            | refine IOps_nil ?_
            | refine oS ?_
            | refine IOps_s rfl rfl ?_
            | refine oT ?_
            | refine IOps_s0 rfl ?_
            | refine oC (π := []) (hs := by first | exact less_spec _ _ | fail) (hx := ?_)
            | refine oZ ?_
            | refine oI ?_
            | refine thenI_n ?_
            | refine IWP_seq ?_
            | refine IWP_region ?_
            | refine IWP_ct rfl ?_
            | refine IWP_cf rfl ?_
            | refine IWP_skip ?_
            | refine IWP_ret ?_
            | refine IWP_block ?_
            | refine inB_n ?_
            | refine thenI_r ?_
            | refine thenI_e ?_
            | refine inB_r ?_
            | refine inB_hit ?_
            | refine inB_miss rfl ?_
            | refine IWP_exit ?_
            | refine IWP_scope ?_
            | refine IWP_label ?_
            | refine noG_n ?_
            | refine noG_r ?_
            | refine noG_e ?_
            | refine jmp_n ?_
            | refine jmp_r ?_
            | refine jmp_e ?_
            | refine jmp_g ?_
            | refine thenI_g ?_
            | refine inB_g ?_
            | refine IWP_goto ?_
            | refine Loop_n ?_
            | refine oD (id := 1) W61_1 [13, 15] O61_1 [_, _, _, _, _, _, _, _, _, _, _, _, _, _, _, _] [_, _, _] rfl (by repeat' (first | exact trivial | refine And.intro ?_ ?_ | exact bS | exact bX | exact bZ | exact bI | exact bC (π := []) (hs := by first | exact less_spec _ _ | fail) | fail)) ?_
            | refine oD (id := 3) W61_3 [] O61_3 [_, _, _, _, _, _, _, _, _, _, _, _, _, _, _] [_] rfl (by repeat' (first | exact trivial | refine And.intro ?_ ?_ | exact bS | exact bX | exact bZ | exact bI | exact bC (π := []) (hs := by first | exact less_spec _ _ | fail) | fail)) ?_
            | refine oD (id := 5) W61_5 [] O61_5 [_, _, _, _, _, _, _, _, _, _, _, _, _, _] [_] rfl (by repeat' (first | exact trivial | refine And.intro ?_ ?_ | exact bS | exact bX | exact bZ | exact bI | exact bC (π := []) (hs := by first | exact less_spec _ _ | fail) | fail)) ?_
            | refine oD (id := 8) W61_8 [13, 15] O61_8 [_, _, _, _, _, _, _, _, _, _, _, _, _, _, _, _] [_, _, _] rfl (by repeat' (first | exact trivial | refine And.intro ?_ ?_ | exact bS | exact bX | exact bZ | exact bI | exact bC (π := []) (hs := by first | exact less_spec _ _ | fail) | fail)) ?_
            | fail)
          exact ⟨(sw M i j, i + 1, j - 1), ⟨hs, by simp only; rw [gd_sw (by omega) (by omega), if_neg (by omega), if_neg (by omega), hv]⟩, by simp only; omega, lP [0]⟩
      · have he := PI.eqEnd oc hi (by omega)
        rw [hv] at he
        repeat' (first
          | refine IOps_nil ?_
          | refine oS ?_
          | refine IOps_s rfl rfl ?_
          | refine oT ?_
          | refine IOps_s0 rfl ?_
          | refine oC (π := []) (hs := by first | exact less_spec _ _ | fail) (hx := ?_)
          | refine oZ ?_
          | refine oI ?_
          | refine thenI_n ?_
          | refine IWP_seq ?_
          | refine IWP_region ?_
          | refine IWP_ct rfl ?_
          | refine IWP_cf rfl ?_
          | refine IWP_skip ?_
          | refine IWP_ret ?_
          | refine IWP_block ?_
          | refine inB_n ?_
          | refine thenI_r ?_
          | refine thenI_e ?_
          | refine inB_r ?_
          | refine inB_hit ?_
          | refine inB_miss rfl ?_
          | refine IWP_exit ?_
          | refine IWP_scope ?_
          | refine IWP_label ?_
          | refine noG_n ?_
          | refine noG_r ?_
          | refine noG_e ?_
          | refine jmp_n ?_
          | refine jmp_r ?_
          | refine jmp_e ?_
          | refine jmp_g ?_
          | refine thenI_g ?_
          | refine inB_g ?_
          | refine IWP_goto ?_
          | refine Loop_n ?_
          | refine oD (id := 1) W61_1 [13, 15] O61_1 [_, _, _, _, _, _, _, _, _, _, _, _, _, _, _, _] [_, _, _] rfl (by repeat' (first | exact trivial | refine And.intro ?_ ?_ | exact bS | exact bX | exact bZ | exact bI | exact bC (π := []) (hs := by first | exact less_spec _ _ | fail) | fail)) ?_
          | refine oD (id := 3) W61_3 [] O61_3 [_, _, _, _, _, _, _, _, _, _, _, _, _, _, _] [_] rfl (by repeat' (first | exact trivial | refine And.intro ?_ ?_ | exact bS | exact bX | exact bZ | exact bI | exact bC (π := []) (hs := by first | exact less_spec _ _ | fail) | fail)) ?_
          | refine oD (id := 5) W61_5 [] O61_5 [_, _, _, _, _, _, _, _, _, _, _, _, _, _] [_] rfl (by repeat' (first | exact trivial | refine And.intro ?_ ?_ | exact bS | exact bX | exact bZ | exact bI | exact bC (π := []) (hs := by first | exact less_spec _ _ | fail) | fail)) ?_
          | refine oD (id := 8) W61_8 [13, 15] O61_8 [_, _, _, _, _, _, _, _, _, _, _, _, _, _, _, _] [_, _, _] rfl (by repeat' (first | exact trivial | refine And.intro ?_ ?_ | exact bS | exact bX | exact bZ | exact bI | exact bC (π := []) (hs := by first | exact less_spec _ _ | fail) | fail)) ?_
          | fail)
        exact pX [0] (M, i) ⟨hi.ps, by simp only; omega, by simp only; omega, he.1, he.2⟩ rfl
    · repeat' (first
        | refine IOps_nil ?_
        | refine oS ?_
        | refine IOps_s rfl rfl ?_
        | refine oT ?_
        | refine IOps_s0 rfl ?_
        | refine oC (π := []) (hs := by first | exact less_spec _ _ | fail) (hx := ?_)
        | refine oZ ?_
        | refine oI ?_
        | refine thenI_n ?_
        | refine IWP_seq ?_
        | refine IWP_region ?_
        | refine IWP_ct rfl ?_
        | refine IWP_cf rfl ?_
        | refine IWP_skip ?_
        | refine IWP_ret ?_
        | refine IWP_block ?_
        | refine inB_n ?_
        | refine thenI_r ?_
        | refine thenI_e ?_
        | refine inB_r ?_
        | refine inB_hit ?_
        | refine inB_miss rfl ?_
        | refine IWP_exit ?_
        | refine IWP_scope ?_
        | refine IWP_label ?_
        | refine noG_n ?_
        | refine noG_r ?_
        | refine noG_e ?_
        | refine jmp_n ?_
        | refine jmp_r ?_
        | refine jmp_e ?_
        | refine jmp_g ?_
        | refine thenI_g ?_
        | refine inB_g ?_
        | refine IWP_goto ?_
        | refine Loop_n ?_
        | refine oD (id := 1) W61_1 [13, 15] O61_1 [_, _, _, _, _, _, _, _, _, _, _, _, _, _, _, _] [_, _, _] rfl (by repeat' (first | exact trivial | refine And.intro ?_ ?_ | exact bS | exact bX | exact bZ | exact bI | exact bC (π := []) (hs := by first | exact less_spec _ _ | fail) | fail)) ?_
        | refine oD (id := 3) W61_3 [] O61_3 [_, _, _, _, _, _, _, _, _, _, _, _, _, _, _] [_] rfl (by repeat' (first | exact trivial | refine And.intro ?_ ?_ | exact bS | exact bX | exact bZ | exact bI | exact bC (π := []) (hs := by first | exact less_spec _ _ | fail) | fail)) ?_
        | refine oD (id := 5) W61_5 [] O61_5 [_, _, _, _, _, _, _, _, _, _, _, _, _, _] [_] rfl (by repeat' (first | exact trivial | refine And.intro ?_ ?_ | exact bS | exact bX | exact bZ | exact bI | exact bC (π := []) (hs := by first | exact less_spec _ _ | fail) | fail)) ?_
        | refine oD (id := 8) W61_8 [13, 15] O61_8 [_, _, _, _, _, _, _, _, _, _, _, _, _, _, _, _] [_, _, _] rfl (by repeat' (first | exact trivial | refine And.intro ?_ ?_ | exact bS | exact bX | exact bZ | exact bI | exact bC (π := []) (hs := by first | exact less_spec _ _ | fail) | fail)) ?_
        | fail)
      exact ⟨i + 1, ⟨hi.incI h1 (by simpa using h2), by omega⟩, by omega, lP [0]⟩
  · have he := PI.eqEnd oc hi (by omega)
    rw [hv] at he
    obtain rfl : i = j0 + 1 := by omega
    repeat' (first
      | refine IOps_nil ?_
      | refine oS ?_
      | refine IOps_s rfl rfl ?_
      | refine oT ?_
      | refine IOps_s0 rfl ?_
      | refine oC (π := []) (hs := by first | exact less_spec _ _ | fail) (hx := ?_)
      | refine oZ ?_
      | refine oI ?_
      | refine thenI_n ?_
      | refine IWP_seq ?_
      | refine IWP_region ?_
      | refine IWP_ct rfl ?_
      | refine IWP_cf rfl ?_
      | refine IWP_skip ?_
      | refine IWP_ret ?_
      | refine IWP_block ?_
      | refine inB_n ?_
      | refine thenI_r ?_
      | refine thenI_e ?_
      | refine inB_r ?_
      | refine inB_hit ?_
      | refine inB_miss rfl ?_
      | refine IWP_exit ?_
      | refine IWP_scope ?_
      | refine IWP_label ?_
      | refine noG_n ?_
      | refine noG_r ?_
      | refine noG_e ?_
      | refine jmp_n ?_
      | refine jmp_r ?_
      | refine jmp_e ?_
      | refine jmp_g ?_
      | refine thenI_g ?_
      | refine inB_g ?_
      | refine IWP_goto ?_
      | refine Loop_n ?_
      | refine oD (id := 1) W61_1 [13, 15] O61_1 [_, _, _, _, _, _, _, _, _, _, _, _, _, _, _, _] [_, _, _] rfl (by repeat' (first | exact trivial | refine And.intro ?_ ?_ | exact bS | exact bX | exact bZ | exact bI | exact bC (π := []) (hs := by first | exact less_spec _ _ | fail) | fail)) ?_
      | refine oD (id := 3) W61_3 [] O61_3 [_, _, _, _, _, _, _, _, _, _, _, _, _, _, _] [_] rfl (by repeat' (first | exact trivial | refine And.intro ?_ ?_ | exact bS | exact bX | exact bZ | exact bI | exact bC (π := []) (hs := by first | exact less_spec _ _ | fail) | fail)) ?_
      | refine oD (id := 5) W61_5 [] O61_5 [_, _, _, _, _, _, _, _, _, _, _, _, _, _] [_] rfl (by repeat' (first | exact trivial | refine And.intro ?_ ?_ | exact bS | exact bX | exact bZ | exact bI | exact bC (π := []) (hs := by first | exact less_spec _ _ | fail) | fail)) ?_
      | refine oD (id := 8) W61_8 [13, 15] O61_8 [_, _, _, _, _, _, _, _, _, _, _, _, _, _, _, _] [_, _, _] rfl (by repeat' (first | exact trivial | refine And.intro ?_ ?_ | exact bS | exact bX | exact bZ | exact bI | exact bC (π := []) (hs := by first | exact less_spec _ _ | fail) | fail)) ?_
      | fail)
    refine IWP_loop (fun _ : Unit => ⟨84, [(0, .sl 0 0 L.length cap 1), (1, .i64 a), (9, .i64 ((j0 : Int) + 1)), (10, .i64 j0)], [.arr false (strs M)]⟩) (fun _ => True) (fun _ => 0) () (lP [0]) trivial ?_
    intro _ _
    repeat' (first
      | refine IOps_nil ?_
      | refine oS ?_
      | refine IOps_s rfl rfl ?_
      | refine oT ?_
      | refine IOps_s0 rfl ?_
      | refine oC (π := []) (hs := by first | exact less_spec _ _ | fail) (hx := ?_)
      | refine oZ ?_
      | refine oI ?_
      | refine thenI_n ?_
      | refine IWP_seq ?_
      | refine IWP_region ?_
      | refine IWP_ct rfl ?_
      | refine IWP_cf rfl ?_
      | refine IWP_skip ?_
      | refine IWP_ret ?_
      | refine IWP_block ?_
      | refine inB_n ?_
      | refine thenI_r ?_
      | refine thenI_e ?_
      | refine inB_r ?_
      | refine inB_hit ?_
      | refine inB_miss rfl ?_
      | refine IWP_exit ?_
      | refine IWP_scope ?_
      | refine IWP_label ?_
      | refine noG_n ?_
      | refine noG_r ?_
      | refine noG_e ?_
      | refine jmp_n ?_
      | refine jmp_r ?_
      | refine jmp_e ?_
      | refine jmp_g ?_
      | refine thenI_g ?_
      | refine inB_g ?_
      | refine IWP_goto ?_
      | refine Loop_n ?_
      | refine oD (id := 1) W61_1 [13, 15] O61_1 [_, _, _, _, _, _, _, _, _, _, _, _, _, _, _, _] [_, _, _] rfl (by repeat' (first | exact trivial | refine And.intro ?_ ?_ | exact bS | exact bX | exact bZ | exact bI | exact bC (π := []) (hs := by first | exact less_spec _ _ | fail) | fail)) ?_
      | refine oD (id := 3) W61_3 [] O61_3 [_, _, _, _, _, _, _, _, _, _, _, _, _, _, _] [_] rfl (by repeat' (first | exact trivial | refine And.intro ?_ ?_ | exact bS | exact bX | exact bZ | exact bI | exact bC (π := []) (hs := by first | exact less_spec _ _ | fail) | fail)) ?_
      | refine oD (id := 5) W61_5 [] O61_5 [_, _, _, _, _, _, _, _, _, _, _, _, _, _] [_] rfl (by repeat' (first | exact trivial | refine And.intro ?_ ?_ | exact bS | exact bX | exact bZ | exact bI | exact bC (π := []) (hs := by first | exact less_spec _ _ | fail) | fail)) ?_
      | refine oD (id := 8) W61_8 [13, 15] O61_8 [_, _, _, _, _, _, _, _, _, _, _, _, _, _, _, _] [_, _, _] rfl (by repeat' (first | exact trivial | refine And.intro ?_ ?_ | exact bS | exact bX | exact bZ | exact bI | exact bC (π := []) (hs := by first | exact less_spec _ _ | fail) | fail)) ?_
      | fail)
    exact pX [0] (M, j0 + 1) ⟨hi.ps, by simp only; omega, by simp only; omega, he.1, he.2⟩ rfl
end Go.Proofs.Ytmgcoopmbohkoaa
