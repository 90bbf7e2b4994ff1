/-
  Sorting, at texts: parting.
-/
import Derived.Test.YtmgcoopmbohkoaaStM
namespace Go.Proofs.Ytmgcoopmbohkoaa
open Go Go.Idl
set_option linter.unusedSimpArgs false
set_option linter.unusedVariables false
set_option maxRecDepth 100000
set_option maxHeartbeats 1000000
attribute [local irreducible] Go.Idl.IWP Go.Idl.IOps Go.Idl.Obl Go.Idl.OpG Go.Idl.thenI Go.Idl.inBlockI Go.Idl.LoopU Go.Idl.noGotoI Go.Idl.jumpI
attribute [local go_sem] List.length_set
theorem part_spec (L : List Ks) (a b k cap : Nat) (oc : OrdL fun x y => decide (cS x y < 0)) (hak : a ≤ k) (hkb : k < b) (hb : b ≤ L.length) (hL : L.length ≤ 1000000000) :
    Idl.Spec Try.prog 62 [.sl 0 0 L.length cap 1, .i64 a, .i64 b, .i64 k] [.arr false (strs L)]
      (Ex (fun x : List Ks × Nat × Bool => PS a b L x.1 ∧ Part (fun x y => decide (cS x y < 0)) a b x.2.1 x.1) (fun x => .tup [.i64 x.2.1, .sc (.bool x.2.2)]) (fun x => [.arr false (strs x.1)])) := by
  refine sE Try.func62 Try.ntmps62 ?_
  repeat' (first
    | refine IOps_nil ?_
    | refine oS ?_
    | refine IOps_s rfl rfl ?_
    | refine oT ?_
    | refine IOps_s0 rfl ?_
    | refine oC (π := []) (hs := by first | exact less_spec _ _ | fail) (hx := ?_)
    | refine oZ ?_
    | refine oI ?_
    | refine thenI_n ?_
    | refine IWP_seq ?_
    | refine IWP_region ?_
    | refine IWP_ct rfl ?_
    | refine IWP_cf rfl ?_
    | refine IWP_skip ?_
    | refine IWP_ret ?_
    | refine IWP_block ?_
    | refine inB_n ?_
    | refine thenI_r ?_
    | refine thenI_e ?_
    | refine inB_r ?_
    | refine inB_hit ?_
    | refine inB_miss rfl ?_
    | refine IWP_exit ?_
    | refine IWP_scope ?_
    | refine IWP_label ?_
    | refine noG_n ?_
    | refine noG_r ?_
    | refine noG_e ?_
    | refine jmp_n ?_
    | refine jmp_r ?_
    | refine jmp_e ?_
    | refine jmp_g ?_
    | refine thenI_g ?_
    | refine inB_g ?_
    | refine IWP_goto ?_
    | refine Loop_n ?_
    | refine oD (id := 1) W62_1 [13, 15] O62_1 [_, _, _, _, _, _, _, _, _, _, _, _, _, _, _, _] [_, _, _] rfl (by repeat' (first | exact trivial | refine And.intro ?_ ?_ | exact bS | exact bX | exact bZ | exact bI | exact bC (π := []) (hs := by first | exact less_spec _ _ | fail) | fail)) ?_
    | refine oD (id := 3) W62_3 [] O62_3 [_, _, _, _, _, _, _, _, _, _, _, _, _, _] [_] rfl (by repeat' (first | exact trivial | refine And.intro ?_ ?_ | exact bS | exact bX | exact bZ | exact bI | exact bC (π := []) (hs := by first | exact less_spec _ _ | fail) | fail)) ?_
    | refine oD (id := 5) W62_5 [] O62_5 [_, _, _, _, _, _, _, _, _, _, _, _, _, _, _] [_] rfl (by repeat' (first | exact trivial | refine And.intro ?_ ?_ | exact bS | exact bX | exact bZ | exact bI | exact bC (π := []) (hs := by first | exact less_spec _ _ | fail) | fail)) ?_
    | refine oD (id := 8) W62_8 [13, 15] O62_8 [_, _, _, _, _, _, _, _, _, _, _, _, _, _, _, _] [_, _, _] rfl (by repeat' (first | exact trivial | refine And.intro ?_ ?_ | exact bS | exact bX | exact bZ | exact bI | exact bC (π := []) (hs := by first | exact less_spec _ _ | fail) | fail)) ?_
    | refine oD (id := 10) W62_10 [13, 15] O62_10 [_, _, _, _, _, _, _, _, _, _, _, _, _, _, _, _] [_, _, _] rfl (by repeat' (first | exact trivial | refine And.intro ?_ ?_ | exact bS | exact bX | exact bZ | exact bI | exact bC (π := []) (hs := by first | exact less_spec _ _ | fail) | fail)) ?_
    | refine oD (id := 13) W62_13 [] O62_13 [_, _, _, _, _, _, _, _, _, _, _, _, _, _] [_] rfl (by repeat' (first | exact trivial | refine And.intro ?_ ?_ | exact bS | exact bX | exact bZ | exact bI | exact bC (π := []) (hs := by first | exact less_spec _ _ | fail) | fail)) ?_
    | refine oD (id := 15) W62_15 [] O62_15 [_, _, _, _, _, _, _, _, _, _, _, _, _, _, _] [_] rfl (by repeat' (first | exact trivial | refine And.intro ?_ ?_ | exact bS | exact bX | exact bZ | exact bI | exact bC (π := []) (hs := by first | exact less_spec _ _ | fail) | fail)) ?_
    | refine oD (id := 18) W62_18 [13, 15] O62_18 [_, _, _, _, _, _, _, _, _, _, _, _, _, _, _, _] [_, _, _] rfl (by repeat' (first | exact trivial | refine And.intro ?_ ?_ | exact bS | exact bX | exact bZ | exact bI | exact bC (π := []) (hs := by first | exact less_spec _ _ | fail) | fail)) ?_
    | refine oD (id := 21) W62_21 [13, 15] O62_21 [_, _, _, _, _, _, _, _, _, _, _, _, _, _, _, _] [_, _, _] rfl (by repeat' (first | exact trivial | refine And.intro ?_ ?_ | exact bS | exact bX | exact bZ | exact bI | exact bC (π := []) (hs := by first | exact less_spec _ _ | fail) | fail)) ?_
    | fail)
  refine IWP_loop (fun i : Nat => ⟨168, [(0, .sl 0 0 L.length cap 1), (1, .i64 a), (10, .i64 i), (11, .i64 ((b - 1 : Nat) : Int))], [.arr false (strs (sw L a k))]⟩) (fun i => PI (fun x y => decide (cS x y < 0)) a b i (b - 1) L (sw L a k)) (fun i => b - i) (a + 1) (lP [0]) (PI.start hak hkb hb) ?_
  intro i hi
  have hl := hi.ps.len
  have q0 := hi.i0; have q1 := hi.ij; have q2 := hi.jb; have q3 := hi.bl
  generalize hM : sw L a k = M at hi hl q3 ⊢
  by_cases h1 : i ≤ b - 1
  · by_cases h2 : cS (gd M i) (gd M a) < 0
    · repeat' (first
        | refine IOps_nil ?_
        | refine oS ?_
        | refine IOps_s rfl rfl ?_
        | refine oT ?_
        | refine IOps_s0 rfl ?_
        | refine oC (π := []) (hs := by first | exact less_spec _ _ | fail) (hx := ?_)
        | refine oZ ?_
        | refine oI ?_
        | refine thenI_n ?_
        | refine IWP_seq ?_
        | refine IWP_region ?_
        | refine IWP_ct rfl ?_
        | refine IWP_cf rfl ?_
        | refine IWP_skip ?_
        | refine IWP_ret ?_
        | refine IWP_block ?_
        | refine inB_n ?_
        | refine thenI_r ?_
        | refine thenI_e ?_
        | refine inB_r ?_
        | refine inB_hit ?_
        | refine inB_miss rfl ?_
        | refine IWP_exit ?_
        | refine IWP_scope ?_
        | refine IWP_label ?_
        | refine noG_n ?_
        | refine noG_r ?_
        | refine noG_e ?_
        | refine jmp_n ?_
        | refine jmp_r ?_
        | refine jmp_e ?_
        | refine jmp_g ?_
        | refine thenI_g ?_
        | refine inB_g ?_
        | refine IWP_goto ?_
        | refine Loop_n ?_
        | refine oD (id := 1) W62_1 [13, 15] O62_1 [_, _, _, _, _, _, _, _, _, _, _, _, _, _, _, _] [_, _, _] rfl (by repeat' (first | exact trivial | refine And.intro ?_ ?_ | exact bS | exact bX | exact bZ | exact bI | exact bC (π := []) (hs := by first | exact less_spec _ _ | fail) | fail)) ?_
        | refine oD (id := 3) W62_3 [] O62_3 [_, _, _, _, _, _, _, _, _, _, _, _, _, _] [_] rfl (by repeat' (first | exact trivial | refine And.intro ?_ ?_ | exact bS | exact bX | exact bZ | exact bI | exact bC (π := []) (hs := by first | exact less_spec _ _ | fail) | fail)) ?_
        | refine oD (id := 5) W62_5 [] O62_5 [_, _, _, _, _, _, _, _, _, _, _, _, _, _, _] [_] rfl (by repeat' (first | exact trivial | refine And.intro ?_ ?_ | exact bS | exact bX | exact bZ | exact bI | exact bC (π := []) (hs := by first | exact less_spec _ _ | fail) | fail)) ?_
        | refine oD (id := 8) W62_8 [13, 15] O62_8 [_, _, _, _, _, _, _, _, _, _, _, _, _, _, _, _] [_, _, _] rfl (by repeat' (first | exact trivial | refine And.intro ?_ ?_ | exact bS | exact bX | exact bZ | exact bI | exact bC (π := []) (hs := by first | exact less_spec _ _ | fail) | fail)) ?_
        | refine oD (id := 10) W62_10 [13, 15] O62_10 [_, _, _, _, _, _, _, _, _, _, _, _, _, _, _, _] [_, _, _] rfl (by repeat' (first | exact trivial | refine And.intro ?_ ?_ | exact bS | exact bX | exact bZ | exact bI | exact bC (π := []) (hs := by first | exact less_spec _ _ | fail) | fail)) ?_
        | refine oD (id := 13) W62_13 [] O62_13 [_, _, _, _, _, _, _, _, _, _, _, _, _, _] [_] rfl (by repeat' (first | exact trivial | refine And.intro ?_ ?_ | exact bS | exact bX | exact bZ | exact bI | exact bC (π := []) (hs := by first | exact less_spec _ _ | fail) | fail)) ?_
        | refine oD (id := 15) W62_15 [] O62_15 [_, _, _, _, _, _, _, _, _, _, _, _, _, _, _] [_] rfl (by repeat' (first | exact trivial | refine And.intro ?_ ?_ | exact bS | exact bX | exact bZ | exact bI | exact bC (π := []) (hs := by first | exact less_spec _ _ | fail) | fail)) ?_
        | refine oD (id := 18) W62_18 [13, 15] O62_18 [_, _, _, _, _, _, _, _, _, _, _, _, _, _, _, _] [_, _, _] rfl (by repeat' (first | exact trivial | refine And.intro ?_ ?_ | exact bS | exact bX | exact bZ | exact bI | exact bC (π := []) (hs := by first | exact less_spec _ _ | fail) | fail)) ?_
        | refine oD (id := 21) W62_21 [13, 15] O62_21 [_, _, _, _, _, _, _, _, _, _, _, _, _, _, _, _] [_, _, _] rfl (by repeat' (first | exact trivial | refine And.intro ?_ ?_ | exact bS | exact bX | exact bZ | exact bI | exact bC (π := []) (hs := by first | exact less_spec _ _ | fail) | fail)) ?_
        | fail)
      exact ⟨i + 1, hM ▸ hi.incI h1 (decide_eq_true h2), by omega, lP [0]⟩
    · repeat' (first
        | refine IOps_nil ?_
        | refine oS ?_
        | refine IOps_s rfl rfl ?_
        | refine oT ?_
        | refine IOps_s0 rfl ?_
        | refine oC (π := []) (hs := by first | exact less_spec _ _ | fail) (hx := ?_)
        | refine oZ ?_
        | refine oI ?_
        | refine thenI_n ?_
        | refine IWP_seq ?_
        | refine IWP_region ?_
        | refine IWP_ct rfl ?_
        | refine IWP_cf rfl ?_
        | refine IWP_skip ?_
        | refine IWP_ret ?_
        | refine IWP_block ?_
        | refine inB_n ?_
        | refine thenI_r ?_
        | refine thenI_e ?_
        | refine inB_r ?_
        | refine inB_hit ?_
        | refine inB_miss rfl ?_
        | refine IWP_exit ?_
        | refine IWP_scope ?_
        | refine IWP_label ?_
        | refine noG_n ?_
        | refine noG_r ?_
        | refine noG_e ?_
        | refine jmp_n ?_
        | refine jmp_r ?_
        | refine jmp_e ?_
        | refine jmp_g ?_
        | refine thenI_g ?_
        | refine inB_g ?_
        | refine IWP_goto ?_
        | refine Loop_n ?_
        | refine oD (id := 1) W62_1 [13, 15] O62_1 [_, _, _, _, _, _, _, _, _, _, _, _, _, _, _, _] [_, _, _] rfl (by repeat' (first | exact trivial | refine And.intro ?_ ?_ | exact bS | exact bX | exact bZ | exact bI | exact bC (π := []) (hs := by first | exact less_spec _ _ | fail) | fail)) ?_
        | refine oD (id := 3) W62_3 [] O62_3 [_, _, _, _, _, _, _, _, _, _, _, _, _, _] [_] rfl (by repeat' (first | exact trivial | refine And.intro ?_ ?_ | exact bS | exact bX | exact bZ | exact bI | exact bC (π := []) (hs := by first | exact less_spec _ _ | fail) | fail)) ?_
        | refine oD (id := 5) W62_5 [] O62_5 [_, _, _, _, _, _, _, _, _, _, _, _, _, _, _] [_] rfl (by repeat' (first | exact trivial | refine And.intro ?_ ?_ | exact bS | exact bX | exact bZ | exact bI | exact bC (π := []) (hs := by first | exact less_spec _ _ | fail) | fail)) ?_
        | refine oD (id := 8) W62_8 [13, 15] O62_8 [_, _, _, _, _, _, _, _, _, _, _, _, _, _, _, _] [_, _, _] rfl (by repeat' (first | exact trivial | refine And.intro ?_ ?_ | exact bS | exact bX | exact bZ | exact bI | exact bC (π := []) (hs := by first | exact less_spec _ _ | fail) | fail)) ?_
        | refine oD (id := 10) W62_10 [13, 15] O62_10 [_, _, _, _, _, _, _, _, _, _, _, _, _, _, _, _] [_, _, _] rfl (by repeat' (first | exact trivial | refine And.intro ?_ ?_ | exact bS | exact bX | exact bZ | exact bI | exact bC (π := []) (hs := by first | exact less_spec _ _ | fail) | fail)) ?_
        | refine oD (id := 13) W62_13 [] O62_13 [_, _, _, _, _, _, _, _, _, _, _, _, _, _] [_] rfl (by repeat' (first | exact trivial | refine And.intro ?_ ?_ | exact bS | exact bX | exact bZ | exact bI | exact bC (π := []) (hs := by first | exact less_spec _ _ | fail) | fail)) ?_
        | refine oD (id := 15) W62_15 [] O62_15 [_, _, _, _, _, _, _, _, _, _, _, _, _, _, _] [_] rfl (by repeat' (first | exact trivial | refine And.intro ?_ ?_ | exact bS | exact bX | exact bZ | exact bI | exact bC (π := []) (hs := by first | exact less_spec _ _ | fail) | fail)) ?_
        | refine oD (id := 18) W62_18 [13, 15] O62_18 [_, _, _, _, _, _, _, _, _, _, _, _, _, _, _, _] [_, _, _] rfl (by repeat' (first | exact trivial | refine And.intro ?_ ?_ | exact bS | exact bX | exact bZ | exact bI | exact bC (π := []) (hs := by first | exact less_spec _ _ | fail) | fail)) ?_
        | refine oD (id := 21) W62_21 [13, 15] O62_21 [_, _, _, _, _, _, _, _, _, _, _, _, _, _, _, _] [_, _, _] rfl (by repeat' (first | exact trivial | refine And.intro ?_ ?_ | exact bS | exact bX | exact bZ | exact bI | exact bC (π := []) (hs := by first | exact less_spec _ _ | fail) | fail)) ?_
        | fail)
      refine IWP_loop (fun j : Nat => ⟨168, [(0, .sl 0 0 L.length cap 1), (1, .i64 a), (10, .i64 i), (11, .i64 j)], [.arr false (strs M)]⟩) (fun j => PI (fun x y => decide (cS x y < 0)) a b i j L M) (fun j => j) (b - 1) (lP [0]) hi ?_
      intro j hi
      have q0 := hi.i0; have q1 := hi.ij; have q2 := hi.jb
      by_cases h3 : i ≤ j
      · by_cases h4 : cS (gd M j) (gd M a) < 0
        · repeat' (first
            | refine IOps_nil ?_
            | refine oS ?_
            | refine IOps_s rfl rfl ?_
            | refine oT ?_
            | refine IOps_s0 rfl ?_
            | refine oC (π := []) (hs := by first | exact less_spec _ _ | fail) (hx := ?_)
            | refine oZ ?_
            | refine oI ?_
            | refine thenI_n ?_
            | refine IWP_seq ?_
            | refine IWP_region ?_
            | refine IWP_ct rfl ?_
            | refine IWP_cf rfl ?_
            | refine IWP_skip ?_
            | refine IWP_ret ?_
            | refine IWP_block ?_
            | refine inB_n ?_
            | refine thenI_r ?_
            | refine thenI_e ?_
            | refine inB_r ?_
            | refine inB_hit ?_
            | refine inB_miss rfl ?_
            | refine IWP_exit ?_
            | refine IWP_scope ?_
            | refine IWP_label ?_
            | refine noG_n ?_
            | refine noG_r ?_
            | refine noG_e ?_
            | refine jmp_n ?_
            | refine jmp_r ?_
            | refine jmp_e ?_
            | refine jmp_g ?_
            | refine thenI_g ?_
            | refine inB_g ?_
            | refine IWP_goto ?_
            | refine Loop_n ?_
            | refine oD (id := 1) W62_1 [13, 15] O62_1 [_, _, _, _, _, _, _, _, _, _, _, _, _, _, _, _] [_, _, _] rfl (by repeat' (first | exact trivial | refine And.intro ?_ ?_ | exact bS | exact bX | exact bZ | exact bI | exact bC (π := []) (hs := by first | exact less_spec _ _ | fail) | fail)) ?_
            | refine oD (id := 3) W62_3 [] O62_3 [_, _, _, _, _, _, _, _, _, _, _, _, _, _] [_] rfl (by repeat' (first | exact trivial | refine And.intro ?_ ?_ | exact bS | exact bX | exact bZ | exact bI | exact bC (π := []) (hs := by first | exact less_spec _ _ | fail) | fail)) ?_
            | refine oD (id := 5) W62_5 [] O62_5 [_, _, _, _, _, _, _, _, _, _, _, _, _, _, _] [_] rfl (by repeat' (first | exact trivial | refine And.intro ?_ ?_ | exact bS | exact bX | exact bZ | exact bI | exact bC (π := []) (hs := by first | exact less_spec _ _ | fail) | fail)) ?_
            | refine oD (id := 8) W62_8 [13, 15] O62_8 [_, _, _, _, _, _, _, _, _, _, _, _, _, _, _, _] [_, _, _] rfl (by repeat' (first | exact trivial | refine And.intro ?_ ?_ | exact bS | exact bX | exact bZ | exact bI | exact bC (π := []) (hs := by first | exact less_spec _ _ | fail) | fail)) ?_
            | refine oD (id := 10) W62_10 [13, 15] O62_10 [_, _, _, _, _, _, _, _, _, _, _, _, _, _, _, _] [_, _, _] rfl (by repeat' (first | exact trivial | refine And.intro ?_ ?_ | exact bS | exact bX | exact bZ | exact bI | exact bC (π := []) (hs := by first | exact less_spec _ _ | fail) | fail)) ?_
            | refine oD (id := 13) W62_13 [] O62_13 [_, _, _, _, _, _, _, _, _, _, _, _, _, _] [_] rfl (by repeat' (first | exact trivial | refine And.intro ?_ ?_ | exact bS | exact bX | exact bZ | exact bI | exact bC (π := []) (hs := by first | exact less_spec _ _ | fail) | fail)) ?_
            | refine oD (id := 15) W62_15 [] O62_15 [_, _, _, _, _, _, _, _, _, _, _, _, _, _, _] [_] rfl (by repeat' (first | exact trivial | refine And.intro ?_ ?_ | exact bS | exact bX | exact bZ | exact bI | exact bC (π := []) (hs := by first | exact less_spec _ _ | fail) | fail)) ?_
            | refine oD (id := 18) W62_18 [13, 15] O62_18 [_, _, _, _, _, _, _, _, _, _, _, _, _, _, _, _] [_, _, _] rfl (by repeat' (first | exact trivial | refine And.intro ?_ ?_ | exact bS | exact bX | exact bZ | exact bI | exact bC (π := []) (hs := by first | exact less_spec _ _ | fail) | fail)) ?_
            | refine oD (id := 21) W62_21 [13, 15] O62_21 [_, _, _, _, _, _, _, _, _, _, _, _, _, _, _, _] [_, _, _] rfl (by repeat' (first | exact trivial | refine And.intro ?_ ?_ | exact bS | exact bX | exact bZ | exact bI | exact bC (π := []) (hs := by first | exact less_spec _ _ | fail) | fail)) ?_
            | fail)
          obtain ⟨hij, hs⟩ := hi.swap h3 (decide_eq_false h2) (decide_eq_true h4)
          refine IWP_loop (fun x : List Ks × Nat × Nat => ⟨168, [(0, .sl 0 0 L.length cap 1), (1, .i64 a), (10, .i64 x.2.1), (11, .i64 x.2.2)], [.arr false (strs x.1)]⟩) (fun x => PI (fun x y => decide (cS x y < 0)) a b x.2.1 x.2.2 L x.1) (fun x => x.2.2 + 1 - x.2.1) (sw M i j, i + 1, j - 1) (lP [0]) hs ?_
          clear hi hl q0 q1 q2 q3 h1 h2 h3 h4 hij hs hM
          rintro ⟨M, i0, j0⟩ hi0
          replace hi0 : PI (fun x y => decide (cS x y < 0)) a b i0 j0 L M := hi0
          have hl := hi0.ps.len
          have q3 := hi0.bl
          simp only
          repeat' (first
            | refine IOps_nil ?_
            | refine oS ?_
            | refine IOps_s rfl rfl ?_
            | refine oT ?_
            | refine IOps_s0 rfl ?_
            | refine oZ ?_
            | refine oI ?_
            | refine thenI_n ?_
            | refine IWP_seq ?_
            | refine IWP_region ?_
            | refine IWP_ct rfl ?_
            | refine IWP_cf rfl ?_
            | refine IWP_skip ?_
            | refine IWP_ret ?_
            | refine IWP_block ?_
            | refine inB_n ?_
            | refine thenI_r ?_
            | refine thenI_e ?_
            | refine inB_r ?_
            | refine inB_hit ?_
            | refine inB_miss rfl ?_
            | refine IWP_exit ?_
            | refine IWP_scope ?_
            | refine IWP_label ?_
            | refine noG_n ?_
            | refine noG_r ?_
            | refine noG_e ?_
            | refine jmp_n ?_
            | refine jmp_r ?_
            | refine jmp_e ?_
            | refine jmp_g ?_
            | refine thenI_g ?_
            | refine inB_g ?_
            | refine IWP_goto ?_
            | refine Loop_n ?_
            | refine oD (id := 1) W62_1 [13, 15] O62_1 [_, _, _, _, _, _, _, _, _, _, _, _, _, _, _, _] [_, _, _] rfl (by repeat' (first | exact trivial | refine And.intro ?_ ?_ | exact bS | exact bX | exact bZ | exact bI | fail)) ?_
            | refine oD (id := 3) W62_3 [] O62_3 [_, _, _, _, _, _, _, _, _, _, _, _, _, _] [_] rfl (by repeat' (first | exact trivial | refine And.intro ?_ ?_ | exact bS | exact bX | exact bZ | exact bI | fail)) ?_
            | refine oD (id := 5) W62_5 [] O62_5 [_, _, _, _, _, _, _, _, _, _, _, _, _, _, _] [_] rfl (by repeat' (first | exact trivial | refine And.intro ?_ ?_ | exact bS | exact bX | exact bZ | exact bI | fail)) ?_
            | refine oD (id := 8) W62_8 [13, 15] O62_8 [_, _, _, _, _, _, _, _, _, _, _, _, _, _, _, _] [_, _, _] rfl (by repeat' (first | exact trivial | refine And.intro ?_ ?_ | exact bS | exact bX | exact bZ | exact bI | fail)) ?_
            | refine oD (id := 10) W62_10 [13, 15] O62_10 [_, _, _, _, _, _, _, _, _, _, _, _, _, _, _, _] [_, _, _] rfl (by repeat' (first | exact trivial | refine And.intro ?_ ?_ | exact bS | exact bX | exact bZ | exact bI | fail)) ?_
            | refine oD (id := 13) W62_13 [] O62_13 [_, _, _, _, _, _, _, _, _, _, _, _, _, _] [_] rfl (by repeat' (first | exact trivial | refine And.intro ?_ ?_ | exact bS | exact bX | exact bZ | exact bI | fail)) ?_
            | refine oD (id := 15) W62_15 [] O62_15 [_, _, _, _, _, _, _, _, _, _, _, _, _, _, _] [_] rfl (by repeat' (first | exact trivial | refine And.intro ?_ ?_ | exact bS | exact bX | exact bZ | exact bI | fail)) ?_
            | refine oD (id := 18) W62_18 [13, 15] O62_18 [_, _, _, _, _, _, _, _, _, _, _, _, _, _, _, _] [_, _, _] rfl (by repeat' (first | exact trivial | refine And.intro ?_ ?_ | exact bS | exact bX | exact bZ | exact bI | fail)) ?_
            | refine oD (id := 21) W62_21 [13, 15] O62_21 [_, _, _, _, _, _, _, _, _, _, _, _, _, _, _, _] [_, _, _] rfl (by repeat' (first | exact trivial | refine And.intro ?_ ?_ | exact bS | exact bX | exact bZ | exact bI | fail)) ?_
            | fail)
          refine IWP_loop (fun i : Nat => ⟨168, [(0, .sl 0 0 L.length cap 1), (1, .i64 a), (10, .i64 i), (11, .i64 j0)], [.arr false (strs M)]⟩) (fun i => PI (fun x y => decide (cS x y < 0)) a b i j0 L M ∧ i0 ≤ i) (fun i => b - i) i0 (lP [0]) ⟨hi0, Nat.le_refl _⟩ ?_
          rintro i ⟨hi, hi00⟩
          have q0 := hi.i0; have q1 := hi.ij; have q2 := hi.jb
          by_cases h1 : i ≤ j0
          · by_cases h2 : cS (gd M i) (gd M a) < 0
            · repeat' (first
                | refine IOps_nil ?_
                | refine oS ?_
                | refine IOps_s rfl rfl ?_
                | refine oT ?_
                | refine IOps_s0 rfl ?_
                | refine oC (π := []) (hs := by first | exact less_spec _ _ | fail) (hx := ?_)
                | refine oZ ?_
                | refine oI ?_
                | refine thenI_n ?_
                | refine IWP_seq ?_
                | refine IWP_region ?_
                | refine IWP_ct rfl ?_
                | refine IWP_cf rfl ?_
                | refine IWP_skip ?_
                | refine IWP_ret ?_
                | refine IWP_block ?_
                | refine inB_n ?_
                | refine thenI_r ?_
                | refine thenI_e ?_
                | refine inB_r ?_
                | refine inB_hit ?_
                | refine inB_miss rfl ?_
                | refine IWP_exit ?_
                | refine IWP_scope ?_
                | refine IWP_label ?_
                | refine noG_n ?_
                | refine noG_r ?_
                | refine noG_e ?_
                | refine jmp_n ?_
                | refine jmp_r ?_
                | refine jmp_e ?_
                | refine jmp_g ?_
                | refine thenI_g ?_
                | refine inB_g ?_
                | refine IWP_goto ?_
                | refine Loop_n ?_
                | refine oD (id := 1) W62_1 [13, 15] O62_1 [_, _, _, _, _, _, _, _, _, _, _, _, _, _, _, _] [_, _, _] rfl (by repeat' (first | exact trivial | refine And.intro ?_ ?_ | exact bS | exact bX | exact bZ | exact bI | exact bC (π := []) (hs := by first | exact less_spec _ _ | fail) | fail)) ?_
                | refine oD (id := 3) W62_3 [] O62_3 [_, _, _, _, _, _, _, _, _, _, _, _, _, _] [_] rfl (by repeat' (first | exact trivial | refine And.intro ?_ ?_ | exact bS | exact bX | exact bZ | exact bI | exact bC (π := []) (hs := by first | exact less_spec _ _ | fail) | fail)) ?_
                | refine oD (id := 5) W62_5 [] O62_5 [_, _, _, _, _, _, _, _, _, _, _, _, _, _, _] [_] rfl (by repeat' (first | exact trivial | refine And.intro ?_ ?_ | exact bS | exact bX | exact bZ | exact bI | exact bC (π := []) (hs := by first | exact less_spec _ _ | fail) | fail)) ?_
                | refine oD (id := 8) W62_8 [13, 15] O62_8 [_, _, _, _, _, _, _, _, _, _, _, _, _, _, _, _] [_, _, _] rfl (by repeat' (first | exact trivial | refine And.intro ?_ ?_ | exact bS | exact bX | exact bZ | exact bI | exact bC (π := []) (hs := by first | exact less_spec _ _ | fail) | fail)) ?_
                | refine oD (id := 10) W62_10 [13, 15] O62_10 [_, _, _, _, _, _, _, _, _, _, _, _, _, _, _, _] [_, _, _] rfl (by repeat' (first | exact trivial | refine And.intro ?_ ?_ | exact bS | exact bX | exact bZ | exact bI | exact bC (π := []) (hs := by first | exact less_spec _ _ | fail) | fail)) ?_
                | refine oD (id := 13) W62_13 [] O62_13 [_, _, _, _, _, _, _, _, _, _, _, _, _, _] [_] rfl (by repeat' (first | exact trivial | refine And.intro ?_ ?_ | exact bS | exact bX | exact bZ | exact bI | exact bC (π := []) (hs := by first | exact less_spec _ _ | fail) | fail)) ?_
                | refine oD (id := 15) W62_15 [] O62_15 [_, _, _, _, _, _, _, _, _, _, _, _, _, _, _] [_] rfl (by repeat' (first | exact trivial | refine And.intro ?_ ?_ | exact bS | exact bX | exact bZ | exact bI | exact bC (π := []) (hs := by first | exact less_spec _ _ | fail) | fail)) ?_
                | refine oD (id := 18) W62_18 [13, 15] O62_18 [_, _, _, _, _, _, _, _, _, _, _, _, _, _, _, _] [_, _, _] rfl (by repeat' (first | exact trivial | refine And.intro ?_ ?_ | exact bS | exact bX | exact bZ | exact bI | exact bC (π := []) (hs := by first | exact less_spec _ _ | fail) | fail)) ?_
                | refine oD (id := 21) W62_21 [13, 15] O62_21 [_, _, _, _, _, _, _, _, _, _, _, _, _, _, _, _] [_, _, _] rfl (by repeat' (first | exact trivial | refine And.intro ?_ ?_ | exact bS | exact bX | exact bZ | exact bI | exact bC (π := []) (hs := by first | exact less_spec _ _ | fail) | fail)) ?_
                | fail)
              exact ⟨i + 1, ⟨hi.incI h1 (decide_eq_true h2), by omega⟩, by omega, lP [0]⟩
            · repeat' (first
                | refine IOps_nil ?_
                | refine oS ?_
                | refine IOps_s rfl rfl ?_
                | refine oT ?_
                | refine IOps_s0 rfl ?_
                | refine oC (π := []) (hs := by first | exact less_spec _ _ | fail) (hx := ?_)
                | refine oZ ?_
                | refine oI ?_
                | refine thenI_n ?_
                | refine IWP_seq ?_
                | refine IWP_region ?_
                | refine IWP_ct rfl ?_
                | refine IWP_cf rfl ?_
                | refine IWP_skip ?_
                | refine IWP_ret ?_
                | refine IWP_block ?_
                | refine inB_n ?_
                | refine thenI_r ?_
                | refine thenI_e ?_
                | refine inB_r ?_
                | refine inB_hit ?_
                | refine inB_miss rfl ?_
                | refine IWP_exit ?_
                | refine IWP_scope ?_
                | refine IWP_label ?_
                | refine noG_n ?_
                | refine noG_r ?_
                | refine noG_e ?_
                | refine jmp_n ?_
                | refine jmp_r ?_
                | refine jmp_e ?_
                | refine jmp_g ?_
                | refine thenI_g ?_
                | refine inB_g ?_
                | refine IWP_goto ?_
                | refine Loop_n ?_
                | refine oD (id := 1) W62_1 [13, 15] O62_1 [_, _, _, _, _, _, _, _, _, _, _, _, _, _, _, _] [_, _, _] rfl (by repeat' (first | exact trivial | refine And.intro ?_ ?_ | exact bS | exact bX | exact bZ | exact bI | exact bC (π := []) (hs := by first | exact less_spec _ _ | fail) | fail)) ?_
                | refine oD (id := 3) W62_3 [] O62_3 [_, _, _, _, _, _, _, _, _, _, _, _, _, _] [_] rfl (by repeat' (first | exact trivial | refine And.intro ?_ ?_ | exact bS | exact bX | exact bZ | exact bI | exact bC (π := []) (hs := by first | exact less_spec _ _ | fail) | fail)) ?_
                | refine oD (id := 5) W62_5 [] O62_5 [_, _, _, _, _, _, _, _, _, _, _, _, _, _, _] [_] rfl (by repeat' (first | exact trivial | refine And.intro ?_ ?_ | exact bS | exact bX | exact bZ | exact bI | exact bC (π := []) (hs := by first | exact less_spec _ _ | fail) | fail)) ?_
                | refine oD (id := 8) W62_8 [13, 15] O62_8 [_, _, _, _, _, _, _, _, _, _, _, _, _, _, _, _] [_, _, _] rfl (by repeat' (first | exact trivial | refine And.intro ?_ ?_ | exact bS | exact bX | exact bZ | exact bI | exact bC (π := []) (hs := by first | exact less_spec _ _ | fail) | fail)) ?_
                | refine oD (id := 10) W62_10 [13, 15] O62_10 [_, _, _, _, _, _, _, _, _, _, _, _, _, _, _, _] [_, _, _] rfl (by repeat' (first | exact trivial | refine And.intro ?_ ?_ | exact bS | exact bX | exact bZ | exact bI | exact bC (π := []) (hs := by first | exact less_spec _ _ | fail) | fail)) ?_
                | refine oD (id := 13) W62_13 [] O62_13 [_, _, _, _, _, _, _, _, _, _, _, _, _, _] [_] rfl (by repeat' (first | exact trivial | refine And.intro ?_ ?_ | exact bS | exact bX | exact bZ | exact bI | exact bC (π := []) (hs := by first | exact less_spec _ _ | fail) | fail)) ?_
                | refine oD (id := 15) W62_15 [] O62_15 [_, _, _, _, _, _, _, _, _, _, _, _, _, _, _] [_] rfl (by repeat' (first | exact trivial | refine And.intro ?_ ?_ | exact bS | exact bX | exact bZ | exact bI | exact bC (π := []) (hs := by first | exact less_spec _ _ | fail) | fail)) ?_
                | refine oD (id := 18) W62_18 [13, 15] O62_18 [_, _, _, _, _, _, _, _, _, _, _, _, _, _, _, _] [_, _, _] rfl (by repeat' (first | exact trivial | refine And.intro ?_ ?_ | exact bS | exact bX | exact bZ | exact bI | exact bC (π := []) (hs := by first | exact less_spec _ _ | fail) | fail)) ?_
                | refine oD (id := 21) W62_21 [13, 15] O62_21 [_, _, _, _, _, _, _, _, _, _, _, _, _, _, _, _] [_, _, _] rfl (by repeat' (first | exact trivial | refine And.intro ?_ ?_ | exact bS | exact bX | exact bZ | exact bI | exact bC (π := []) (hs := by first | exact less_spec _ _ | fail) | fail)) ?_
                | fail)
              refine IWP_loop (fun j : Nat => ⟨168, [(0, .sl 0 0 L.length cap 1), (1, .i64 a), (10, .i64 i), (11, .i64 j)], [.arr false (strs M)]⟩) (fun j => PI (fun x y => decide (cS x y < 0)) a b i j L M ∧ j ≤ j0) (fun j => j) j0 (lP [0]) ⟨hi, Nat.le_refl _⟩ ?_
              rintro j ⟨hi, hj0⟩
              have q0 := hi.i0; have q1 := hi.ij; have q2 := hi.jb
              by_cases h3 : i ≤ j
              · by_cases h4 : cS (gd M j) (gd M a) < 0
                · obtain ⟨hij, hs⟩ := hi.swap h3 (decide_eq_false h2) (decide_eq_true h4)
                  repeat' (first
                    | refine IOps_nil ?_
                    | refine oS ?_
                    | refine IOps_s rfl rfl ?_
                    | refine oT ?_
                    | refine IOps_s0 rfl ?_
                    | refine oC (π := []) (hs := by first | exact less_spec _ _ | fail) (hx := ?_)
                    | refine oZ ?_
                    | refine oI ?_
                    | refine thenI_n ?_
                    | refine IWP_seq ?_
                    | refine IWP_region ?_
                    | refine IWP_ct rfl ?_
                    | refine IWP_cf rfl ?_
                    | refine IWP_skip ?_
                    | refine IWP_ret ?_
                    | refine IWP_block ?_
                    | refine inB_n ?_
                    | refine thenI_r ?_
                    | refine thenI_e ?_
                    | refine inB_r ?_
                    | refine inB_hit ?_
                    | refine inB_miss rfl ?_
                    | refine IWP_exit ?_
                    | refine IWP_scope ?_
                    | refine IWP_label ?_
                    | refine noG_n ?_
                    | refine noG_r ?_
                    | refine noG_e ?_
                    | refine jmp_n ?_
                    | refine jmp_r ?_
                    | refine jmp_e ?_
                    | refine jmp_g ?_
                    | refine thenI_g ?_
                    | refine inB_g ?_
                    | refine IWP_goto ?_
                    | refine Loop_n ?_
                    | refine oD (id := 1) W62_1 [13, 15] O62_1 [_, _, _, _, _, _, _, _, _, _, _, _, _, _, _, _] [_, _, _] rfl (by repeat' (first | exact trivial | refine And.intro ?_ ?_ | exact bS | exact bX | exact bZ | exact bI | exact bC (π := []) (hs := by first | exact less_spec _ _ | fail) | fail)) ?_
                    | refine oD (id := 3) W62_3 [] O62_3 [_, _, _, _, _, _, _, _, _, _, _, _, _, _] [_] rfl (by repeat' (first | exact trivial | refine And.intro ?_ ?_ | exact bS | exact bX | exact bZ | exact bI | exact bC (π := []) (hs := by first | exact less_spec _ _ | fail) | fail)) ?_
                    | refine oD (id := 5) W62_5 [] O62_5 [_, _, _, _, _, _, _, _, _, _, _, _, _, _, _] [_] rfl (by repeat' (first | exact trivial | refine And.intro ?_ ?_ | exact bS | exact bX | exact bZ | exact bI | exact bC (π := []) (hs := by first | exact less_spec _ _ | fail) | fail)) ?_
                    | refine oD (id := 8) W62_8 [13, 15] O62_8 [_, _, _, _, _, _, _, _, _, _, _, _, _, _, _, _] [_, _, _] rfl (by repeat' (first | exact trivial | refine And.intro ?_ ?_ | exact bS | exact bX | exact bZ | exact bI | exact bC (π := []) (hs := by first | exact less_spec _ _ | fail) | fail)) ?_
                    | refine oD (id := 10) W62_10 [13, 15] O62_10 [_, _, _, _, _, _, _, _, _, _, _, _, _, _, _, _] [_, _, _] rfl (by repeat' (first | exact trivial | refine And.intro ?_ ?_ | exact bS | exact bX | exact bZ | exact bI | exact bC (π := []) (hs := by first | exact less_spec _ _ | fail) | fail)) ?_
                    | refine oD (id := 13) W62_13 [] O62_13 [_, _, _, _, _, _, _, _, _, _, _, _, _, _] [_] rfl (by repeat' (first | exact trivial | refine And.intro ?_ ?_ | exact bS | exact bX | exact bZ | exact bI | exact bC (π := []) (hs := by first | exact less_spec _ _ | fail) | fail)) ?_
                    | refine oD (id := 15) W62_15 [] O62_15 [_, _, _, _, _, _, _, _, _, _, _, _, _, _, _] [_] rfl (by repeat' (first | exact trivial | refine And.intro ?_ ?_ | exact bS | exact bX | exact bZ | exact bI | exact bC (π := []) (hs := by first | exact less_spec _ _ | fail) | fail)) ?_
                    | refine oD (id := 18) W62_18 [13, 15] O62_18 [_, _, _, _, _, _, _, _, _, _, _, _, _, _, _, _] [_, _, _] rfl (by repeat' (first | exact trivial | refine And.intro ?_ ?_ | exact bS | exact bX | exact bZ | exact bI | exact bC (π := []) (hs := by first | exact less_spec _ _ | fail) | fail)) ?_
                    | refine oD (id := 21) W62_21 [13, 15] O62_21 [_, _, _, _, _, _, _, _, _, _, _, _, _, _, _, _] [_, _, _] rfl (by repeat' (first | exact trivial | refine And.intro ?_ ?_ | exact bS | exact bX | exact bZ | exact bI | exact bC (π := []) (hs := by first | exact less_spec _ _ | fail) | fail)) ?_
                    | fail)
                  exact ⟨(sw M i j, i + 1, j - 1), hs, by simp only; omega, lP [0]⟩
                · repeat' (first
                    | refine IOps_nil ?_
                    | refine oS ?_
                    | refine IOps_s rfl rfl ?_
                    | refine oT ?_
                    | refine IOps_s0 rfl ?_
                    | refine oC (π := []) (hs := by first | exact less_spec _ _ | fail) (hx := ?_)
                    | refine oZ ?_
                    | refine oI ?_
                    | refine thenI_n ?_
                    | refine IWP_seq ?_
                    | refine IWP_region ?_
                    | refine IWP_ct rfl ?_
                    | refine IWP_cf rfl ?_
                    | refine IWP_skip ?_
                    | refine IWP_ret ?_
                    | refine IWP_block ?_
                    | refine inB_n ?_
                    | refine thenI_r ?_
                    | refine thenI_e ?_
                    | refine inB_r ?_
                    | refine inB_hit ?_
                    | refine inB_miss rfl ?_
                    | refine IWP_exit ?_
                    | refine IWP_scope ?_
                    | refine IWP_label ?_
                    | refine noG_n ?_
                    | refine noG_r ?_
                    | refine noG_e ?_
                    | refine jmp_n ?_
                    | refine jmp_r ?_
                    | refine jmp_e ?_
                    | refine jmp_g ?_
                    | refine thenI_g ?_
                    | refine inB_g ?_
                    | refine IWP_goto ?_
                    | refine Loop_n ?_
                    | refine oD (id := 1) W62_1 [13, 15] O62_1 [_, _, _, _, _, _, _, _, _, _, _, _, _, _, _, _] [_, _, _] rfl (by repeat' (first | exact trivial | refine And.intro ?_ ?_ | exact bS | exact bX | exact bZ | exact bI | exact bC (π := []) (hs := by first | exact less_spec _ _ | fail) | fail)) ?_
                    | refine oD (id := 3) W62_3 [] O62_3 [_, _, _, _, _, _, _, _, _, _, _, _, _, _] [_] rfl (by repeat' (first | exact trivial | refine And.intro ?_ ?_ | exact bS | exact bX | exact bZ | exact bI | exact bC (π := []) (hs := by first | exact less_spec _ _ | fail) | fail)) ?_
                    | refine oD (id := 5) W62_5 [] O62_5 [_, _, _, _, _, _, _, _, _, _, _, _, _, _, _] [_] rfl (by repeat' (first | exact trivial | refine And.intro ?_ ?_ | exact bS | exact bX | exact bZ | exact bI | exact bC (π := []) (hs := by first | exact less_spec _ _ | fail) | fail)) ?_
                    | refine oD (id := 8) W62_8 [13, 15] O62_8 [_, _, _, _, _, _, _, _, _, _, _, _, _, _, _, _] [_, _, _] rfl (by repeat' (first | exact trivial | refine And.intro ?_ ?_ | exact bS | exact bX | exact bZ | exact bI | exact bC (π := []) (hs := by first | exact less_spec _ _ | fail) | fail)) ?_
                    | refine oD (id := 10) W62_10 [13, 15] O62_10 [_, _, _, _, _, _, _, _, _, _, _, _, _, _, _, _] [_, _, _] rfl (by repeat' (first | exact trivial | refine And.intro ?_ ?_ | exact bS | exact bX | exact bZ | exact bI | exact bC (π := []) (hs := by first | exact less_spec _ _ | fail) | fail)) ?_
                    | refine oD (id := 13) W62_13 [] O62_13 [_, _, _, _, _, _, _, _, _, _, _, _, _, _] [_] rfl (by repeat' (first | exact trivial | refine And.intro ?_ ?_ | exact bS | exact bX | exact bZ | exact bI | exact bC (π := []) (hs := by first | exact less_spec _ _ | fail) | fail)) ?_
                    | refine oD (id := 15) W62_15 [] O62_15 [_, _, _, _, _, _, _, _, _, _, _, _, _, _, _] [_] rfl (by repeat' (first | exact trivial | refine And.intro ?_ ?_ | exact bS | exact bX | exact bZ | exact bI | exact bC (π := []) (hs := by first | exact less_spec _ _ | fail) | fail)) ?_
                    | refine oD (id := 18) W62_18 [13, 15] O62_18 [_, _, _, _, _, _, _, _, _, _, _, _, _, _, _, _] [_, _, _] rfl (by repeat' (first | exact trivial | refine And.intro ?_ ?_ | exact bS | exact bX | exact bZ | exact bI | exact bC (π := []) (hs := by first | exact less_spec _ _ | fail) | fail)) ?_
                    | refine oD (id := 21) W62_21 [13, 15] O62_21 [_, _, _, _, _, _, _, _, _, _, _, _, _, _, _, _] [_, _, _] rfl (by repeat' (first | exact trivial | refine And.intro ?_ ?_ | exact bS | exact bX | exact bZ | exact bI | exact bC (π := []) (hs := by first | exact less_spec _ _ | fail) | fail)) ?_
                    | fail)
                  exact ⟨j - 1, ⟨hi.decJ h3 (decide_eq_false h4), by omega⟩, by omega, lP [0]⟩
              · repeat' (first
                  | refine IOps_nil ?_
                  | refine oS ?_
                  | refine IOps_s rfl rfl ?_
                  | refine oT ?_
                  | refine IOps_s0 rfl ?_
                  | refine oC (π := []) (hs := by first | exact less_spec _ _ | fail) (hx := ?_)
                  | refine oZ ?_
                  | refine oI ?_
                  | refine thenI_n ?_
                  | refine IWP_seq ?_
                  | refine IWP_region ?_
                  | refine IWP_ct rfl ?_
                  | refine IWP_cf rfl ?_
                  | refine IWP_skip ?_
                  | refine IWP_ret ?_
                  | refine IWP_block ?_
                  | refine inB_n ?_
                  | refine thenI_r ?_
                  | refine thenI_e ?_
                  | refine inB_r ?_
                  | refine inB_hit ?_
                  | refine inB_miss rfl ?_
                  | refine IWP_exit ?_
                  | refine IWP_scope ?_
                  | refine IWP_label ?_
                  | refine noG_n ?_
                  | refine noG_r ?_
                  | refine noG_e ?_
                  | refine jmp_n ?_
                  | refine jmp_r ?_
                  | refine jmp_e ?_
                  | refine jmp_g ?_
                  | refine thenI_g ?_
                  | refine inB_g ?_
                  | refine IWP_goto ?_
                  | refine Loop_n ?_
                  | refine oD (id := 1) W62_1 [13, 15] O62_1 [_, _, _, _, _, _, _, _, _, _, _, _, _, _, _, _] [_, _, _] rfl (by repeat' (first | exact trivial | refine And.intro ?_ ?_ | exact bS | exact bX | exact bZ | exact bI | exact bC (π := []) (hs := by first | exact less_spec _ _ | fail) | fail)) ?_
                  | refine oD (id := 3) W62_3 [] O62_3 [_, _, _, _, _, _, _, _, _, _, _, _, _, _] [_] rfl (by repeat' (first | exact trivial | refine And.intro ?_ ?_ | exact bS | exact bX | exact bZ | exact bI | exact bC (π := []) (hs := by first | exact less_spec _ _ | fail) | fail)) ?_
                  | refine oD (id := 5) W62_5 [] O62_5 [_, _, _, _, _, _, _, _, _, _, _, _, _, _, _] [_] rfl (by repeat' (first | exact trivial | refine And.intro ?_ ?_ | exact bS | exact bX | exact bZ | exact bI | exact bC (π := []) (hs := by first | exact less_spec _ _ | fail) | fail)) ?_
                  | refine oD (id := 8) W62_8 [13, 15] O62_8 [_, _, _, _, _, _, _, _, _, _, _, _, _, _, _, _] [_, _, _] rfl (by repeat' (first | exact trivial | refine And.intro ?_ ?_ | exact bS | exact bX | exact bZ | exact bI | exact bC (π := []) (hs := by first | exact less_spec _ _ | fail) | fail)) ?_
                  | refine oD (id := 10) W62_10 [13, 15] O62_10 [_, _, _, _, _, _, _, _, _, _, _, _, _, _, _, _] [_, _, _] rfl (by repeat' (first | exact trivial | refine And.intro ?_ ?_ | exact bS | exact bX | exact bZ | exact bI | exact bC (π := []) (hs := by first | exact less_spec _ _ | fail) | fail)) ?_
                  | refine oD (id := 13) W62_13 [] O62_13 [_, _, _, _, _, _, _, _, _, _, _, _, _, _] [_] rfl (by repeat' (first | exact trivial | refine And.intro ?_ ?_ | exact bS | exact bX | exact bZ | exact bI | exact bC (π := []) (hs := by first | exact less_spec _ _ | fail) | fail)) ?_
                  | refine oD (id := 15) W62_15 [] O62_15 [_, _, _, _, _, _, _, _, _, _, _, _, _, _, _] [_] rfl (by repeat' (first | exact trivial | refine And.intro ?_ ?_ | exact bS | exact bX | exact bZ | exact bI | exact bC (π := []) (hs := by first | exact less_spec _ _ | fail) | fail)) ?_
                  | refine oD (id := 18) W62_18 [13, 15] O62_18 [_, _, _, _, _, _, _, _, _, _, _, _, _, _, _, _] [_, _, _] rfl (by repeat' (first | exact trivial | refine And.intro ?_ ?_ | exact bS | exact bX | exact bZ | exact bI | exact bC (π := []) (hs := by first | exact less_spec _ _ | fail) | fail)) ?_
                  | refine oD (id := 21) W62_21 [13, 15] O62_21 [_, _, _, _, _, _, _, _, _, _, _, _, _, _, _, _] [_, _, _] rfl (by repeat' (first | exact trivial | refine And.intro ?_ ?_ | exact bS | exact bX | exact bZ | exact bI | exact bC (π := []) (hs := by first | exact less_spec _ _ | fail) | fail)) ?_
                  | fail)
                exact pX [0] (sw M j a, j, false) (hi.done (by omega)) rfl
          · obtain rfl : i = j0 + 1 := by omega
            repeat' (first
              | refine IOps_nil ?_
              | refine oS ?_
              | refine IOps_s rfl rfl ?_
              | refine oT ?_
              | refine IOps_s0 rfl ?_
              | refine oC (π := []) (hs := by first | exact less_spec _ _ | fail) (hx := ?_)
              | refine oZ ?_
              | refine oI ?_
              | refine thenI_n ?_
              | refine IWP_seq ?_
              | refine IWP_region ?_
              | refine IWP_ct rfl ?_
              | refine IWP_cf rfl ?_
              | refine IWP_skip ?_
              | refine IWP_ret ?_
              | refine IWP_block ?_
              | refine inB_n ?_
              | refine thenI_r ?_
              | refine thenI_e ?_
              | refine inB_r ?_
              | refine inB_hit ?_
              | refine inB_miss rfl ?_
              | refine IWP_exit ?_
              | refine IWP_scope ?_
              | refine IWP_label ?_
              | refine noG_n ?_
              | refine noG_r ?_
              | refine noG_e ?_
              | refine jmp_n ?_
              | refine jmp_r ?_
              | refine jmp_e ?_
              | refine jmp_g ?_
              | refine thenI_g ?_
              | refine inB_g ?_
              | refine IWP_goto ?_
              | refine Loop_n ?_
              | refine oD (id := 1) W62_1 [13, 15] O62_1 [_, _, _, _, _, _, _, _, _, _, _, _, _, _, _, _] [_, _, _] rfl (by repeat' (first | exact trivial | refine And.intro ?_ ?_ | exact bS | exact bX | exact bZ | exact bI | exact bC (π := []) (hs := by first | exact less_spec _ _ | fail) | fail)) ?_
              | refine oD (id := 3) W62_3 [] O62_3 [_, _, _, _, _, _, _, _, _, _, _, _, _, _] [_] rfl (by repeat' (first | exact trivial | refine And.intro ?_ ?_ | exact bS | exact bX | exact bZ | exact bI | exact bC (π := []) (hs := by first | exact less_spec _ _ | fail) | fail)) ?_
              | refine oD (id := 5) W62_5 [] O62_5 [_, _, _, _, _, _, _, _, _, _, _, _, _, _, _] [_] rfl (by repeat' (first | exact trivial | refine And.intro ?_ ?_ | exact bS | exact bX | exact bZ | exact bI | exact bC (π := []) (hs := by first | exact less_spec _ _ | fail) | fail)) ?_
              | refine oD (id := 8) W62_8 [13, 15] O62_8 [_, _, _, _, _, _, _, _, _, _, _, _, _, _, _, _] [_, _, _] rfl (by repeat' (first | exact trivial | refine And.intro ?_ ?_ | exact bS | exact bX | exact bZ | exact bI | exact bC (π := []) (hs := by first | exact less_spec _ _ | fail) | fail)) ?_
              | refine oD (id := 10) W62_10 [13, 15] O62_10 [_, _, _, _, _, _, _, _, _, _, _, _, _, _, _, _] [_, _, _] rfl (by repeat' (first | exact trivial | refine And.intro ?_ ?_ | exact bS | exact bX | exact bZ | exact bI | exact bC (π := []) (hs := by first | exact less_spec _ _ | fail) | fail)) ?_
              | refine oD (id := 13) W62_13 [] O62_13 [_, _, _, _, _, _, _, _, _, _, _, _, _, _] [_] rfl (by repeat' (first | exact trivial | refine And.intro ?_ ?_ | exact bS | exact bX | exact bZ | exact bI | exact bC (π := []) (hs := by first | exact less_spec _ _ | fail) | fail)) ?_
              | refine oD (id := 15) W62_15 [] O62_15 [_, _, _, _, _, _, _, _, _, _, _, _, _, _, _] [_] rfl (by repeat' (first | exact trivial | refine And.intro ?_ ?_ | exact bS | exact bX | exact bZ | exact bI | exact bC (π := []) (hs := by first | exact less_spec _ _ | fail) | fail)) ?_
              | refine oD (id := 18) W62_18 [13, 15] O62_18 [_, _, _, _, _, _, _, _, _, _, _, _, _, _, _, _] [_, _, _] rfl (by repeat' (first | exact trivial | refine And.intro ?_ ?_ | exact bS | exact bX | exact bZ | exact bI | exact bC (π := []) (hs := by first | exact less_spec _ _ | fail) | fail)) ?_
              | refine oD (id := 21) W62_21 [13, 15] O62_21 [_, _, _, _, _, _, _, _, _, _, _, _, _, _, _, _] [_, _, _] rfl (by repeat' (first | exact trivial | refine And.intro ?_ ?_ | exact bS | exact bX | exact bZ | exact bI | exact bC (π := []) (hs := by first | exact less_spec _ _ | fail) | fail)) ?_
              | fail)
            refine IWP_loop (fun _ : Unit => ⟨168, [(0, .sl 0 0 L.length cap 1), (1, .i64 a), (10, .i64 ((j0 : Int) + 1)), (11, .i64 j0)], [.arr false (strs M)]⟩) (fun _ => True) (fun _ => 0) () (lP [0]) trivial ?_
            intro _ _
            repeat' (first
              | refine IOps_nil ?_
              | refine oS ?_
              | refine IOps_s rfl rfl ?_
              | refine oT ?_
              | refine IOps_s0 rfl ?_
              | refine oC (π := []) (hs := by first | exact less_spec _ _ | fail) (hx := ?_)
              | refine oZ ?_
              | refine oI ?_
              | refine thenI_n ?_
              | refine IWP_seq ?_
              | refine IWP_region ?_
              | refine IWP_ct rfl ?_
              | refine IWP_cf rfl ?_
              | refine IWP_skip ?_
              | refine IWP_ret ?_
              | refine IWP_block ?_
              | refine inB_n ?_
              | refine thenI_r ?_
              | refine thenI_e ?_
              | refine inB_r ?_
              | refine inB_hit ?_
              | refine inB_miss rfl ?_
              | refine IWP_exit ?_
              | refine IWP_scope ?_
              | refine IWP_label ?_
              | refine noG_n ?_
              | refine noG_r ?_
              | refine noG_e ?_
              | refine jmp_n ?_
              | refine jmp_r ?_
              | refine jmp_e ?_
              | refine jmp_g ?_
              | refine thenI_g ?_
              | refine inB_g ?_
              | refine IWP_goto ?_
              | refine Loop_n ?_
              | refine oD (id := 1) W62_1 [13, 15] O62_1 [_, _, _, _, _, _, _, _, _, _, _, _, _, _, _, _] [_, _, _] rfl (by repeat' (first | exact trivial | refine And.intro ?_ ?_ | exact bS | exact bX | exact bZ | exact bI | exact bC (π := []) (hs := by first | exact less_spec _ _ | fail) | fail)) ?_
              | refine oD (id := 3) W62_3 [] O62_3 [_, _, _, _, _, _, _, _, _, _, _, _, _, _] [_] rfl (by repeat' (first | exact trivial | refine And.intro ?_ ?_ | exact bS | exact bX | exact bZ | exact bI | exact bC (π := []) (hs := by first | exact less_spec _ _ | fail) | fail)) ?_
              | refine oD (id := 5) W62_5 [] O62_5 [_, _, _, _, _, _, _, _, _, _, _, _, _, _, _] [_] rfl (by repeat' (first | exact trivial | refine And.intro ?_ ?_ | exact bS | exact bX | exact bZ | exact bI | exact bC (π := []) (hs := by first | exact less_spec _ _ | fail) | fail)) ?_
              | refine oD (id := 8) W62_8 [13, 15] O62_8 [_, _, _, _, _, _, _, _, _, _, _, _, _, _, _, _] [_, _, _] rfl (by repeat' (first | exact trivial | refine And.intro ?_ ?_ | exact bS | exact bX | exact bZ | exact bI | exact bC (π := []) (hs := by first | exact less_spec _ _ | fail) | fail)) ?_
              | refine oD (id := 10) W62_10 [13, 15] O62_10 [_, _, _, _, _, _, _, _, _, _, _, _, _, _, _, _] [_, _, _] rfl (by repeat' (first | exact trivial | refine And.intro ?_ ?_ | exact bS | exact bX | exact bZ | exact bI | exact bC (π := []) (hs := by first | exact less_spec _ _ | fail) | fail)) ?_
              | refine oD (id := 13) W62_13 [] O62_13 [_, _, _, _, _, _, _, _, _, _, _, _, _, _] [_] rfl (by repeat' (first | exact trivial | refine And.intro ?_ ?_ | exact bS | exact bX | exact bZ | exact bI | exact bC (π := []) (hs := by first | exact less_spec _ _ | fail) | fail)) ?_
              | refine oD (id := 15) W62_15 [] O62_15 [_, _, _, _, _, _, _, _, _, _, _, _, _, _, _] [_] rfl (by repeat' (first | exact trivial | refine And.intro ?_ ?_ | exact bS | exact bX | exact bZ | exact bI | exact bC (π := []) (hs := by first | exact less_spec _ _ | fail) | fail)) ?_
              | refine oD (id := 18) W62_18 [13, 15] O62_18 [_, _, _, _, _, _, _, _, _, _, _, _, _, _, _, _] [_, _, _] rfl (by repeat' (first | exact trivial | refine And.intro ?_ ?_ | exact bS | exact bX | exact bZ | exact bI | exact bC (π := []) (hs := by first | exact less_spec _ _ | fail) | fail)) ?_
              | refine oD (id := 21) W62_21 [13, 15] O62_21 [_, _, _, _, _, _, _, _, _, _, _, _, _, _, _, _] [_, _, _] rfl (by repeat' (first | exact trivial | refine And.intro ?_ ?_ | exact bS | exact bX | exact bZ | exact bI | exact bC (π := []) (hs := by first | exact less_spec _ _ | fail) | fail)) ?_
              | fail)
            exact pX [0] (sw M j0 a, j0, false) (hi.done (by omega)) rfl
        · repeat' (first
            | refine IOps_nil ?_
            | refine oS ?_
            | refine IOps_s rfl rfl ?_
            | refine oT ?_
            | refine IOps_s0 rfl ?_
            | refine oC (π := []) (hs := by first | exact less_spec _ _ | fail) (hx := ?_)
            | refine oZ ?_
            | refine oI ?_
            | refine thenI_n ?_
            | refine IWP_seq ?_
            | refine IWP_region ?_
            | refine IWP_ct rfl ?_
            | refine IWP_cf rfl ?_
            | refine IWP_skip ?_
            | refine IWP_ret ?_
            | refine IWP_block ?_
            | refine inB_n ?_
            | refine thenI_r ?_
            | refine thenI_e ?_
            | refine inB_r ?_
            | refine inB_hit ?_
            | refine inB_miss rfl ?_
            | refine IWP_exit ?_
            | refine IWP_scope ?_
            | refine IWP_label ?_
            | refine noG_n ?_
            | refine noG_r ?_
            | refine noG_e ?_
            | refine jmp_n ?_
            | refine jmp_r ?_
            | refine jmp_e ?_
            | refine jmp_g ?_
            | refine thenI_g ?_
            | refine inB_g ?_
            | refine IWP_goto ?_
            | refine Loop_n ?_
            | refine oD (id := 1) W62_1 [13, 15] O62_1 [_, _, _, _, _, _, _, _, _, _, _, _, _, _, _, _] [_, _, _] rfl (by repeat' (first | exact trivial | refine And.intro ?_ ?_ | exact bS | exact bX | exact bZ | exact bI | exact bC (π := []) (hs := by first | exact less_spec _ _ | fail) | fail)) ?_
            | refine oD (id := 3) W62_3 [] O62_3 [_, _, _, _, _, _, _, _, _, _, _, _, _, _] [_] rfl (by repeat' (first | exact trivial | refine And.intro ?_ ?_ | exact bS | exact bX | exact bZ | exact bI | exact bC (π := []) (hs := by first | exact less_spec _ _ | fail) | fail)) ?_
            | refine oD (id := 5) W62_5 [] O62_5 [_, _, _, _, _, _, _, _, _, _, _, _, _, _, _] [_] rfl (by repeat' (first | exact trivial | refine And.intro ?_ ?_ | exact bS | exact bX | exact bZ | exact bI | exact bC (π := []) (hs := by first | exact less_spec _ _ | fail) | fail)) ?_
            | refine oD (id := 8) W62_8 [13, 15] O62_8 [_, _, _, _, _, _, _, _, _, _, _, _, _, _, _, _] [_, _, _] rfl (by repeat' (first | exact trivial | refine And.intro ?_ ?_ | exact bS | exact bX | exact bZ | exact bI | exact bC (π := []) (hs := by first | exact less_spec _ _ | fail) | fail)) ?_
            | refine oD (id := 10) W62_10 [13, 15] O62_10 [_, _, _, _, _, _, _, _, _, _, _, _, _, _, _, _] [_, _, _] rfl (by repeat' (first | exact trivial | refine And.intro ?_ ?_ | exact bS | exact bX | exact bZ | exact bI | exact bC (π := []) (hs := by first | exact less_spec _ _ | fail) | fail)) ?_
            | refine oD (id := 13) W62_13 [] O62_13 [_, _, _, _, _, _, _, _, _, _, _, _, _, _] [_] rfl (by repeat' (first | exact trivial | refine And.intro ?_ ?_ | exact bS | exact bX | exact bZ | exact bI | exact bC (π := []) (hs := by first | exact less_spec _ _ | fail) | fail)) ?_
            | refine oD (id := 15) W62_15 [] O62_15 [_, _, _, _, _, _, _, _, _, _, _, _, _, _, _] [_] rfl (by repeat' (first | exact trivial | refine And.intro ?_ ?_ | exact bS | exact bX | exact bZ | exact bI | exact bC (π := []) (hs := by first | exact less_spec _ _ | fail) | fail)) ?_
            | refine oD (id := 18) W62_18 [13, 15] O62_18 [_, _, _, _, _, _, _, _, _, _, _, _, _, _, _, _] [_, _, _] rfl (by repeat' (first | exact trivial | refine And.intro ?_ ?_ | exact bS | exact bX | exact bZ | exact bI | exact bC (π := []) (hs := by first | exact less_spec _ _ | fail) | fail)) ?_
            | refine oD (id := 21) W62_21 [13, 15] O62_21 [_, _, _, _, _, _, _, _, _, _, _, _, _, _, _, _] [_, _, _] rfl (by repeat' (first | exact trivial | refine And.intro ?_ ?_ | exact bS | exact bX | exact bZ | exact bI | exact bC (π := []) (hs := by first | exact less_spec _ _ | fail) | fail)) ?_
            | fail)
          exact ⟨j - 1, hi.decJ h3 (decide_eq_false h4), by omega, lP [0]⟩
      · repeat' (first
          | refine IOps_nil ?_
          | refine oS ?_
          | refine IOps_s rfl rfl ?_
          | refine oT ?_
          | refine IOps_s0 rfl ?_
          | refine oC (π := []) (hs := by first | exact less_spec _ _ | fail) (hx := ?_)
          | refine oZ ?_
          | refine oI ?_
          | refine thenI_n ?_
          | refine IWP_seq ?_
          | refine IWP_region ?_
          | refine IWP_ct rfl ?_
          | refine IWP_cf rfl ?_
          | refine IWP_skip ?_
          | refine IWP_ret ?_
          | refine IWP_block ?_
          | refine inB_n ?_
          | refine thenI_r ?_
          | refine thenI_e ?_
          | refine inB_r ?_
          | refine inB_hit ?_
          | refine inB_miss rfl ?_
          | refine IWP_exit ?_
          | refine IWP_scope ?_
          | refine IWP_label ?_
          | refine noG_n ?_
          | refine noG_r ?_
          | refine noG_e ?_
          | refine jmp_n ?_
          | refine jmp_r ?_
          | refine jmp_e ?_
          | refine jmp_g ?_
          | refine thenI_g ?_
          | refine inB_g ?_
          | refine IWP_goto ?_
          | refine Loop_n ?_
          | refine oD (id := 1) W62_1 [13, 15] O62_1 [_, _, _, _, _, _, _, _, _, _, _, _, _, _, _, _] [_, _, _] rfl (by repeat' (first | exact trivial | refine And.intro ?_ ?_ | exact bS | exact bX | exact bZ | exact bI | exact bC (π := []) (hs := by first | exact less_spec _ _ | fail) | fail)) ?_
          | refine oD (id := 3) W62_3 [] O62_3 [_, _, _, _, _, _, _, _, _, _, _, _, _, _] [_] rfl (by repeat' (first | exact trivial | refine And.intro ?_ ?_ | exact bS | exact bX | exact bZ | exact bI | exact bC (π := []) (hs := by first | exact less_spec _ _ | fail) | fail)) ?_
          | refine oD (id := 5) W62_5 [] O62_5 [_, _, _, _, _, _, _, _, _, _, _, _, _, _, _] [_] rfl (by repeat' (first | exact trivial | refine And.intro ?_ ?_ | exact bS | exact bX | exact bZ | exact bI | exact bC (π := []) (hs := by first | exact less_spec _ _ | fail) | fail)) ?_
          | refine oD (id := 8) W62_8 [13, 15] O62_8 [_, _, _, _, _, _, _, _, _, _, _, _, _, _, _, _] [_, _, _] rfl (by repeat' (first | exact trivial | refine And.intro ?_ ?_ | exact bS | exact bX | exact bZ | exact bI | exact bC (π := []) (hs := by first | exact less_spec _ _ | fail) | fail)) ?_
          | refine oD (id := 10) W62_10 [13, 15] O62_10 [_, _, _, _, _, _, _, _, _, _, _, _, _, _, _, _] [_, _, _] rfl (by repeat' (first | exact trivial | refine And.intro ?_ ?_ | exact bS | exact bX | exact bZ | exact bI | exact bC (π := []) (hs := by first | exact less_spec _ _ | fail) | fail)) ?_
          | refine oD (id := 13) W62_13 [] O62_13 [_, _, _, _, _, _, _, _, _, _, _, _, _, _] [_] rfl (by repeat' (first | exact trivial | refine And.intro ?_ ?_ | exact bS | exact bX | exact bZ | exact bI | exact bC (π := []) (hs := by first | exact less_spec _ _ | fail) | fail)) ?_
          | refine oD (id := 15) W62_15 [] O62_15 [_, _, _, _, _, _, _, _, _, _, _, _, _, _, _] [_] rfl (by repeat' (first | exact trivial | refine And.intro ?_ ?_ | exact bS | exact bX | exact bZ | exact bI | exact bC (π := []) (hs := by first | exact less_spec _ _ | fail) | fail)) ?_
          | refine oD (id := 18) W62_18 [13, 15] O62_18 [_, _, _, _, _, _, _, _, _, _, _, _, _, _, _, _] [_, _, _] rfl (by repeat' (first | exact trivial | refine And.intro ?_ ?_ | exact bS | exact bX | exact bZ | exact bI | exact bC (π := []) (hs := by first | exact less_spec _ _ | fail) | fail)) ?_
          | refine oD (id := 21) W62_21 [13, 15] O62_21 [_, _, _, _, _, _, _, _, _, _, _, _, _, _, _, _] [_, _, _] rfl (by repeat' (first | exact trivial | refine And.intro ?_ ?_ | exact bS | exact bX | exact bZ | exact bI | exact bC (π := []) (hs := by first | exact less_spec _ _ | fail) | fail)) ?_
          | fail)
        exact pX [0] (sw M j a, j, true) (hi.done (by omega)) rfl
  · obtain rfl : i = b := by omega
    repeat' (first
      | refine IOps_nil ?_
      | refine oS ?_
      | refine IOps_s rfl rfl ?_
      | refine oT ?_
      | refine IOps_s0 rfl ?_
      | refine oC (π := []) (hs := by first | exact less_spec _ _ | fail) (hx := ?_)
      | refine oZ ?_
      | refine oI ?_
      | refine thenI_n ?_
      | refine IWP_seq ?_
      | refine IWP_region ?_
      | refine IWP_ct rfl ?_
      | refine IWP_cf rfl ?_
      | refine IWP_skip ?_
      | refine IWP_ret ?_
      | refine IWP_block ?_
      | refine inB_n ?_
      | refine thenI_r ?_
      | refine thenI_e ?_
      | refine inB_r ?_
      | refine inB_hit ?_
      | refine inB_miss rfl ?_
      | refine IWP_exit ?_
      | refine IWP_scope ?_
      | refine IWP_label ?_
      | refine noG_n ?_
      | refine noG_r ?_
      | refine noG_e ?_
      | refine jmp_n ?_
      | refine jmp_r ?_
      | refine jmp_e ?_
      | refine jmp_g ?_
      | refine thenI_g ?_
      | refine inB_g ?_
      | refine IWP_goto ?_
      | refine Loop_n ?_
      | refine oD (id := 1) W62_1 [13, 15] O62_1 [_, _, _, _, _, _, _, _, _, _, _, _, _, _, _, _] [_, _, _] rfl (by repeat' (first | exact trivial | refine And.intro ?_ ?_ | exact bS | exact bX | exact bZ | exact bI | exact bC (π := []) (hs := by first | exact less_spec _ _ | fail) | fail)) ?_
      | refine oD (id := 3) W62_3 [] O62_3 [_, _, _, _, _, _, _, _, _, _, _, _, _, _] [_] rfl (by repeat' (first | exact trivial | refine And.intro ?_ ?_ | exact bS | exact bX | exact bZ | exact bI | exact bC (π := []) (hs := by first | exact less_spec _ _ | fail) | fail)) ?_
      | refine oD (id := 5) W62_5 [] O62_5 [_, _, _, _, _, _, _, _, _, _, _, _, _, _, _] [_] rfl (by repeat' (first | exact trivial | refine And.intro ?_ ?_ | exact bS | exact bX | exact bZ | exact bI | exact bC (π := []) (hs := by first | exact less_spec _ _ | fail) | fail)) ?_
      | refine oD (id := 8) W62_8 [13, 15] O62_8 [_, _, _, _, _, _, _, _, _, _, _, _, _, _, _, _] [_, _, _] rfl (by repeat' (first | exact trivial | refine And.intro ?_ ?_ | exact bS | exact bX | exact bZ | exact bI | exact bC (π := []) (hs := by first | exact less_spec _ _ | fail) | fail)) ?_
      | refine oD (id := 10) W62_10 [13, 15] O62_10 [_, _, _, _, _, _, _, _, _, _, _, _, _, _, _, _] [_, _, _] rfl (by repeat' (first | exact trivial | refine And.intro ?_ ?_ | exact bS | exact bX | exact bZ | exact bI | exact bC (π := []) (hs := by first | exact less_spec _ _ | fail) | fail)) ?_
      | refine oD (id := 13) W62_13 [] O62_13 [_, _, _, _, _, _, _, _, _, _, _, _, _, _] [_] rfl (by repeat' (first | exact trivial | refine And.intro ?_ ?_ | exact bS | exact bX | exact bZ | exact bI | exact bC (π := []) (hs := by first | exact less_spec _ _ | fail) | fail)) ?_
      | refine oD (id := 15) W62_15 [] O62_15 [_, _, _, _, _, _, _, _, _, _, _, _, _, _, _] [_] rfl (by repeat' (first | exact trivial | refine And.intro ?_ ?_ | exact bS | exact bX | exact bZ | exact bI | exact bC (π := []) (hs := by first | exact less_spec _ _ | fail) | fail)) ?_
      | refine oD (id := 18) W62_18 [13, 15] O62_18 [_, _, _, _, _, _, _, _, _, _, _, _, _, _, _, _] [_, _, _] rfl (by repeat' (first | exact trivial | refine And.intro ?_ ?_ | exact bS | exact bX | exact bZ | exact bI | exact bC (π := []) (hs := by first | exact less_spec _ _ | fail) | fail)) ?_
      | refine oD (id := 21) W62_21 [13, 15] O62_21 [_, _, _, _, _, _, _, _, _, _, _, _, _, _, _, _] [_, _, _] rfl (by repeat' (first | exact trivial | refine And.intro ?_ ?_ | exact bS | exact bX | exact bZ | exact bI | exact bC (π := []) (hs := by first | exact less_spec _ _ | fail) | fail)) ?_
      | fail)
    refine IWP_loop (fun _ : Unit => ⟨168, [(0, .sl 0 0 L.length cap 1), (1, .i64 a), (10, .i64 i), (11, .i64 ((i - 1 : Nat) : Int))], [.arr false (strs M)]⟩) (fun _ => True) (fun _ => 0) () (lP [0]) trivial ?_
    intro _ _
    repeat' (first
      | refine IOps_nil ?_
      | refine oS ?_
      | refine IOps_s rfl rfl ?_
      | refine oT ?_
      | refine IOps_s0 rfl ?_
      | refine oC (π := []) (hs := by first | exact less_spec _ _ | fail) (hx := ?_)
      | refine oZ ?_
      | refine oI ?_
      | refine thenI_n ?_
      | refine IWP_seq ?_
      | refine IWP_region ?_
      | refine IWP_ct rfl ?_
      | refine IWP_cf rfl ?_
      | refine IWP_skip ?_
      | refine IWP_ret ?_
      | refine IWP_block ?_
      | refine inB_n ?_
      | refine thenI_r ?_
      | refine thenI_e ?_
      | refine inB_r ?_
      | refine inB_hit ?_
      | refine inB_miss rfl ?_
      | refine IWP_exit ?_
      | refine IWP_scope ?_
      | refine IWP_label ?_
      | refine noG_n ?_
      | refine noG_r ?_
      | refine noG_e ?_
      | refine jmp_n ?_
      | refine jmp_r ?_
      | refine jmp_e ?_
      | refine jmp_g ?_
      | refine thenI_g ?_
      | refine inB_g ?_
      | refine IWP_goto ?_
      | refine Loop_n ?_
      | refine oD (id := 1) W62_1 [13, 15] O62_1 [_, _, _, _, _, _, _, _, _, _, _, _, _, _, _, _] [_, _, _] rfl (by repeat' (first | exact trivial | refine And.intro ?_ ?_ | exact bS | exact bX | exact bZ | exact bI | exact bC (π := []) (hs := by first | exact less_spec _ _ | fail) | fail)) ?_
      | refine oD (id := 3) W62_3 [] O62_3 [_, _, _, _, _, _, _, _, _, _, _, _, _, _] [_] rfl (by repeat' (first | exact trivial | refine And.intro ?_ ?_ | exact bS | exact bX | exact bZ | exact bI | exact bC (π := []) (hs := by first | exact less_spec _ _ | fail) | fail)) ?_
      | refine oD (id := 5) W62_5 [] O62_5 [_, _, _, _, _, _, _, _, _, _, _, _, _, _, _] [_] rfl (by repeat' (first | exact trivial | refine And.intro ?_ ?_ | exact bS | exact bX | exact bZ | exact bI | exact bC (π := []) (hs := by first | exact less_spec _ _ | fail) | fail)) ?_
      | refine oD (id := 8) W62_8 [13, 15] O62_8 [_, _, _, _, _, _, _, _, _, _, _, _, _, _, _, _] [_, _, _] rfl (by repeat' (first | exact trivial | refine And.intro ?_ ?_ | exact bS | exact bX | exact bZ | exact bI | exact bC (π := []) (hs := by first | exact less_spec _ _ | fail) | fail)) ?_
      | refine oD (id := 10) W62_10 [13, 15] O62_10 [_, _, _, _, _, _, _, _, _, _, _, _, _, _, _, _] [_, _, _] rfl (by repeat' (first | exact trivial | refine And.intro ?_ ?_ | exact bS | exact bX | exact bZ | exact bI | exact bC (π := []) (hs := by first | exact less_spec _ _ | fail) | fail)) ?_
      | refine oD (id := 13) W62_13 [] O62_13 [_, _, _, _, _, _, _, _, _, _, _, _, _, _] [_] rfl (by repeat' (first | exact trivial | refine And.intro ?_ ?_ | exact bS | exact bX | exact bZ | exact bI | exact bC (π := []) (hs := by first | exact less_spec _ _ | fail) | fail)) ?_
      | refine oD (id := 15) W62_15 [] O62_15 [_, _, _, _, _, _, _, _, _, _, _, _, _, _, _] [_] rfl (by repeat' (first | exact trivial | refine And.intro ?_ ?_ | exact bS | exact bX | exact bZ | exact bI | exact bC (π := []) (hs := by first | exact less_spec _ _ | fail) | fail)) ?_
      | refine oD (id := 18) W62_18 [13, 15] O62_18 [_, _, _, _, _, _, _, _, _, _, _, _, _, _, _, _] [_, _, _] rfl (by repeat' (first | exact trivial | refine And.intro ?_ ?_ | exact bS | exact bX | exact bZ | exact bI | exact bC (π := []) (hs := by first | exact less_spec _ _ | fail) | fail)) ?_
      | refine oD (id := 21) W62_21 [13, 15] O62_21 [_, _, _, _, _, _, _, _, _, _, _, _, _, _, _, _] [_, _, _] rfl (by repeat' (first | exact trivial | refine And.intro ?_ ?_ | exact bS | exact bX | exact bZ | exact bI | exact bC (π := []) (hs := by first | exact less_spec _ _ | fail) | fail)) ?_
      | fail)
    exact pX [0] (sw M (i - 1) a, i - 1, true) (PI.done (i := i) (j := i - 1) hi (by omega)) rfl
end Go.Proofs.Ytmgcoopmbohkoaa
