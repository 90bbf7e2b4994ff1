/-
  A heap: the answer, in order.
-/
import Derived.Test.YtnlelckfhlcbgaaHeM
import Derived.Test.YtnlelckfhlcbgaaIdlDt
namespace Go.Proofs.Ytnlelckfhlcbgaa
open Go Go.Idl
set_option linter.unusedSimpArgs false
set_option linter.unusedVariables false
set_option maxRecDepth 100000
set_option maxHeartbeats 4000000
attribute [local irreducible] Go.Idl.IWP Go.Idl.IOps Go.Idl.Obl Go.Idl.OpG Go.Idl.thenI Go.Idl.inBlockI Go.Idl.LoopU Go.Idl.noGotoI Go.Idl.jumpI
attribute [local go_sem] List.length_set
theorem fzE {a b : List It} {n m : Nat} (h : a = b) (k : n = m) : IV.fz true (items a) n = IV.fz true (items b) m := by rw [h, k]
theorem with_spec (l : List It) (x : It) (hL : l.length ≤ 100000) : Idl.Spec Try.prog 30 [.fz false (items l) l.length, .agg [.sc (.int .i64 x.id), .sc (.int .u64 x.pri), .sc (.int .u64 x.seq)]] []
    (Only (.fz true (items (withI l x)) (withI l x).length) []) := by
  have hw := without_spec l x.id (by omega)
  have hle : (woI x.id l).length ≤ l.length := List.length_filter_le _ _
  unfold withI
  generalize woI x.id l = W at hw hle ⊢
  refine sB Try.func30 Try.ntmps30 ?_
  repeat' (first
    | refine IOps_nil ?_
    | refine oS ?_
    | refine IOps_s rfl rfl ?_
    | refine oT ?_
    | refine IOps_s0 rfl ?_
    | refine oC (π := []) (hs := by first | exact hw | fail) (hx := ?_)
    | refine oZ ?_
    | refine oI ?_
    | refine thenI_n ?_
    | refine IWP_seq ?_
    | refine IWP_region ?_
    | refine IWP_ct rfl ?_
    | refine IWP_cf rfl ?_
    | refine IWP_skip ?_
    | refine IWP_ret ?_
    | refine IWP_block ?_
    | refine inB_n ?_
    | refine thenI_r ?_
    | refine thenI_e ?_
    | refine inB_r ?_
    | refine inB_hit ?_
    | refine inB_miss rfl ?_
    | refine IWP_exit ?_
    | refine IWP_scope ?_
    | refine IWP_label ?_
    | refine noG_n ?_
    | refine noG_r ?_
    | refine noG_e ?_
    | refine jmp_n ?_
    | refine jmp_r ?_
    | refine jmp_e ?_
    | refine jmp_g ?_
    | refine thenI_g ?_
    | refine inB_g ?_
    | refine IWP_goto ?_
    | refine Loop_n ?_
    | refine oD (id := 3) W30_3 [] O30_3 [_, _, _, _, _, _, _, _, _, _, _, _] [_] rfl (by repeat' (first | exact trivial | refine And.intro ?_ ?_ | exact bS | exact bX | exact bZ | exact bI | exact bC (π := []) (hs := by first | exact hw | fail) | fail)) ?_
    | refine oDt (id := 6) [[], [], [], [1, 2], [0, 3, 1, 2], [], [5], [4, 0, 3, 1, 2, 6, 5], [], [7, 4, 0, 3, 1, 2, 6, 5, 8], [9, 7, 4, 0, 3, 1, 2, 6, 5, 8]] [0, 4, 6, 7, 9] [[], [0], [6], [0, 4], [0, 6], [6, 0], [0, 4, 6], [0, 6, 4], [6, 0, 4], [0, 4, 6, 7], [0, 6, 4, 7], [6, 0, 4, 7], [0, 4, 6, 7, 9], [0, 6, 4, 7, 9], [6, 0, 4, 7, 9]] [(0, [], [true, false, false, false, true, false, false, true, false, true, true]), (6, [], [false, false, false, false, false, false, true, true, false, true, true]), (4, [0], [false, false, false, false, true, false, false, true, false, true, true]), (6, [0], [false, false, false, false, false, false, true, true, false, true, true]), (0, [6], [true, false, false, false, true, false, false, true, false, true, true]), (6, [0, 4], [false, false, false, false, false, false, true, true, false, true, true]), (4, [0, 6], [false, false, false, false, true, false, false, true, false, true, true]), (4, [6, 0], [false, false, false, false, true, false, false, true, false, true, true]), (7, [0, 4, 6], [false, false, false, false, false, false, false, true, false, true, true]), (7, [0, 6, 4], [false, false, false, false, false, false, false, true, false, true, true]), (7, [6, 0, 4], [false, false, false, false, false, false, false, true, false, true, true]), (9, [0, 4, 6, 7], [false, false, false, false, false, false, false, false, false, true, true]), (9, [0, 6, 4, 7], [false, false, false, false, false, false, false, false, false, true, true]), (9, [6, 0, 4, 7], [false, false, false, false, false, false, false, false, false, true, true])] [[0, 4, 6, 7, 9], [0, 6, 4, 7, 9], [6, 0, 4, 7, 9]] [(true, 0, []), (false, 1, []), (false, 2, []), (false, 3, []), (false, 5, []), (true, 6, []), (false, 8, []), (false, 1, [0]), (false, 2, [0]), (false, 3, [0]), (true, 4, [0]), (false, 5, [0]), (true, 6, [0]), (false, 8, [0]), (true, 0, [6]), (false, 1, [6]), (false, 2, [6]), (false, 3, [6]), (false, 8, [6]), (false, 5, [0, 4]), (true, 6, [0, 4]), (false, 8, [0, 4]), (false, 1, [0, 6]), (false, 2, [0, 6]), (false, 3, [0, 6]), (true, 4, [0, 6]), (false, 8, [0, 6]), (false, 1, [6, 0]), (false, 2, [6, 0]), (false, 3, [6, 0]), (true, 4, [6, 0]), (false, 8, [6, 0]), (true, 7, [0, 4, 6]), (false, 8, [0, 4, 6]), (true, 7, [0, 6, 4]), (false, 8, [0, 6, 4]), (true, 7, [6, 0, 4]), (false, 8, [6, 0, 4]), (false, 8, [0, 4, 6, 7]), (true, 9, [0, 4, 6, 7]), (false, 8, [0, 6, 4, 7]), (true, 9, [0, 6, 4, 7]), (false, 8, [6, 0, 4, 7]), (true, 9, [6, 0, 4, 7]), (false, 10, [0, 4, 6, 7, 9]), (false, 10, [0, 6, 4, 7, 9]), (false, 10, [6, 0, 4, 7, 9])] [([], [.any, _, _, _, .any, _, .any, .any, _, .any, .any], _), ([0], [_, _, _, _, .any, _, .any, .any, _, .any, .any], _), ([6], [.any, _, _, _, .any, _, _, .any, _, .any, .any], _), ([0, 4], [_, _, _, _, _, _, .any, .any, _, .any, .any], _), ([0, 6], [_, _, _, _, .any, _, _, .any, _, .any, .any], _), ([6, 0], [_, _, _, _, .any, _, _, .any, _, .any, .any], _), ([0, 4, 6], [_, _, _, _, _, _, _, .any, _, .any, .any], _), ([0, 6, 4], [_, _, _, _, _, _, _, .any, _, .any, .any], _), ([6, 0, 4], [_, _, _, _, _, _, _, .any, _, .any, .any], _), ([0, 4, 6, 7], [_, _, _, _, _, _, _, _, _, .any, .any], _), ([0, 6, 4, 7], [_, _, _, _, _, _, _, _, _, .any, .any], _), ([6, 0, 4, 7], [_, _, _, _, _, _, _, _, _, .any, .any], _), ([0, 4, 6, 7, 9], [_, _, _, _, _, _, _, _, _, _, _], _), ([0, 6, 4, 7, 9], [_, _, _, _, _, _, _, _, _, _, _], _), ([6, 0, 4, 7, 9], [_, _, _, _, _, _, _, _, _, _, _], _)] [(true, 0, [], [_, _, _, _, .any, _, .any, .any, _, .any, .any], _, _), (false, 1, [], [.any, _, _, _, .any, _, .any, .any, _, .any, .any], _, []), (false, 2, [], [.any, _, _, _, .any, _, .any, .any, _, .any, .any], _, []), (false, 3, [], [.any, _, _, _, .any, _, .any, .any, _, .any, .any], _, []), (false, 5, [], [.any, _, _, _, .any, _, .any, .any, _, .any, .any], _, []), (true, 6, [], [.any, _, _, _, .any, _, _, .any, _, .any, .any], _, _), (false, 8, [], [.any, _, _, _, .any, _, .any, .any, _, .any, .any], _, []), (false, 1, [0], [_, _, _, _, .any, _, .any, .any, _, .any, .any], _, []), (false, 2, [0], [_, _, _, _, .any, _, .any, .any, _, .any, .any], _, []), (false, 3, [0], [_, _, _, _, .any, _, .any, .any, _, .any, .any], _, []), (true, 4, [0], [_, _, _, _, _, _, .any, .any, _, .any, .any], _, _), (false, 5, [0], [_, _, _, _, .any, _, .any, .any, _, .any, .any], _, []), (true, 6, [0], [_, _, _, _, .any, _, _, .any, _, .any, .any], _, _), (false, 8, [0], [_, _, _, _, .any, _, .any, .any, _, .any, .any], _, []), (true, 0, [6], [_, _, _, _, .any, _, _, .any, _, .any, .any], _, _), (false, 1, [6], [.any, _, _, _, .any, _, _, .any, _, .any, .any], _, []), (false, 2, [6], [.any, _, _, _, .any, _, _, .any, _, .any, .any], _, []), (false, 3, [6], [.any, _, _, _, .any, _, _, .any, _, .any, .any], _, []), (false, 8, [6], [.any, _, _, _, .any, _, _, .any, _, .any, .any], _, []), (false, 5, [0, 4], [_, _, _, _, _, _, .any, .any, _, .any, .any], _, []), (true, 6, [0, 4], [_, _, _, _, _, _, _, .any, _, .any, .any], _, _), (false, 8, [0, 4], [_, _, _, _, _, _, .any, .any, _, .any, .any], _, []), (false, 1, [0, 6], [_, _, _, _, .any, _, _, .any, _, .any, .any], _, []), (false, 2, [0, 6], [_, _, _, _, .any, _, _, .any, _, .any, .any], _, []), (false, 3, [0, 6], [_, _, _, _, .any, _, _, .any, _, .any, .any], _, []), (true, 4, [0, 6], [_, _, _, _, _, _, _, .any, _, .any, .any], _, _), (false, 8, [0, 6], [_, _, _, _, .any, _, _, .any, _, .any, .any], _, []), (false, 1, [6, 0], [_, _, _, _, .any, _, _, .any, _, .any, .any], _, []), (false, 2, [6, 0], [_, _, _, _, .any, _, _, .any, _, .any, .any], _, []), (false, 3, [6, 0], [_, _, _, _, .any, _, _, .any, _, .any, .any], _, []), (true, 4, [6, 0], [_, _, _, _, _, _, _, .any, _, .any, .any], _, _), (false, 8, [6, 0], [_, _, _, _, .any, _, _, .any, _, .any, .any], _, []), (true, 7, [0, 4, 6], [_, _, _, _, _, _, _, _, _, .any, .any], _, _), (false, 8, [0, 4, 6], [_, _, _, _, _, _, _, .any, _, .any, .any], _, []), (true, 7, [0, 6, 4], [_, _, _, _, _, _, _, _, _, .any, .any], _, _), (false, 8, [0, 6, 4], [_, _, _, _, _, _, _, .any, _, .any, .any], _, []), (true, 7, [6, 0, 4], [_, _, _, _, _, _, _, _, _, .any, .any], _, _), (false, 8, [6, 0, 4], [_, _, _, _, _, _, _, .any, _, .any, .any], _, []), (false, 8, [0, 4, 6, 7], [_, _, _, _, _, _, _, _, _, .any, .any], _, []), (true, 9, [0, 4, 6, 7], [_, _, _, _, _, _, _, _, _, _, _], _, _), (false, 8, [0, 6, 4, 7], [_, _, _, _, _, _, _, _, _, .any, .any], _, []), (true, 9, [0, 6, 4, 7], [_, _, _, _, _, _, _, _, _, _, _], _, _), (false, 8, [6, 0, 4, 7], [_, _, _, _, _, _, _, _, _, .any, .any], _, []), (true, 9, [6, 0, 4, 7], [_, _, _, _, _, _, _, _, _, _, _], _, _), (false, 10, [0, 4, 6, 7, 9], [_, _, _, _, _, _, _, _, _, _, _], _, []), (false, 10, [0, 6, 4, 7, 9], [_, _, _, _, _, _, _, _, _, _, _], _, []), (false, 10, [6, 0, 4, 7, 9], [_, _, _, _, _, _, _, _, _, _, _], _, [])] [(0, [], [true, false, false, false, true, false, false, true, false, true, true], [_, _, _, _, .any, _, .any, .any, _, .any, .any], _, [.any, _, _, _, .any, _, .any, .any, _, .any, .any], _), (6, [], [false, false, false, false, false, false, true, true, false, true, true], [.any, _, _, _, .any, _, _, .any, _, .any, .any], _, [.any, _, _, _, .any, _, .any, .any, _, .any, .any], _), (4, [0], [false, false, false, false, true, false, false, true, false, true, true], [_, _, _, _, _, _, .any, .any, _, .any, .any], _, [_, _, _, _, .any, _, .any, .any, _, .any, .any], _), (6, [0], [false, false, false, false, false, false, true, true, false, true, true], [_, _, _, _, .any, _, _, .any, _, .any, .any], _, [_, _, _, _, .any, _, .any, .any, _, .any, .any], _), (0, [6], [true, false, false, false, true, false, false, true, false, true, true], [_, _, _, _, .any, _, _, .any, _, .any, .any], _, [.any, _, _, _, .any, _, _, .any, _, .any, .any], _), (6, [0, 4], [false, false, false, false, false, false, true, true, false, true, true], [_, _, _, _, _, _, _, .any, _, .any, .any], _, [_, _, _, _, _, _, .any, .any, _, .any, .any], _), (4, [0, 6], [false, false, false, false, true, false, false, true, false, true, true], [_, _, _, _, _, _, _, .any, _, .any, .any], _, [_, _, _, _, .any, _, _, .any, _, .any, .any], _), (4, [6, 0], [false, false, false, false, true, false, false, true, false, true, true], [_, _, _, _, _, _, _, .any, _, .any, .any], _, [_, _, _, _, .any, _, _, .any, _, .any, .any], _), (7, [0, 4, 6], [false, false, false, false, false, false, false, true, false, true, true], [_, _, _, _, _, _, _, _, _, .any, .any], _, [_, _, _, _, _, _, _, .any, _, .any, .any], _), (7, [0, 6, 4], [false, false, false, false, false, false, false, true, false, true, true], [_, _, _, _, _, _, _, _, _, .any, .any], _, [_, _, _, _, _, _, _, .any, _, .any, .any], _), (7, [6, 0, 4], [false, false, false, false, false, false, false, true, false, true, true], [_, _, _, _, _, _, _, _, _, .any, .any], _, [_, _, _, _, _, _, _, .any, _, .any, .any], _), (9, [0, 4, 6, 7], [false, false, false, false, false, false, false, false, false, true, true], [_, _, _, _, _, _, _, _, _, _, _], _, [_, _, _, _, _, _, _, _, _, .any, .any], _), (9, [0, 6, 4, 7], [false, false, false, false, false, false, false, false, false, true, true], [_, _, _, _, _, _, _, _, _, _, _], _, [_, _, _, _, _, _, _, _, _, .any, .any], _), (9, [6, 0, 4, 7], [false, false, false, false, false, false, false, false, false, true, true], [_, _, _, _, _, _, _, _, _, _, _], _, [_, _, _, _, _, _, _, _, _, .any, .any], _)] rfl rfl rfl (by repeat' (first | exact trivial | rfl | refine And.intro ?_ ?_)) (by repeat' (first | exact trivial | rfl | refine And.intro ?_ ?_)) (by repeat' (first | exact trivial | refine And.intro ?_ ?_ | exact bS | exact bX | exact bZ | exact bI | exact bC (π := []) (hs := by first | exact hw | fail) | fail)) ?_
    | refine eF_c ?_ ?_
    | exact eF_n
    | refine eF_e ?_
    | fail)
  refine IWP_loop (fun k : Nat => ⟨41, [(0, .fz false (items l) l.length), (3, .ptr 0 0), (5, .fz true (items W) W.length), (6, .i64 k)], [.box [.sc (.int .i64 x.id), .sc (.int .u64 x.pri), .sc (.int .u64 x.seq)]]⟩) (fun k => k ≤ W.length ∧ ∀ j, j < k → lessI (gd W j) x = true) (fun k => W.length - k) 0 (lP [0]) ⟨Nat.zero_le _, fun j h => by omega⟩ ?_
  rintro k ⟨hk, hj⟩
  by_cases h1 : k < W.length
  · have hl := rless_spec (gd W k) x
    cases h2 : lessI (gd W k) x
    · rw [h2] at hl
      obtain ⟨e1, e2⟩ := while_at (p := fun y => lessI y x) hk hj (fun _ => h2)
      unfold insI
      rw [e1, e2]
      repeat' (first
        | refine IOps_nil ?_
        | refine oS ?_
        | refine IOps_s rfl rfl ?_
        | refine oT ?_
        | refine IOps_s0 rfl ?_
        | refine oC (π := []) (hs := by first | exact hl | fail) (hx := ?_)
        | refine oZ ?_
        | refine oI ?_
        | refine thenI_n ?_
        | refine IWP_seq ?_
        | refine IWP_region ?_
        | refine IWP_ct rfl ?_
        | refine IWP_cf rfl ?_
        | refine IWP_skip ?_
        | refine IWP_block ?_
        | refine inB_n ?_
        | refine thenI_r ?_
        | refine thenI_e ?_
        | refine inB_r ?_
        | refine inB_hit ?_
        | refine inB_miss rfl ?_
        | refine IWP_exit ?_
        | refine IWP_scope ?_
        | refine IWP_label ?_
        | refine noG_n ?_
        | refine noG_r ?_
        | refine noG_e ?_
        | refine jmp_n ?_
        | refine jmp_r ?_
        | refine jmp_e ?_
        | refine jmp_g ?_
        | refine thenI_g ?_
        | refine inB_g ?_
        | refine IWP_goto ?_
        | refine Loop_n ?_
        | refine oD (id := 3) W30_3 [] O30_3 [_, _, _, _, _, _, _, _, _, _, _, _] [_] rfl (by repeat' (first | exact trivial | refine And.intro ?_ ?_ | exact bS | exact bX | exact bZ | exact bI | exact bC (π := []) (hs := by first | exact hl | fail) | fail)) ?_
        | refine oDt (id := 6) [[], [], [], [1, 2], [0, 3, 1, 2], [], [5], [4, 0, 3, 1, 2, 6, 5], [], [7, 4, 0, 3, 1, 2, 6, 5, 8], [9, 7, 4, 0, 3, 1, 2, 6, 5, 8]] [0, 4, 6, 7, 9] [[], [0], [6], [0, 4], [0, 6], [6, 0], [0, 4, 6], [0, 6, 4], [6, 0, 4], [0, 4, 6, 7], [0, 6, 4, 7], [6, 0, 4, 7], [0, 4, 6, 7, 9], [0, 6, 4, 7, 9], [6, 0, 4, 7, 9]] [(0, [], [true, false, false, false, true, false, false, true, false, true, true]), (6, [], [false, false, false, false, false, false, true, true, false, true, true]), (4, [0], [false, false, false, false, true, false, false, true, false, true, true]), (6, [0], [false, false, false, false, false, false, true, true, false, true, true]), (0, [6], [true, false, false, false, true, false, false, true, false, true, true]), (6, [0, 4], [false, false, false, false, false, false, true, true, false, true, true]), (4, [0, 6], [false, false, false, false, true, false, false, true, false, true, true]), (4, [6, 0], [false, false, false, false, true, false, false, true, false, true, true]), (7, [0, 4, 6], [false, false, false, false, false, false, false, true, false, true, true]), (7, [0, 6, 4], [false, false, false, false, false, false, false, true, false, true, true]), (7, [6, 0, 4], [false, false, false, false, false, false, false, true, false, true, true]), (9, [0, 4, 6, 7], [false, false, false, false, false, false, false, false, false, true, true]), (9, [0, 6, 4, 7], [false, false, false, false, false, false, false, false, false, true, true]), (9, [6, 0, 4, 7], [false, false, false, false, false, false, false, false, false, true, true])] [[0, 4, 6, 7, 9], [0, 6, 4, 7, 9], [6, 0, 4, 7, 9]] [(true, 0, []), (false, 1, []), (false, 2, []), (false, 3, []), (false, 5, []), (true, 6, []), (false, 8, []), (false, 1, [0]), (false, 2, [0]), (false, 3, [0]), (true, 4, [0]), (false, 5, [0]), (true, 6, [0]), (false, 8, [0]), (true, 0, [6]), (false, 1, [6]), (false, 2, [6]), (false, 3, [6]), (false, 8, [6]), (false, 5, [0, 4]), (true, 6, [0, 4]), (false, 8, [0, 4]), (false, 1, [0, 6]), (false, 2, [0, 6]), (false, 3, [0, 6]), (true, 4, [0, 6]), (false, 8, [0, 6]), (false, 1, [6, 0]), (false, 2, [6, 0]), (false, 3, [6, 0]), (true, 4, [6, 0]), (false, 8, [6, 0]), (true, 7, [0, 4, 6]), (false, 8, [0, 4, 6]), (true, 7, [0, 6, 4]), (false, 8, [0, 6, 4]), (true, 7, [6, 0, 4]), (false, 8, [6, 0, 4]), (false, 8, [0, 4, 6, 7]), (true, 9, [0, 4, 6, 7]), (false, 8, [0, 6, 4, 7]), (true, 9, [0, 6, 4, 7]), (false, 8, [6, 0, 4, 7]), (true, 9, [6, 0, 4, 7]), (false, 10, [0, 4, 6, 7, 9]), (false, 10, [0, 6, 4, 7, 9]), (false, 10, [6, 0, 4, 7, 9])] [([], [.any, _, _, _, .any, _, .any, .any, _, .any, .any], _), ([0], [_, _, _, _, .any, _, .any, .any, _, .any, .any], _), ([6], [.any, _, _, _, .any, _, _, .any, _, .any, .any], _), ([0, 4], [_, _, _, _, _, _, .any, .any, _, .any, .any], _), ([0, 6], [_, _, _, _, .any, _, _, .any, _, .any, .any], _), ([6, 0], [_, _, _, _, .any, _, _, .any, _, .any, .any], _), ([0, 4, 6], [_, _, _, _, _, _, _, .any, _, .any, .any], _), ([0, 6, 4], [_, _, _, _, _, _, _, .any, _, .any, .any], _), ([6, 0, 4], [_, _, _, _, _, _, _, .any, _, .any, .any], _), ([0, 4, 6, 7], [_, _, _, _, _, _, _, _, _, .any, .any], _), ([0, 6, 4, 7], [_, _, _, _, _, _, _, _, _, .any, .any], _), ([6, 0, 4, 7], [_, _, _, _, _, _, _, _, _, .any, .any], _), ([0, 4, 6, 7, 9], [_, _, _, _, _, _, _, _, _, _, _], _), ([0, 6, 4, 7, 9], [_, _, _, _, _, _, _, _, _, _, _], _), ([6, 0, 4, 7, 9], [_, _, _, _, _, _, _, _, _, _, _], _)] [(true, 0, [], [_, _, _, _, .any, _, .any, .any, _, .any, .any], _, _), (false, 1, [], [.any, _, _, _, .any, _, .any, .any, _, .any, .any], _, []), (false, 2, [], [.any, _, _, _, .any, _, .any, .any, _, .any, .any], _, []), (false, 3, [], [.any, _, _, _, .any, _, .any, .any, _, .any, .any], _, []), (false, 5, [], [.any, _, _, _, .any, _, .any, .any, _, .any, .any], _, []), (true, 6, [], [.any, _, _, _, .any, _, _, .any, _, .any, .any], _, _), (false, 8, [], [.any, _, _, _, .any, _, .any, .any, _, .any, .any], _, []), (false, 1, [0], [_, _, _, _, .any, _, .any, .any, _, .any, .any], _, []), (false, 2, [0], [_, _, _, _, .any, _, .any, .any, _, .any, .any], _, []), (false, 3, [0], [_, _, _, _, .any, _, .any, .any, _, .any, .any], _, []), (true, 4, [0], [_, _, _, _, _, _, .any, .any, _, .any, .any], _, _), (false, 5, [0], [_, _, _, _, .any, _, .any, .any, _, .any, .any], _, []), (true, 6, [0], [_, _, _, _, .any, _, _, .any, _, .any, .any], _, _), (false, 8, [0], [_, _, _, _, .any, _, .any, .any, _, .any, .any], _, []), (true, 0, [6], [_, _, _, _, .any, _, _, .any, _, .any, .any], _, _), (false, 1, [6], [.any, _, _, _, .any, _, _, .any, _, .any, .any], _, []), (false, 2, [6], [.any, _, _, _, .any, _, _, .any, _, .any, .any], _, []), (false, 3, [6], [.any, _, _, _, .any, _, _, .any, _, .any, .any], _, []), (false, 8, [6], [.any, _, _, _, .any, _, _, .any, _, .any, .any], _, []), (false, 5, [0, 4], [_, _, _, _, _, _, .any, .any, _, .any, .any], _, []), (true, 6, [0, 4], [_, _, _, _, _, _, _, .any, _, .any, .any], _, _), (false, 8, [0, 4], [_, _, _, _, _, _, .any, .any, _, .any, .any], _, []), (false, 1, [0, 6], [_, _, _, _, .any, _, _, .any, _, .any, .any], _, []), (false, 2, [0, 6], [_, _, _, _, .any, _, _, .any, _, .any, .any], _, []), (false, 3, [0, 6], [_, _, _, _, .any, _, _, .any, _, .any, .any], _, []), (true, 4, [0, 6], [_, _, _, _, _, _, _, .any, _, .any, .any], _, _), (false, 8, [0, 6], [_, _, _, _, .any, _, _, .any, _, .any, .any], _, []), (false, 1, [6, 0], [_, _, _, _, .any, _, _, .any, _, .any, .any], _, []), (false, 2, [6, 0], [_, _, _, _, .any, _, _, .any, _, .any, .any], _, []), (false, 3, [6, 0], [_, _, _, _, .any, _, _, .any, _, .any, .any], _, []), (true, 4, [6, 0], [_, _, _, _, _, _, _, .any, _, .any, .any], _, _), (false, 8, [6, 0], [_, _, _, _, .any, _, _, .any, _, .any, .any], _, []), (true, 7, [0, 4, 6], [_, _, _, _, _, _, _, _, _, .any, .any], _, _), (false, 8, [0, 4, 6], [_, _, _, _, _, _, _, .any, _, .any, .any], _, []), (true, 7, [0, 6, 4], [_, _, _, _, _, _, _, _, _, .any, .any], _, _), (false, 8, [0, 6, 4], [_, _, _, _, _, _, _, .any, _, .any, .any], _, []), (true, 7, [6, 0, 4], [_, _, _, _, _, _, _, _, _, .any, .any], _, _), (false, 8, [6, 0, 4], [_, _, _, _, _, _, _, .any, _, .any, .any], _, []), (false, 8, [0, 4, 6, 7], [_, _, _, _, _, _, _, _, _, .any, .any], _, []), (true, 9, [0, 4, 6, 7], [_, _, _, _, _, _, _, _, _, _, _], _, _), (false, 8, [0, 6, 4, 7], [_, _, _, _, _, _, _, _, _, .any, .any], _, []), (true, 9, [0, 6, 4, 7], [_, _, _, _, _, _, _, _, _, _, _], _, _), (false, 8, [6, 0, 4, 7], [_, _, _, _, _, _, _, _, _, .any, .any], _, []), (true, 9, [6, 0, 4, 7], [_, _, _, _, _, _, _, _, _, _, _], _, _), (false, 10, [0, 4, 6, 7, 9], [_, _, _, _, _, _, _, _, _, _, _], _, []), (false, 10, [0, 6, 4, 7, 9], [_, _, _, _, _, _, _, _, _, _, _], _, []), (false, 10, [6, 0, 4, 7, 9], [_, _, _, _, _, _, _, _, _, _, _], _, [])] [(0, [], [true, false, false, false, true, false, false, true, false, true, true], [_, _, _, _, .any, _, .any, .any, _, .any, .any], _, [.any, _, _, _, .any, _, .any, .any, _, .any, .any], _), (6, [], [false, false, false, false, false, false, true, true, false, true, true], [.any, _, _, _, .any, _, _, .any, _, .any, .any], _, [.any, _, _, _, .any, _, .any, .any, _, .any, .any], _), (4, [0], [false, false, false, false, true, false, false, true, false, true, true], [_, _, _, _, _, _, .any, .any, _, .any, .any], _, [_, _, _, _, .any, _, .any, .any, _, .any, .any], _), (6, [0], [false, false, false, false, false, false, true, true, false, true, true], [_, _, _, _, .any, _, _, .any, _, .any, .any], _, [_, _, _, _, .any, _, .any, .any, _, .any, .any], _), (0, [6], [true, false, false, false, true, false, false, true, false, true, true], [_, _, _, _, .any, _, _, .any, _, .any, .any], _, [.any, _, _, _, .any, _, _, .any, _, .any, .any], _), (6, [0, 4], [false, false, false, false, false, false, true, true, false, true, true], [_, _, _, _, _, _, _, .any, _, .any, .any], _, [_, _, _, _, _, _, .any, .any, _, .any, .any], _), (4, [0, 6], [false, false, false, false, true, false, false, true, false, true, true], [_, _, _, _, _, _, _, .any, _, .any, .any], _, [_, _, _, _, .any, _, _, .any, _, .any, .any], _), (4, [6, 0], [false, false, false, false, true, false, false, true, false, true, true], [_, _, _, _, _, _, _, .any, _, .any, .any], _, [_, _, _, _, .any, _, _, .any, _, .any, .any], _), (7, [0, 4, 6], [false, false, false, false, false, false, false, true, false, true, true], [_, _, _, _, _, _, _, _, _, .any, .any], _, [_, _, _, _, _, _, _, .any, _, .any, .any], _), (7, [0, 6, 4], [false, false, false, false, false, false, false, true, false, true, true], [_, _, _, _, _, _, _, _, _, .any, .any], _, [_, _, _, _, _, _, _, .any, _, .any, .any], _), (7, [6, 0, 4], [false, false, false, false, false, false, false, true, false, true, true], [_, _, _, _, _, _, _, _, _, .any, .any], _, [_, _, _, _, _, _, _, .any, _, .any, .any], _), (9, [0, 4, 6, 7], [false, false, false, false, false, false, false, false, false, true, true], [_, _, _, _, _, _, _, _, _, _, _], _, [_, _, _, _, _, _, _, _, _, .any, .any], _), (9, [0, 6, 4, 7], [false, false, false, false, false, false, false, false, false, true, true], [_, _, _, _, _, _, _, _, _, _, _], _, [_, _, _, _, _, _, _, _, _, .any, .any], _), (9, [6, 0, 4, 7], [false, false, false, false, false, false, false, false, false, true, true], [_, _, _, _, _, _, _, _, _, _, _], _, [_, _, _, _, _, _, _, _, _, .any, .any], _)] rfl rfl rfl (by repeat' (first | exact trivial | rfl | refine And.intro ?_ ?_)) (by repeat' (first | exact trivial | rfl | refine And.intro ?_ ?_)) (by repeat' (first | exact trivial | refine And.intro ?_ ?_ | exact bS | exact bX | exact bZ | exact bI | exact bC (π := []) (hs := by first | exact hl | fail) | fail)) ?_
        | refine eF_c ?_ ?_
        | exact eF_n
        | refine eF_e ?_
        | fail)
      · refine wF 4 ?_
        repeat' (first
          | refine IOps_nil ?_
          | refine oS ?_
          | refine IOps_s rfl rfl ?_
          | refine oT ?_
          | refine IOps_s0 rfl ?_
          | refine oZ ?_
          | refine oI ?_
          | refine thenI_n ?_
          | refine IWP_seq ?_
          | refine IWP_region ?_
          | refine IWP_ct rfl ?_
          | refine IWP_cf rfl ?_
          | refine IWP_skip ?_
          | refine IWP_ret ?_
          | refine IWP_block ?_
          | refine inB_n ?_
          | refine thenI_r ?_
          | refine thenI_e ?_
          | refine inB_r ?_
          | refine inB_hit ?_
          | refine inB_miss rfl ?_
          | refine IWP_exit ?_
          | refine IWP_scope ?_
          | refine IWP_label ?_
          | refine noG_n ?_
          | refine noG_r ?_
          | refine noG_e ?_
          | refine jmp_n ?_
          | refine jmp_r ?_
          | refine jmp_e ?_
          | refine jmp_g ?_
          | refine thenI_g ?_
          | refine inB_g ?_
          | refine IWP_goto ?_
          | refine Loop_n ?_
          | refine oD (id := 3) W30_3 [] O30_3 [_, _, _, _, _, _, _, _, _, _, _, _] [_] rfl (by repeat' (first | exact trivial | refine And.intro ?_ ?_ | exact bS | exact bX | exact bZ | exact bI | fail)) ?_
          | refine oDt (id := 6) [[], [], [], [1, 2], [0, 3, 1, 2], [], [5], [4, 0, 3, 1, 2, 6, 5], [], [7, 4, 0, 3, 1, 2, 6, 5, 8], [9, 7, 4, 0, 3, 1, 2, 6, 5, 8]] [0, 4, 6, 7, 9] [[], [0], [6], [0, 4], [0, 6], [6, 0], [0, 4, 6], [0, 6, 4], [6, 0, 4], [0, 4, 6, 7], [0, 6, 4, 7], [6, 0, 4, 7], [0, 4, 6, 7, 9], [0, 6, 4, 7, 9], [6, 0, 4, 7, 9]] [(0, [], [true, false, false, false, true, false, false, true, false, true, true]), (6, [], [false, false, false, false, false, false, true, true, false, true, true]), (4, [0], [false, false, false, false, true, false, false, true, false, true, true]), (6, [0], [false, false, false, false, false, false, true, true, false, true, true]), (0, [6], [true, false, false, false, true, false, false, true, false, true, true]), (6, [0, 4], [false, false, false, false, false, false, true, true, false, true, true]), (4, [0, 6], [false, false, false, false, true, false, false, true, false, true, true]), (4, [6, 0], [false, false, false, false, true, false, false, true, false, true, true]), (7, [0, 4, 6], [false, false, false, false, false, false, false, true, false, true, true]), (7, [0, 6, 4], [false, false, false, false, false, false, false, true, false, true, true]), (7, [6, 0, 4], [false, false, false, false, false, false, false, true, false, true, true]), (9, [0, 4, 6, 7], [false, false, false, false, false, false, false, false, false, true, true]), (9, [0, 6, 4, 7], [false, false, false, false, false, false, false, false, false, true, true]), (9, [6, 0, 4, 7], [false, false, false, false, false, false, false, false, false, true, true])] [[0, 4, 6, 7, 9], [0, 6, 4, 7, 9], [6, 0, 4, 7, 9]] [(true, 0, []), (false, 1, []), (false, 2, []), (false, 3, []), (false, 5, []), (true, 6, []), (false, 8, []), (false, 1, [0]), (false, 2, [0]), (false, 3, [0]), (true, 4, [0]), (false, 5, [0]), (true, 6, [0]), (false, 8, [0]), (true, 0, [6]), (false, 1, [6]), (false, 2, [6]), (false, 3, [6]), (false, 8, [6]), (false, 5, [0, 4]), (true, 6, [0, 4]), (false, 8, [0, 4]), (false, 1, [0, 6]), (false, 2, [0, 6]), (false, 3, [0, 6]), (true, 4, [0, 6]), (false, 8, [0, 6]), (false, 1, [6, 0]), (false, 2, [6, 0]), (false, 3, [6, 0]), (true, 4, [6, 0]), (false, 8, [6, 0]), (true, 7, [0, 4, 6]), (false, 8, [0, 4, 6]), (true, 7, [0, 6, 4]), (false, 8, [0, 6, 4]), (true, 7, [6, 0, 4]), (false, 8, [6, 0, 4]), (false, 8, [0, 4, 6, 7]), (true, 9, [0, 4, 6, 7]), (false, 8, [0, 6, 4, 7]), (true, 9, [0, 6, 4, 7]), (false, 8, [6, 0, 4, 7]), (true, 9, [6, 0, 4, 7]), (false, 10, [0, 4, 6, 7, 9]), (false, 10, [0, 6, 4, 7, 9]), (false, 10, [6, 0, 4, 7, 9])] [([], [.any, _, _, _, .any, _, .any, .any, _, .any, .any], _), ([0], [_, _, _, _, .any, _, .any, .any, _, .any, .any], _), ([6], [.any, _, _, _, .any, _, _, .any, _, .any, .any], _), ([0, 4], [_, _, _, _, _, _, .any, .any, _, .any, .any], _), ([0, 6], [_, _, _, _, .any, _, _, .any, _, .any, .any], _), ([6, 0], [_, _, _, _, .any, _, _, .any, _, .any, .any], _), ([0, 4, 6], [_, _, _, _, _, _, _, .any, _, .any, .any], _), ([0, 6, 4], [_, _, _, _, _, _, _, .any, _, .any, .any], _), ([6, 0, 4], [_, _, _, _, _, _, _, .any, _, .any, .any], _), ([0, 4, 6, 7], [_, _, _, _, _, _, _, _, _, .any, .any], _), ([0, 6, 4, 7], [_, _, _, _, _, _, _, _, _, .any, .any], _), ([6, 0, 4, 7], [_, _, _, _, _, _, _, _, _, .any, .any], _), ([0, 4, 6, 7, 9], [_, _, _, _, _, _, _, _, _, _, _], _), ([0, 6, 4, 7, 9], [_, _, _, _, _, _, _, _, _, _, _], _), ([6, 0, 4, 7, 9], [_, _, _, _, _, _, _, _, _, _, _], _)] [(true, 0, [], [_, _, _, _, .any, _, .any, .any, _, .any, .any], _, _), (false, 1, [], [.any, _, _, _, .any, _, .any, .any, _, .any, .any], _, []), (false, 2, [], [.any, _, _, _, .any, _, .any, .any, _, .any, .any], _, []), (false, 3, [], [.any, _, _, _, .any, _, .any, .any, _, .any, .any], _, []), (false, 5, [], [.any, _, _, _, .any, _, .any, .any, _, .any, .any], _, []), (true, 6, [], [.any, _, _, _, .any, _, _, .any, _, .any, .any], _, _), (false, 8, [], [.any, _, _, _, .any, _, .any, .any, _, .any, .any], _, []), (false, 1, [0], [_, _, _, _, .any, _, .any, .any, _, .any, .any], _, []), (false, 2, [0], [_, _, _, _, .any, _, .any, .any, _, .any, .any], _, []), (false, 3, [0], [_, _, _, _, .any, _, .any, .any, _, .any, .any], _, []), (true, 4, [0], [_, _, _, _, _, _, .any, .any, _, .any, .any], _, _), (false, 5, [0], [_, _, _, _, .any, _, .any, .any, _, .any, .any], _, []), (true, 6, [0], [_, _, _, _, .any, _, _, .any, _, .any, .any], _, _), (false, 8, [0], [_, _, _, _, .any, _, .any, .any, _, .any, .any], _, []), (true, 0, [6], [_, _, _, _, .any, _, _, .any, _, .any, .any], _, _), (false, 1, [6], [.any, _, _, _, .any, _, _, .any, _, .any, .any], _, []), (false, 2, [6], [.any, _, _, _, .any, _, _, .any, _, .any, .any], _, []), (false, 3, [6], [.any, _, _, _, .any, _, _, .any, _, .any, .any], _, []), (false, 8, [6], [.any, _, _, _, .any, _, _, .any, _, .any, .any], _, []), (false, 5, [0, 4], [_, _, _, _, _, _, .any, .any, _, .any, .any], _, []), (true, 6, [0, 4], [_, _, _, _, _, _, _, .any, _, .any, .any], _, _), (false, 8, [0, 4], [_, _, _, _, _, _, .any, .any, _, .any, .any], _, []), (false, 1, [0, 6], [_, _, _, _, .any, _, _, .any, _, .any, .any], _, []), (false, 2, [0, 6], [_, _, _, _, .any, _, _, .any, _, .any, .any], _, []), (false, 3, [0, 6], [_, _, _, _, .any, _, _, .any, _, .any, .any], _, []), (true, 4, [0, 6], [_, _, _, _, _, _, _, .any, _, .any, .any], _, _), (false, 8, [0, 6], [_, _, _, _, .any, _, _, .any, _, .any, .any], _, []), (false, 1, [6, 0], [_, _, _, _, .any, _, _, .any, _, .any, .any], _, []), (false, 2, [6, 0], [_, _, _, _, .any, _, _, .any, _, .any, .any], _, []), (false, 3, [6, 0], [_, _, _, _, .any, _, _, .any, _, .any, .any], _, []), (true, 4, [6, 0], [_, _, _, _, _, _, _, .any, _, .any, .any], _, _), (false, 8, [6, 0], [_, _, _, _, .any, _, _, .any, _, .any, .any], _, []), (true, 7, [0, 4, 6], [_, _, _, _, _, _, _, _, _, .any, .any], _, _), (false, 8, [0, 4, 6], [_, _, _, _, _, _, _, .any, _, .any, .any], _, []), (true, 7, [0, 6, 4], [_, _, _, _, _, _, _, _, _, .any, .any], _, _), (false, 8, [0, 6, 4], [_, _, _, _, _, _, _, .any, _, .any, .any], _, []), (true, 7, [6, 0, 4], [_, _, _, _, _, _, _, _, _, .any, .any], _, _), (false, 8, [6, 0, 4], [_, _, _, _, _, _, _, .any, _, .any, .any], _, []), (false, 8, [0, 4, 6, 7], [_, _, _, _, _, _, _, _, _, .any, .any], _, []), (true, 9, [0, 4, 6, 7], [_, _, _, _, _, _, _, _, _, _, _], _, _), (false, 8, [0, 6, 4, 7], [_, _, _, _, _, _, _, _, _, .any, .any], _, []), (true, 9, [0, 6, 4, 7], [_, _, _, _, _, _, _, _, _, _, _], _, _), (false, 8, [6, 0, 4, 7], [_, _, _, _, _, _, _, _, _, .any, .any], _, []), (true, 9, [6, 0, 4, 7], [_, _, _, _, _, _, _, _, _, _, _], _, _), (false, 10, [0, 4, 6, 7, 9], [_, _, _, _, _, _, _, _, _, _, _], _, []), (false, 10, [0, 6, 4, 7, 9], [_, _, _, _, _, _, _, _, _, _, _], _, []), (false, 10, [6, 0, 4, 7, 9], [_, _, _, _, _, _, _, _, _, _, _], _, [])] [(0, [], [true, false, false, false, true, false, false, true, false, true, true], [_, _, _, _, .any, _, .any, .any, _, .any, .any], _, [.any, _, _, _, .any, _, .any, .any, _, .any, .any], _), (6, [], [false, false, false, false, false, false, true, true, false, true, true], [.any, _, _, _, .any, _, _, .any, _, .any, .any], _, [.any, _, _, _, .any, _, .any, .any, _, .any, .any], _), (4, [0], [false, false, false, false, true, false, false, true, false, true, true], [_, _, _, _, _, _, .any, .any, _, .any, .any], _, [_, _, _, _, .any, _, .any, .any, _, .any, .any], _), (6, [0], [false, false, false, false, false, false, true, true, false, true, true], [_, _, _, _, .any, _, _, .any, _, .any, .any], _, [_, _, _, _, .any, _, .any, .any, _, .any, .any], _), (0, [6], [true, false, false, false, true, false, false, true, false, true, true], [_, _, _, _, .any, _, _, .any, _, .any, .any], _, [.any, _, _, _, .any, _, _, .any, _, .any, .any], _), (6, [0, 4], [false, false, false, false, false, false, true, true, false, true, true], [_, _, _, _, _, _, _, .any, _, .any, .any], _, [_, _, _, _, _, _, .any, .any, _, .any, .any], _), (4, [0, 6], [false, false, false, false, true, false, false, true, false, true, true], [_, _, _, _, _, _, _, .any, _, .any, .any], _, [_, _, _, _, .any, _, _, .any, _, .any, .any], _), (4, [6, 0], [false, false, false, false, true, false, false, true, false, true, true], [_, _, _, _, _, _, _, .any, _, .any, .any], _, [_, _, _, _, .any, _, _, .any, _, .any, .any], _), (7, [0, 4, 6], [false, false, false, false, false, false, false, true, false, true, true], [_, _, _, _, _, _, _, _, _, .any, .any], _, [_, _, _, _, _, _, _, .any, _, .any, .any], _), (7, [0, 6, 4], [false, false, false, false, false, false, false, true, false, true, true], [_, _, _, _, _, _, _, _, _, .any, .any], _, [_, _, _, _, _, _, _, .any, _, .any, .any], _), (7, [6, 0, 4], [false, false, false, false, false, false, false, true, false, true, true], [_, _, _, _, _, _, _, _, _, .any, .any], _, [_, _, _, _, _, _, _, .any, _, .any, .any], _), (9, [0, 4, 6, 7], [false, false, false, false, false, false, false, false, false, true, true], [_, _, _, _, _, _, _, _, _, _, _], _, [_, _, _, _, _, _, _, _, _, .any, .any], _), (9, [0, 6, 4, 7], [false, false, false, false, false, false, false, false, false, true, true], [_, _, _, _, _, _, _, _, _, _, _], _, [_, _, _, _, _, _, _, _, _, .any, .any], _), (9, [6, 0, 4, 7], [false, false, false, false, false, false, false, false, false, true, true], [_, _, _, _, _, _, _, _, _, _, _], _, [_, _, _, _, _, _, _, _, _, .any, .any], _)] rfl rfl rfl (by repeat' (first | exact trivial | rfl | refine And.intro ?_ ?_)) (by repeat' (first | exact trivial | rfl | refine And.intro ?_ ?_)) (by repeat' (first | exact trivial | refine And.intro ?_ ?_ | exact bS | exact bX | exact bZ | exact bI | fail)) ?_
          | refine eF_c ?_ ?_
          | exact eF_n
          | refine eF_e ?_
          | fail)
        refine pE [] ?_
        exact fzE (by simp) (by first | (simp; omega) | simp)
      · refine wF 4 ?_
        repeat' (first
          | refine IOps_nil ?_
          | refine oS ?_
          | refine IOps_s rfl rfl ?_
          | refine oT ?_
          | refine IOps_s0 rfl ?_
          | refine oZ ?_
          | refine oI ?_
          | refine thenI_n ?_
          | refine IWP_seq ?_
          | refine IWP_region ?_
          | refine IWP_ct rfl ?_
          | refine IWP_cf rfl ?_
          | refine IWP_skip ?_
          | refine IWP_ret ?_
          | refine IWP_block ?_
          | refine inB_n ?_
          | refine thenI_r ?_
          | refine thenI_e ?_
          | refine inB_r ?_
          | refine inB_hit ?_
          | refine inB_miss rfl ?_
          | refine IWP_exit ?_
          | refine IWP_scope ?_
          | refine IWP_label ?_
          | refine noG_n ?_
          | refine noG_r ?_
          | refine noG_e ?_
          | refine jmp_n ?_
          | refine jmp_r ?_
          | refine jmp_e ?_
          | refine jmp_g ?_
          | refine thenI_g ?_
          | refine inB_g ?_
          | refine IWP_goto ?_
          | refine Loop_n ?_
          | refine oD (id := 3) W30_3 [] O30_3 [_, _, _, _, _, _, _, _, _, _, _, _] [_] rfl (by repeat' (first | exact trivial | refine And.intro ?_ ?_ | exact bS | exact bX | exact bZ | exact bI | fail)) ?_
          | refine oDt (id := 6) [[], [], [], [1, 2], [0, 3, 1, 2], [], [5], [4, 0, 3, 1, 2, 6, 5], [], [7, 4, 0, 3, 1, 2, 6, 5, 8], [9, 7, 4, 0, 3, 1, 2, 6, 5, 8]] [0, 4, 6, 7, 9] [[], [0], [6], [0, 4], [0, 6], [6, 0], [0, 4, 6], [0, 6, 4], [6, 0, 4], [0, 4, 6, 7], [0, 6, 4, 7], [6, 0, 4, 7], [0, 4, 6, 7, 9], [0, 6, 4, 7, 9], [6, 0, 4, 7, 9]] [(0, [], [true, false, false, false, true, false, false, true, false, true, true]), (6, [], [false, false, false, false, false, false, true, true, false, true, true]), (4, [0], [false, false, false, false, true, false, false, true, false, true, true]), (6, [0], [false, false, false, false, false, false, true, true, false, true, true]), (0, [6], [true, false, false, false, true, false, false, true, false, true, true]), (6, [0, 4], [false, false, false, false, false, false, true, true, false, true, true]), (4, [0, 6], [false, false, false, false, true, false, false, true, false, true, true]), (4, [6, 0], [false, false, false, false, true, false, false, true, false, true, true]), (7, [0, 4, 6], [false, false, false, false, false, false, false, true, false, true, true]), (7, [0, 6, 4], [false, false, false, false, false, false, false, true, false, true, true]), (7, [6, 0, 4], [false, false, false, false, false, false, false, true, false, true, true]), (9, [0, 4, 6, 7], [false, false, false, false, false, false, false, false, false, true, true]), (9, [0, 6, 4, 7], [false, false, false, false, false, false, false, false, false, true, true]), (9, [6, 0, 4, 7], [false, false, false, false, false, false, false, false, false, true, true])] [[0, 4, 6, 7, 9], [0, 6, 4, 7, 9], [6, 0, 4, 7, 9]] [(true, 0, []), (false, 1, []), (false, 2, []), (false, 3, []), (false, 5, []), (true, 6, []), (false, 8, []), (false, 1, [0]), (false, 2, [0]), (false, 3, [0]), (true, 4, [0]), (false, 5, [0]), (true, 6, [0]), (false, 8, [0]), (true, 0, [6]), (false, 1, [6]), (false, 2, [6]), (false, 3, [6]), (false, 8, [6]), (false, 5, [0, 4]), (true, 6, [0, 4]), (false, 8, [0, 4]), (false, 1, [0, 6]), (false, 2, [0, 6]), (false, 3, [0, 6]), (true, 4, [0, 6]), (false, 8, [0, 6]), (false, 1, [6, 0]), (false, 2, [6, 0]), (false, 3, [6, 0]), (true, 4, [6, 0]), (false, 8, [6, 0]), (true, 7, [0, 4, 6]), (false, 8, [0, 4, 6]), (true, 7, [0, 6, 4]), (false, 8, [0, 6, 4]), (true, 7, [6, 0, 4]), (false, 8, [6, 0, 4]), (false, 8, [0, 4, 6, 7]), (true, 9, [0, 4, 6, 7]), (false, 8, [0, 6, 4, 7]), (true, 9, [0, 6, 4, 7]), (false, 8, [6, 0, 4, 7]), (true, 9, [6, 0, 4, 7]), (false, 10, [0, 4, 6, 7, 9]), (false, 10, [0, 6, 4, 7, 9]), (false, 10, [6, 0, 4, 7, 9])] [([], [.any, _, _, _, .any, _, .any, .any, _, .any, .any], _), ([0], [_, _, _, _, .any, _, .any, .any, _, .any, .any], _), ([6], [.any, _, _, _, .any, _, _, .any, _, .any, .any], _), ([0, 4], [_, _, _, _, _, _, .any, .any, _, .any, .any], _), ([0, 6], [_, _, _, _, .any, _, _, .any, _, .any, .any], _), ([6, 0], [_, _, _, _, .any, _, _, .any, _, .any, .any], _), ([0, 4, 6], [_, _, _, _, _, _, _, .any, _, .any, .any], _), ([0, 6, 4], [_, _, _, _, _, _, _, .any, _, .any, .any], _), ([6, 0, 4], [_, _, _, _, _, _, _, .any, _, .any, .any], _), ([0, 4, 6, 7], [_, _, _, _, _, _, _, _, _, .any, .any], _), ([0, 6, 4, 7], [_, _, _, _, _, _, _, _, _, .any, .any], _), ([6, 0, 4, 7], [_, _, _, _, _, _, _, _, _, .any, .any], _), ([0, 4, 6, 7, 9], [_, _, _, _, _, _, _, _, _, _, _], _), ([0, 6, 4, 7, 9], [_, _, _, _, _, _, _, _, _, _, _], _), ([6, 0, 4, 7, 9], [_, _, _, _, _, _, _, _, _, _, _], _)] [(true, 0, [], [_, _, _, _, .any, _, .any, .any, _, .any, .any], _, _), (false, 1, [], [.any, _, _, _, .any, _, .any, .any, _, .any, .any], _, []), (false, 2, [], [.any, _, _, _, .any, _, .any, .any, _, .any, .any], _, []), (false, 3, [], [.any, _, _, _, .any, _, .any, .any, _, .any, .any], _, []), (false, 5, [], [.any, _, _, _, .any, _, .any, .any, _, .any, .any], _, []), (true, 6, [], [.any, _, _, _, .any, _, _, .any, _, .any, .any], _, _), (false, 8, [], [.any, _, _, _, .any, _, .any, .any, _, .any, .any], _, []), (false, 1, [0], [_, _, _, _, .any, _, .any, .any, _, .any, .any], _, []), (false, 2, [0], [_, _, _, _, .any, _, .any, .any, _, .any, .any], _, []), (false, 3, [0], [_, _, _, _, .any, _, .any, .any, _, .any, .any], _, []), (true, 4, [0], [_, _, _, _, _, _, .any, .any, _, .any, .any], _, _), (false, 5, [0], [_, _, _, _, .any, _, .any, .any, _, .any, .any], _, []), (true, 6, [0], [_, _, _, _, .any, _, _, .any, _, .any, .any], _, _), (false, 8, [0], [_, _, _, _, .any, _, .any, .any, _, .any, .any], _, []), (true, 0, [6], [_, _, _, _, .any, _, _, .any, _, .any, .any], _, _), (false, 1, [6], [.any, _, _, _, .any, _, _, .any, _, .any, .any], _, []), (false, 2, [6], [.any, _, _, _, .any, _, _, .any, _, .any, .any], _, []), (false, 3, [6], [.any, _, _, _, .any, _, _, .any, _, .any, .any], _, []), (false, 8, [6], [.any, _, _, _, .any, _, _, .any, _, .any, .any], _, []), (false, 5, [0, 4], [_, _, _, _, _, _, .any, .any, _, .any, .any], _, []), (true, 6, [0, 4], [_, _, _, _, _, _, _, .any, _, .any, .any], _, _), (false, 8, [0, 4], [_, _, _, _, _, _, .any, .any, _, .any, .any], _, []), (false, 1, [0, 6], [_, _, _, _, .any, _, _, .any, _, .any, .any], _, []), (false, 2, [0, 6], [_, _, _, _, .any, _, _, .any, _, .any, .any], _, []), (false, 3, [0, 6], [_, _, _, _, .any, _, _, .any, _, .any, .any], _, []), (true, 4, [0, 6], [_, _, _, _, _, _, _, .any, _, .any, .any], _, _), (false, 8, [0, 6], [_, _, _, _, .any, _, _, .any, _, .any, .any], _, []), (false, 1, [6, 0], [_, _, _, _, .any, _, _, .any, _, .any, .any], _, []), (false, 2, [6, 0], [_, _, _, _, .any, _, _, .any, _, .any, .any], _, []), (false, 3, [6, 0], [_, _, _, _, .any, _, _, .any, _, .any, .any], _, []), (true, 4, [6, 0], [_, _, _, _, _, _, _, .any, _, .any, .any], _, _), (false, 8, [6, 0], [_, _, _, _, .any, _, _, .any, _, .any, .any], _, []), (true, 7, [0, 4, 6], [_, _, _, _, _, _, _, _, _, .any, .any], _, _), (false, 8, [0, 4, 6], [_, _, _, _, _, _, _, .any, _, .any, .any], _, []), (true, 7, [0, 6, 4], [_, _, _, _, _, _, _, _, _, .any, .any], _, _), (false, 8, [0, 6, 4], [_, _, _, _, _, _, _, .any, _, .any, .any], _, []), (true, 7, [6, 0, 4], [_, _, _, _, _, _, _, _, _, .any, .any], _, _), (false, 8, [6, 0, 4], [_, _, _, _, _, _, _, .any, _, .any, .any], _, []), (false, 8, [0, 4, 6, 7], [_, _, _, _, _, _, _, _, _, .any, .any], _, []), (true, 9, [0, 4, 6, 7], [_, _, _, _, _, _, _, _, _, _, _], _, _), (false, 8, [0, 6, 4, 7], [_, _, _, _, _, _, _, _, _, .any, .any], _, []), (true, 9, [0, 6, 4, 7], [_, _, _, _, _, _, _, _, _, _, _], _, _), (false, 8, [6, 0, 4, 7], [_, _, _, _, _, _, _, _, _, .any, .any], _, []), (true, 9, [6, 0, 4, 7], [_, _, _, _, _, _, _, _, _, _, _], _, _), (false, 10, [0, 4, 6, 7, 9], [_, _, _, _, _, _, _, _, _, _, _], _, []), (false, 10, [0, 6, 4, 7, 9], [_, _, _, _, _, _, _, _, _, _, _], _, []), (false, 10, [6, 0, 4, 7, 9], [_, _, _, _, _, _, _, _, _, _, _], _, [])] [(0, [], [true, false, false, false, true, false, false, true, false, true, true], [_, _, _, _, .any, _, .any, .any, _, .any, .any], _, [.any, _, _, _, .any, _, .any, .any, _, .any, .any], _), (6, [], [false, false, false, false, false, false, true, true, false, true, true], [.any, _, _, _, .any, _, _, .any, _, .any, .any], _, [.any, _, _, _, .any, _, .any, .any, _, .any, .any], _), (4, [0], [false, false, false, false, true, false, false, true, false, true, true], [_, _, _, _, _, _, .any, .any, _, .any, .any], _, [_, _, _, _, .any, _, .any, .any, _, .any, .any], _), (6, [0], [false, false, false, false, false, false, true, true, false, true, true], [_, _, _, _, .any, _, _, .any, _, .any, .any], _, [_, _, _, _, .any, _, .any, .any, _, .any, .any], _), (0, [6], [true, false, false, false, true, false, false, true, false, true, true], [_, _, _, _, .any, _, _, .any, _, .any, .any], _, [.any, _, _, _, .any, _, _, .any, _, .any, .any], _), (6, [0, 4], [false, false, false, false, false, false, true, true, false, true, true], [_, _, _, _, _, _, _, .any, _, .any, .any], _, [_, _, _, _, _, _, .any, .any, _, .any, .any], _), (4, [0, 6], [false, false, false, false, true, false, false, true, false, true, true], [_, _, _, _, _, _, _, .any, _, .any, .any], _, [_, _, _, _, .any, _, _, .any, _, .any, .any], _), (4, [6, 0], [false, false, false, false, true, false, false, true, false, true, true], [_, _, _, _, _, _, _, .any, _, .any, .any], _, [_, _, _, _, .any, _, _, .any, _, .any, .any], _), (7, [0, 4, 6], [false, false, false, false, false, false, false, true, false, true, true], [_, _, _, _, _, _, _, _, _, .any, .any], _, [_, _, _, _, _, _, _, .any, _, .any, .any], _), (7, [0, 6, 4], [false, false, false, false, false, false, false, true, false, true, true], [_, _, _, _, _, _, _, _, _, .any, .any], _, [_, _, _, _, _, _, _, .any, _, .any, .any], _), (7, [6, 0, 4], [false, false, false, false, false, false, false, true, false, true, true], [_, _, _, _, _, _, _, _, _, .any, .any], _, [_, _, _, _, _, _, _, .any, _, .any, .any], _), (9, [0, 4, 6, 7], [false, false, false, false, false, false, false, false, false, true, true], [_, _, _, _, _, _, _, _, _, _, _], _, [_, _, _, _, _, _, _, _, _, .any, .any], _), (9, [0, 6, 4, 7], [false, false, false, false, false, false, false, false, false, true, true], [_, _, _, _, _, _, _, _, _, _, _], _, [_, _, _, _, _, _, _, _, _, .any, .any], _), (9, [6, 0, 4, 7], [false, false, false, false, false, false, false, false, false, true, true], [_, _, _, _, _, _, _, _, _, _, _], _, [_, _, _, _, _, _, _, _, _, .any, .any], _)] rfl rfl rfl (by repeat' (first | exact trivial | rfl | refine And.intro ?_ ?_)) (by repeat' (first | exact trivial | rfl | refine And.intro ?_ ?_)) (by repeat' (first | exact trivial | refine And.intro ?_ ?_ | exact bS | exact bX | exact bZ | exact bI | fail)) ?_
          | refine eF_c ?_ ?_
          | exact eF_n
          | refine eF_e ?_
          | fail)
        refine pE [] ?_
        exact fzE (by simp) (by first | (simp; omega) | simp)
      · refine wF 4 ?_
        repeat' (first
          | refine IOps_nil ?_
          | refine oS ?_
          | refine IOps_s rfl rfl ?_
          | refine oT ?_
          | refine IOps_s0 rfl ?_
          | refine oZ ?_
          | refine oI ?_
          | refine thenI_n ?_
          | refine IWP_seq ?_
          | refine IWP_region ?_
          | refine IWP_ct rfl ?_
          | refine IWP_cf rfl ?_
          | refine IWP_skip ?_
          | refine IWP_ret ?_
          | refine IWP_block ?_
          | refine inB_n ?_
          | refine thenI_r ?_
          | refine thenI_e ?_
          | refine inB_r ?_
          | refine inB_hit ?_
          | refine inB_miss rfl ?_
          | refine IWP_exit ?_
          | refine IWP_scope ?_
          | refine IWP_label ?_
          | refine noG_n ?_
          | refine noG_r ?_
          | refine noG_e ?_
          | refine jmp_n ?_
          | refine jmp_r ?_
          | refine jmp_e ?_
          | refine jmp_g ?_
          | refine thenI_g ?_
          | refine inB_g ?_
          | refine IWP_goto ?_
          | refine Loop_n ?_
          | refine oD (id := 3) W30_3 [] O30_3 [_, _, _, _, _, _, _, _, _, _, _, _] [_] rfl (by repeat' (first | exact trivial | refine And.intro ?_ ?_ | exact bS | exact bX | exact bZ | exact bI | fail)) ?_
          | refine oDt (id := 6) [[], [], [], [1, 2], [0, 3, 1, 2], [], [5], [4, 0, 3, 1, 2, 6, 5], [], [7, 4, 0, 3, 1, 2, 6, 5, 8], [9, 7, 4, 0, 3, 1, 2, 6, 5, 8]] [0, 4, 6, 7, 9] [[], [0], [6], [0, 4], [0, 6], [6, 0], [0, 4, 6], [0, 6, 4], [6, 0, 4], [0, 4, 6, 7], [0, 6, 4, 7], [6, 0, 4, 7], [0, 4, 6, 7, 9], [0, 6, 4, 7, 9], [6, 0, 4, 7, 9]] [(0, [], [true, false, false, false, true, false, false, true, false, true, true]), (6, [], [false, false, false, false, false, false, true, true, false, true, true]), (4, [0], [false, false, false, false, true, false, false, true, false, true, true]), (6, [0], [false, false, false, false, false, false, true, true, false, true, true]), (0, [6], [true, false, false, false, true, false, false, true, false, true, true]), (6, [0, 4], [false, false, false, false, false, false, true, true, false, true, true]), (4, [0, 6], [false, false, false, false, true, false, false, true, false, true, true]), (4, [6, 0], [false, false, false, false, true, false, false, true, false, true, true]), (7, [0, 4, 6], [false, false, false, false, false, false, false, true, false, true, true]), (7, [0, 6, 4], [false, false, false, false, false, false, false, true, false, true, true]), (7, [6, 0, 4], [false, false, false, false, false, false, false, true, false, true, true]), (9, [0, 4, 6, 7], [false, false, false, false, false, false, false, false, false, true, true]), (9, [0, 6, 4, 7], [false, false, false, false, false, false, false, false, false, true, true]), (9, [6, 0, 4, 7], [false, false, false, false, false, false, false, false, false, true, true])] [[0, 4, 6, 7, 9], [0, 6, 4, 7, 9], [6, 0, 4, 7, 9]] [(true, 0, []), (false, 1, []), (false, 2, []), (false, 3, []), (false, 5, []), (true, 6, []), (false, 8, []), (false, 1, [0]), (false, 2, [0]), (false, 3, [0]), (true, 4, [0]), (false, 5, [0]), (true, 6, [0]), (false, 8, [0]), (true, 0, [6]), (false, 1, [6]), (false, 2, [6]), (false, 3, [6]), (false, 8, [6]), (false, 5, [0, 4]), (true, 6, [0, 4]), (false, 8, [0, 4]), (false, 1, [0, 6]), (false, 2, [0, 6]), (false, 3, [0, 6]), (true, 4, [0, 6]), (false, 8, [0, 6]), (false, 1, [6, 0]), (false, 2, [6, 0]), (false, 3, [6, 0]), (true, 4, [6, 0]), (false, 8, [6, 0]), (true, 7, [0, 4, 6]), (false, 8, [0, 4, 6]), (true, 7, [0, 6, 4]), (false, 8, [0, 6, 4]), (true, 7, [6, 0, 4]), (false, 8, [6, 0, 4]), (false, 8, [0, 4, 6, 7]), (true, 9, [0, 4, 6, 7]), (false, 8, [0, 6, 4, 7]), (true, 9, [0, 6, 4, 7]), (false, 8, [6, 0, 4, 7]), (true, 9, [6, 0, 4, 7]), (false, 10, [0, 4, 6, 7, 9]), (false, 10, [0, 6, 4, 7, 9]), (false, 10, [6, 0, 4, 7, 9])] [([], [.any, _, _, _, .any, _, .any, .any, _, .any, .any], _), ([0], [_, _, _, _, .any, _, .any, .any, _, .any, .any], _), ([6], [.any, _, _, _, .any, _, _, .any, _, .any, .any], _), ([0, 4], [_, _, _, _, _, _, .any, .any, _, .any, .any], _), ([0, 6], [_, _, _, _, .any, _, _, .any, _, .any, .any], _), ([6, 0], [_, _, _, _, .any, _, _, .any, _, .any, .any], _), ([0, 4, 6], [_, _, _, _, _, _, _, .any, _, .any, .any], _), ([0, 6, 4], [_, _, _, _, _, _, _, .any, _, .any, .any], _), ([6, 0, 4], [_, _, _, _, _, _, _, .any, _, .any, .any], _), ([0, 4, 6, 7], [_, _, _, _, _, _, _, _, _, .any, .any], _), ([0, 6, 4, 7], [_, _, _, _, _, _, _, _, _, .any, .any], _), ([6, 0, 4, 7], [_, _, _, _, _, _, _, _, _, .any, .any], _), ([0, 4, 6, 7, 9], [_, _, _, _, _, _, _, _, _, _, _], _), ([0, 6, 4, 7, 9], [_, _, _, _, _, _, _, _, _, _, _], _), ([6, 0, 4, 7, 9], [_, _, _, _, _, _, _, _, _, _, _], _)] [(true, 0, [], [_, _, _, _, .any, _, .any, .any, _, .any, .any], _, _), (false, 1, [], [.any, _, _, _, .any, _, .any, .any, _, .any, .any], _, []), (false, 2, [], [.any, _, _, _, .any, _, .any, .any, _, .any, .any], _, []), (false, 3, [], [.any, _, _, _, .any, _, .any, .any, _, .any, .any], _, []), (false, 5, [], [.any, _, _, _, .any, _, .any, .any, _, .any, .any], _, []), (true, 6, [], [.any, _, _, _, .any, _, _, .any, _, .any, .any], _, _), (false, 8, [], [.any, _, _, _, .any, _, .any, .any, _, .any, .any], _, []), (false, 1, [0], [_, _, _, _, .any, _, .any, .any, _, .any, .any], _, []), (false, 2, [0], [_, _, _, _, .any, _, .any, .any, _, .any, .any], _, []), (false, 3, [0], [_, _, _, _, .any, _, .any, .any, _, .any, .any], _, []), (true, 4, [0], [_, _, _, _, _, _, .any, .any, _, .any, .any], _, _), (false, 5, [0], [_, _, _, _, .any, _, .any, .any, _, .any, .any], _, []), (true, 6, [0], [_, _, _, _, .any, _, _, .any, _, .any, .any], _, _), (false, 8, [0], [_, _, _, _, .any, _, .any, .any, _, .any, .any], _, []), (true, 0, [6], [_, _, _, _, .any, _, _, .any, _, .any, .any], _, _), (false, 1, [6], [.any, _, _, _, .any, _, _, .any, _, .any, .any], _, []), (false, 2, [6], [.any, _, _, _, .any, _, _, .any, _, .any, .any], _, []), (false, 3, [6], [.any, _, _, _, .any, _, _, .any, _, .any, .any], _, []), (false, 8, [6], [.any, _, _, _, .any, _, _, .any, _, .any, .any], _, []), (false, 5, [0, 4], [_, _, _, _, _, _, .any, .any, _, .any, .any], _, []), (true, 6, [0, 4], [_, _, _, _, _, _, _, .any, _, .any, .any], _, _), (false, 8, [0, 4], [_, _, _, _, _, _, .any, .any, _, .any, .any], _, []), (false, 1, [0, 6], [_, _, _, _, .any, _, _, .any, _, .any, .any], _, []), (false, 2, [0, 6], [_, _, _, _, .any, _, _, .any, _, .any, .any], _, []), (false, 3, [0, 6], [_, _, _, _, .any, _, _, .any, _, .any, .any], _, []), (true, 4, [0, 6], [_, _, _, _, _, _, _, .any, _, .any, .any], _, _), (false, 8, [0, 6], [_, _, _, _, .any, _, _, .any, _, .any, .any], _, []), (false, 1, [6, 0], [_, _, _, _, .any, _, _, .any, _, .any, .any], _, []), (false, 2, [6, 0], [_, _, _, _, .any, _, _, .any, _, .any, .any], _, []), (false, 3, [6, 0], [_, _, _, _, .any, _, _, .any, _, .any, .any], _, []), (true, 4, [6, 0], [_, _, _, _, _, _, _, .any, _, .any, .any], _, _), (false, 8, [6, 0], [_, _, _, _, .any, _, _, .any, _, .any, .any], _, []), (true, 7, [0, 4, 6], [_, _, _, _, _, _, _, _, _, .any, .any], _, _), (false, 8, [0, 4, 6], [_, _, _, _, _, _, _, .any, _, .any, .any], _, []), (true, 7, [0, 6, 4], [_, _, _, _, _, _, _, _, _, .any, .any], _, _), (false, 8, [0, 6, 4], [_, _, _, _, _, _, _, .any, _, .any, .any], _, []), (true, 7, [6, 0, 4], [_, _, _, _, _, _, _, _, _, .any, .any], _, _), (false, 8, [6, 0, 4], [_, _, _, _, _, _, _, .any, _, .any, .any], _, []), (false, 8, [0, 4, 6, 7], [_, _, _, _, _, _, _, _, _, .any, .any], _, []), (true, 9, [0, 4, 6, 7], [_, _, _, _, _, _, _, _, _, _, _], _, _), (false, 8, [0, 6, 4, 7], [_, _, _, _, _, _, _, _, _, .any, .any], _, []), (true, 9, [0, 6, 4, 7], [_, _, _, _, _, _, _, _, _, _, _], _, _), (false, 8, [6, 0, 4, 7], [_, _, _, _, _, _, _, _, _, .any, .any], _, []), (true, 9, [6, 0, 4, 7], [_, _, _, _, _, _, _, _, _, _, _], _, _), (false, 10, [0, 4, 6, 7, 9], [_, _, _, _, _, _, _, _, _, _, _], _, []), (false, 10, [0, 6, 4, 7, 9], [_, _, _, _, _, _, _, _, _, _, _], _, []), (false, 10, [6, 0, 4, 7, 9], [_, _, _, _, _, _, _, _, _, _, _], _, [])] [(0, [], [true, false, false, false, true, false, false, true, false, true, true], [_, _, _, _, .any, _, .any, .any, _, .any, .any], _, [.any, _, _, _, .any, _, .any, .any, _, .any, .any], _), (6, [], [false, false, false, false, false, false, true, true, false, true, true], [.any, _, _, _, .any, _, _, .any, _, .any, .any], _, [.any, _, _, _, .any, _, .any, .any, _, .any, .any], _), (4, [0], [false, false, false, false, true, false, false, true, false, true, true], [_, _, _, _, _, _, .any, .any, _, .any, .any], _, [_, _, _, _, .any, _, .any, .any, _, .any, .any], _), (6, [0], [false, false, false, false, false, false, true, true, false, true, true], [_, _, _, _, .any, _, _, .any, _, .any, .any], _, [_, _, _, _, .any, _, .any, .any, _, .any, .any], _), (0, [6], [true, false, false, false, true, false, false, true, false, true, true], [_, _, _, _, .any, _, _, .any, _, .any, .any], _, [.any, _, _, _, .any, _, _, .any, _, .any, .any], _), (6, [0, 4], [false, false, false, false, false, false, true, true, false, true, true], [_, _, _, _, _, _, _, .any, _, .any, .any], _, [_, _, _, _, _, _, .any, .any, _, .any, .any], _), (4, [0, 6], [false, false, false, false, true, false, false, true, false, true, true], [_, _, _, _, _, _, _, .any, _, .any, .any], _, [_, _, _, _, .any, _, _, .any, _, .any, .any], _), (4, [6, 0], [false, false, false, false, true, false, false, true, false, true, true], [_, _, _, _, _, _, _, .any, _, .any, .any], _, [_, _, _, _, .any, _, _, .any, _, .any, .any], _), (7, [0, 4, 6], [false, false, false, false, false, false, false, true, false, true, true], [_, _, _, _, _, _, _, _, _, .any, .any], _, [_, _, _, _, _, _, _, .any, _, .any, .any], _), (7, [0, 6, 4], [false, false, false, false, false, false, false, true, false, true, true], [_, _, _, _, _, _, _, _, _, .any, .any], _, [_, _, _, _, _, _, _, .any, _, .any, .any], _), (7, [6, 0, 4], [false, false, false, false, false, false, false, true, false, true, true], [_, _, _, _, _, _, _, _, _, .any, .any], _, [_, _, _, _, _, _, _, .any, _, .any, .any], _), (9, [0, 4, 6, 7], [false, false, false, false, false, false, false, false, false, true, true], [_, _, _, _, _, _, _, _, _, _, _], _, [_, _, _, _, _, _, _, _, _, .any, .any], _), (9, [0, 6, 4, 7], [false, false, false, false, false, false, false, false, false, true, true], [_, _, _, _, _, _, _, _, _, _, _], _, [_, _, _, _, _, _, _, _, _, .any, .any], _), (9, [6, 0, 4, 7], [false, false, false, false, false, false, false, false, false, true, true], [_, _, _, _, _, _, _, _, _, _, _], _, [_, _, _, _, _, _, _, _, _, .any, .any], _)] rfl rfl rfl (by repeat' (first | exact trivial | rfl | refine And.intro ?_ ?_)) (by repeat' (first | exact trivial | rfl | refine And.intro ?_ ?_)) (by repeat' (first | exact trivial | refine And.intro ?_ ?_ | exact bS | exact bX | exact bZ | exact bI | fail)) ?_
          | refine eF_c ?_ ?_
          | exact eF_n
          | refine eF_e ?_
          | fail)
        refine pE [] ?_
        exact fzE (by simp) (by first | (simp; omega) | simp)
    · rw [h2] at hl
      repeat' (first
        | refine IOps_nil ?_
        | refine oS ?_
        | refine IOps_s rfl rfl ?_
        | refine oT ?_
        | refine IOps_s0 rfl ?_
        | refine oC (π := []) (hs := by first | exact hl | fail) (hx := ?_)
        | refine oZ ?_
        | refine oI ?_
        | refine thenI_n ?_
        | refine IWP_seq ?_
        | refine IWP_region ?_
        | refine IWP_ct rfl ?_
        | refine IWP_cf rfl ?_
        | refine IWP_skip ?_
        | refine IWP_ret ?_
        | refine IWP_block ?_
        | refine inB_n ?_
        | refine thenI_r ?_
        | refine thenI_e ?_
        | refine inB_r ?_
        | refine inB_hit ?_
        | refine inB_miss rfl ?_
        | refine IWP_exit ?_
        | refine IWP_scope ?_
        | refine IWP_label ?_
        | refine noG_n ?_
        | refine noG_r ?_
        | refine noG_e ?_
        | refine jmp_n ?_
        | refine jmp_r ?_
        | refine jmp_e ?_
        | refine jmp_g ?_
        | refine thenI_g ?_
        | refine inB_g ?_
        | refine IWP_goto ?_
        | refine Loop_n ?_
        | refine oD (id := 3) W30_3 [] O30_3 [_, _, _, _, _, _, _, _, _, _, _, _] [_] rfl (by repeat' (first | exact trivial | refine And.intro ?_ ?_ | exact bS | exact bX | exact bZ | exact bI | exact bC (π := []) (hs := by first | exact hl | fail) | fail)) ?_
        | refine oDt (id := 6) [[], [], [], [1, 2], [0, 3, 1, 2], [], [5], [4, 0, 3, 1, 2, 6, 5], [], [7, 4, 0, 3, 1, 2, 6, 5, 8], [9, 7, 4, 0, 3, 1, 2, 6, 5, 8]] [0, 4, 6, 7, 9] [[], [0], [6], [0, 4], [0, 6], [6, 0], [0, 4, 6], [0, 6, 4], [6, 0, 4], [0, 4, 6, 7], [0, 6, 4, 7], [6, 0, 4, 7], [0, 4, 6, 7, 9], [0, 6, 4, 7, 9], [6, 0, 4, 7, 9]] [(0, [], [true, false, false, false, true, false, false, true, false, true, true]), (6, [], [false, false, false, false, false, false, true, true, false, true, true]), (4, [0], [false, false, false, false, true, false, false, true, false, true, true]), (6, [0], [false, false, false, false, false, false, true, true, false, true, true]), (0, [6], [true, false, false, false, true, false, false, true, false, true, true]), (6, [0, 4], [false, false, false, false, false, false, true, true, false, true, true]), (4, [0, 6], [false, false, false, false, true, false, false, true, false, true, true]), (4, [6, 0], [false, false, false, false, true, false, false, true, false, true, true]), (7, [0, 4, 6], [false, false, false, false, false, false, false, true, false, true, true]), (7, [0, 6, 4], [false, false, false, false, false, false, false, true, false, true, true]), (7, [6, 0, 4], [false, false, false, false, false, false, false, true, false, true, true]), (9, [0, 4, 6, 7], [false, false, false, false, false, false, false, false, false, true, true]), (9, [0, 6, 4, 7], [false, false, false, false, false, false, false, false, false, true, true]), (9, [6, 0, 4, 7], [false, false, false, false, false, false, false, false, false, true, true])] [[0, 4, 6, 7, 9], [0, 6, 4, 7, 9], [6, 0, 4, 7, 9]] [(true, 0, []), (false, 1, []), (false, 2, []), (false, 3, []), (false, 5, []), (true, 6, []), (false, 8, []), (false, 1, [0]), (false, 2, [0]), (false, 3, [0]), (true, 4, [0]), (false, 5, [0]), (true, 6, [0]), (false, 8, [0]), (true, 0, [6]), (false, 1, [6]), (false, 2, [6]), (false, 3, [6]), (false, 8, [6]), (false, 5, [0, 4]), (true, 6, [0, 4]), (false, 8, [0, 4]), (false, 1, [0, 6]), (false, 2, [0, 6]), (false, 3, [0, 6]), (true, 4, [0, 6]), (false, 8, [0, 6]), (false, 1, [6, 0]), (false, 2, [6, 0]), (false, 3, [6, 0]), (true, 4, [6, 0]), (false, 8, [6, 0]), (true, 7, [0, 4, 6]), (false, 8, [0, 4, 6]), (true, 7, [0, 6, 4]), (false, 8, [0, 6, 4]), (true, 7, [6, 0, 4]), (false, 8, [6, 0, 4]), (false, 8, [0, 4, 6, 7]), (true, 9, [0, 4, 6, 7]), (false, 8, [0, 6, 4, 7]), (true, 9, [0, 6, 4, 7]), (false, 8, [6, 0, 4, 7]), (true, 9, [6, 0, 4, 7]), (false, 10, [0, 4, 6, 7, 9]), (false, 10, [0, 6, 4, 7, 9]), (false, 10, [6, 0, 4, 7, 9])] [([], [.any, _, _, _, .any, _, .any, .any, _, .any, .any], _), ([0], [_, _, _, _, .any, _, .any, .any, _, .any, .any], _), ([6], [.any, _, _, _, .any, _, _, .any, _, .any, .any], _), ([0, 4], [_, _, _, _, _, _, .any, .any, _, .any, .any], _), ([0, 6], [_, _, _, _, .any, _, _, .any, _, .any, .any], _), ([6, 0], [_, _, _, _, .any, _, _, .any, _, .any, .any], _), ([0, 4, 6], [_, _, _, _, _, _, _, .any, _, .any, .any], _), ([0, 6, 4], [_, _, _, _, _, _, _, .any, _, .any, .any], _), ([6, 0, 4], [_, _, _, _, _, _, _, .any, _, .any, .any], _), ([0, 4, 6, 7], [_, _, _, _, _, _, _, _, _, .any, .any], _), ([0, 6, 4, 7], [_, _, _, _, _, _, _, _, _, .any, .any], _), ([6, 0, 4, 7], [_, _, _, _, _, _, _, _, _, .any, .any], _), ([0, 4, 6, 7, 9], [_, _, _, _, _, _, _, _, _, _, _], _), ([0, 6, 4, 7, 9], [_, _, _, _, _, _, _, _, _, _, _], _), ([6, 0, 4, 7, 9], [_, _, _, _, _, _, _, _, _, _, _], _)] [(true, 0, [], [_, _, _, _, .any, _, .any, .any, _, .any, .any], _, _), (false, 1, [], [.any, _, _, _, .any, _, .any, .any, _, .any, .any], _, []), (false, 2, [], [.any, _, _, _, .any, _, .any, .any, _, .any, .any], _, []), (false, 3, [], [.any, _, _, _, .any, _, .any, .any, _, .any, .any], _, []), (false, 5, [], [.any, _, _, _, .any, _, .any, .any, _, .any, .any], _, []), (true, 6, [], [.any, _, _, _, .any, _, _, .any, _, .any, .any], _, _), (false, 8, [], [.any, _, _, _, .any, _, .any, .any, _, .any, .any], _, []), (false, 1, [0], [_, _, _, _, .any, _, .any, .any, _, .any, .any], _, []), (false, 2, [0], [_, _, _, _, .any, _, .any, .any, _, .any, .any], _, []), (false, 3, [0], [_, _, _, _, .any, _, .any, .any, _, .any, .any], _, []), (true, 4, [0], [_, _, _, _, _, _, .any, .any, _, .any, .any], _, _), (false, 5, [0], [_, _, _, _, .any, _, .any, .any, _, .any, .any], _, []), (true, 6, [0], [_, _, _, _, .any, _, _, .any, _, .any, .any], _, _), (false, 8, [0], [_, _, _, _, .any, _, .any, .any, _, .any, .any], _, []), (true, 0, [6], [_, _, _, _, .any, _, _, .any, _, .any, .any], _, _), (false, 1, [6], [.any, _, _, _, .any, _, _, .any, _, .any, .any], _, []), (false, 2, [6], [.any, _, _, _, .any, _, _, .any, _, .any, .any], _, []), (false, 3, [6], [.any, _, _, _, .any, _, _, .any, _, .any, .any], _, []), (false, 8, [6], [.any, _, _, _, .any, _, _, .any, _, .any, .any], _, []), (false, 5, [0, 4], [_, _, _, _, _, _, .any, .any, _, .any, .any], _, []), (true, 6, [0, 4], [_, _, _, _, _, _, _, .any, _, .any, .any], _, _), (false, 8, [0, 4], [_, _, _, _, _, _, .any, .any, _, .any, .any], _, []), (false, 1, [0, 6], [_, _, _, _, .any, _, _, .any, _, .any, .any], _, []), (false, 2, [0, 6], [_, _, _, _, .any, _, _, .any, _, .any, .any], _, []), (false, 3, [0, 6], [_, _, _, _, .any, _, _, .any, _, .any, .any], _, []), (true, 4, [0, 6], [_, _, _, _, _, _, _, .any, _, .any, .any], _, _), (false, 8, [0, 6], [_, _, _, _, .any, _, _, .any, _, .any, .any], _, []), (false, 1, [6, 0], [_, _, _, _, .any, _, _, .any, _, .any, .any], _, []), (false, 2, [6, 0], [_, _, _, _, .any, _, _, .any, _, .any, .any], _, []), (false, 3, [6, 0], [_, _, _, _, .any, _, _, .any, _, .any, .any], _, []), (true, 4, [6, 0], [_, _, _, _, _, _, _, .any, _, .any, .any], _, _), (false, 8, [6, 0], [_, _, _, _, .any, _, _, .any, _, .any, .any], _, []), (true, 7, [0, 4, 6], [_, _, _, _, _, _, _, _, _, .any, .any], _, _), (false, 8, [0, 4, 6], [_, _, _, _, _, _, _, .any, _, .any, .any], _, []), (true, 7, [0, 6, 4], [_, _, _, _, _, _, _, _, _, .any, .any], _, _), (false, 8, [0, 6, 4], [_, _, _, _, _, _, _, .any, _, .any, .any], _, []), (true, 7, [6, 0, 4], [_, _, _, _, _, _, _, _, _, .any, .any], _, _), (false, 8, [6, 0, 4], [_, _, _, _, _, _, _, .any, _, .any, .any], _, []), (false, 8, [0, 4, 6, 7], [_, _, _, _, _, _, _, _, _, .any, .any], _, []), (true, 9, [0, 4, 6, 7], [_, _, _, _, _, _, _, _, _, _, _], _, _), (false, 8, [0, 6, 4, 7], [_, _, _, _, _, _, _, _, _, .any, .any], _, []), (true, 9, [0, 6, 4, 7], [_, _, _, _, _, _, _, _, _, _, _], _, _), (false, 8, [6, 0, 4, 7], [_, _, _, _, _, _, _, _, _, .any, .any], _, []), (true, 9, [6, 0, 4, 7], [_, _, _, _, _, _, _, _, _, _, _], _, _), (false, 10, [0, 4, 6, 7, 9], [_, _, _, _, _, _, _, _, _, _, _], _, []), (false, 10, [0, 6, 4, 7, 9], [_, _, _, _, _, _, _, _, _, _, _], _, []), (false, 10, [6, 0, 4, 7, 9], [_, _, _, _, _, _, _, _, _, _, _], _, [])] [(0, [], [true, false, false, false, true, false, false, true, false, true, true], [_, _, _, _, .any, _, .any, .any, _, .any, .any], _, [.any, _, _, _, .any, _, .any, .any, _, .any, .any], _), (6, [], [false, false, false, false, false, false, true, true, false, true, true], [.any, _, _, _, .any, _, _, .any, _, .any, .any], _, [.any, _, _, _, .any, _, .any, .any, _, .any, .any], _), (4, [0], [false, false, false, false, true, false, false, true, false, true, true], [_, _, _, _, _, _, .any, .any, _, .any, .any], _, [_, _, _, _, .any, _, .any, .any, _, .any, .any], _), (6, [0], [false, false, false, false, false, false, true, true, false, true, true], [_, _, _, _, .any, _, _, .any, _, .any, .any], _, [_, _, _, _, .any, _, .any, .any, _, .any, .any], _), (0, [6], [true, false, false, false, true, false, false, true, false, true, true], [_, _, _, _, .any, _, _, .any, _, .any, .any], _, [.any, _, _, _, .any, _, _, .any, _, .any, .any], _), (6, [0, 4], [false, false, false, false, false, false, true, true, false, true, true], [_, _, _, _, _, _, _, .any, _, .any, .any], _, [_, _, _, _, _, _, .any, .any, _, .any, .any], _), (4, [0, 6], [false, false, false, false, true, false, false, true, false, true, true], [_, _, _, _, _, _, _, .any, _, .any, .any], _, [_, _, _, _, .any, _, _, .any, _, .any, .any], _), (4, [6, 0], [false, false, false, false, true, false, false, true, false, true, true], [_, _, _, _, _, _, _, .any, _, .any, .any], _, [_, _, _, _, .any, _, _, .any, _, .any, .any], _), (7, [0, 4, 6], [false, false, false, false, false, false, false, true, false, true, true], [_, _, _, _, _, _, _, _, _, .any, .any], _, [_, _, _, _, _, _, _, .any, _, .any, .any], _), (7, [0, 6, 4], [false, false, false, false, false, false, false, true, false, true, true], [_, _, _, _, _, _, _, _, _, .any, .any], _, [_, _, _, _, _, _, _, .any, _, .any, .any], _), (7, [6, 0, 4], [false, false, false, false, false, false, false, true, false, true, true], [_, _, _, _, _, _, _, _, _, .any, .any], _, [_, _, _, _, _, _, _, .any, _, .any, .any], _), (9, [0, 4, 6, 7], [false, false, false, false, false, false, false, false, false, true, true], [_, _, _, _, _, _, _, _, _, _, _], _, [_, _, _, _, _, _, _, _, _, .any, .any], _), (9, [0, 6, 4, 7], [false, false, false, false, false, false, false, false, false, true, true], [_, _, _, _, _, _, _, _, _, _, _], _, [_, _, _, _, _, _, _, _, _, .any, .any], _), (9, [6, 0, 4, 7], [false, false, false, false, false, false, false, false, false, true, true], [_, _, _, _, _, _, _, _, _, _, _], _, [_, _, _, _, _, _, _, _, _, .any, .any], _)] rfl rfl rfl (by repeat' (first | exact trivial | rfl | refine And.intro ?_ ?_)) (by repeat' (first | exact trivial | rfl | refine And.intro ?_ ?_)) (by repeat' (first | exact trivial | refine And.intro ?_ ?_ | exact bS | exact bX | exact bZ | exact bI | exact bC (π := []) (hs := by first | exact hl | fail) | fail)) ?_
        | refine eF_c ?_ ?_
        | exact eF_n
        | refine eF_e ?_
        | fail)
      exact ⟨k + 1, ⟨h1, fun j hj2 => by
        rcases Nat.lt_succ_iff_lt_or_eq.1 hj2 with h | rfl
        · exact hj j h
        · exact h2⟩, by omega, lP [0]⟩
  · obtain ⟨e1, e2⟩ := while_at (p := fun y => lessI y x) hk hj (fun h => absurd h h1)
    unfold insI
    rw [e1, e2]
    obtain rfl : k = W.length := by omega
    repeat' (first
      | refine IOps_nil ?_
      | refine oS ?_
      | refine IOps_s rfl rfl ?_
      | refine oT ?_
      | refine IOps_s0 rfl ?_
      | refine oZ ?_
      | refine oI ?_
      | refine thenI_n ?_
      | refine IWP_seq ?_
      | refine IWP_region ?_
      | refine IWP_ct rfl ?_
      | refine IWP_cf rfl ?_
      | refine IWP_skip ?_
      | refine IWP_block ?_
      | refine inB_n ?_
      | refine thenI_r ?_
      | refine thenI_e ?_
      | refine inB_r ?_
      | refine inB_hit ?_
      | refine inB_miss rfl ?_
      | refine IWP_exit ?_
      | refine IWP_scope ?_
      | refine IWP_label ?_
      | refine noG_n ?_
      | refine noG_r ?_
      | refine noG_e ?_
      | refine jmp_n ?_
      | refine jmp_r ?_
      | refine jmp_e ?_
      | refine jmp_g ?_
      | refine thenI_g ?_
      | refine inB_g ?_
      | refine IWP_goto ?_
      | refine Loop_n ?_
      | refine oD (id := 3) W30_3 [] O30_3 [_, _, _, _, _, _, _, _, _, _, _, _] [_] rfl (by repeat' (first | exact trivial | refine And.intro ?_ ?_ | exact bS | exact bX | exact bZ | exact bI | fail)) ?_
      | refine oDt (id := 6) [[], [], [], [1, 2], [0, 3, 1, 2], [], [5], [4, 0, 3, 1, 2, 6, 5], [], [7, 4, 0, 3, 1, 2, 6, 5, 8], [9, 7, 4, 0, 3, 1, 2, 6, 5, 8]] [0, 4, 6, 7, 9] [[], [0], [6], [0, 4], [0, 6], [6, 0], [0, 4, 6], [0, 6, 4], [6, 0, 4], [0, 4, 6, 7], [0, 6, 4, 7], [6, 0, 4, 7], [0, 4, 6, 7, 9], [0, 6, 4, 7, 9], [6, 0, 4, 7, 9]] [(0, [], [true, false, false, false, true, false, false, true, false, true, true]), (6, [], [false, false, false, false, false, false, true, true, false, true, true]), (4, [0], [false, false, false, false, true, false, false, true, false, true, true]), (6, [0], [false, false, false, false, false, false, true, true, false, true, true]), (0, [6], [true, false, false, false, true, false, false, true, false, true, true]), (6, [0, 4], [false, false, false, false, false, false, true, true, false, true, true]), (4, [0, 6], [false, false, false, false, true, false, false, true, false, true, true]), (4, [6, 0], [false, false, false, false, true, false, false, true, false, true, true]), (7, [0, 4, 6], [false, false, false, false, false, false, false, true, false, true, true]), (7, [0, 6, 4], [false, false, false, false, false, false, false, true, false, true, true]), (7, [6, 0, 4], [false, false, false, false, false, false, false, true, false, true, true]), (9, [0, 4, 6, 7], [false, false, false, false, false, false, false, false, false, true, true]), (9, [0, 6, 4, 7], [false, false, false, false, false, false, false, false, false, true, true]), (9, [6, 0, 4, 7], [false, false, false, false, false, false, false, false, false, true, true])] [[0, 4, 6, 7, 9], [0, 6, 4, 7, 9], [6, 0, 4, 7, 9]] [(true, 0, []), (false, 1, []), (false, 2, []), (false, 3, []), (false, 5, []), (true, 6, []), (false, 8, []), (false, 1, [0]), (false, 2, [0]), (false, 3, [0]), (true, 4, [0]), (false, 5, [0]), (true, 6, [0]), (false, 8, [0]), (true, 0, [6]), (false, 1, [6]), (false, 2, [6]), (false, 3, [6]), (false, 8, [6]), (false, 5, [0, 4]), (true, 6, [0, 4]), (false, 8, [0, 4]), (false, 1, [0, 6]), (false, 2, [0, 6]), (false, 3, [0, 6]), (true, 4, [0, 6]), (false, 8, [0, 6]), (false, 1, [6, 0]), (false, 2, [6, 0]), (false, 3, [6, 0]), (true, 4, [6, 0]), (false, 8, [6, 0]), (true, 7, [0, 4, 6]), (false, 8, [0, 4, 6]), (true, 7, [0, 6, 4]), (false, 8, [0, 6, 4]), (true, 7, [6, 0, 4]), (false, 8, [6, 0, 4]), (false, 8, [0, 4, 6, 7]), (true, 9, [0, 4, 6, 7]), (false, 8, [0, 6, 4, 7]), (true, 9, [0, 6, 4, 7]), (false, 8, [6, 0, 4, 7]), (true, 9, [6, 0, 4, 7]), (false, 10, [0, 4, 6, 7, 9]), (false, 10, [0, 6, 4, 7, 9]), (false, 10, [6, 0, 4, 7, 9])] [([], [.any, _, _, _, .any, _, .any, .any, _, .any, .any], _), ([0], [_, _, _, _, .any, _, .any, .any, _, .any, .any], _), ([6], [.any, _, _, _, .any, _, _, .any, _, .any, .any], _), ([0, 4], [_, _, _, _, _, _, .any, .any, _, .any, .any], _), ([0, 6], [_, _, _, _, .any, _, _, .any, _, .any, .any], _), ([6, 0], [_, _, _, _, .any, _, _, .any, _, .any, .any], _), ([0, 4, 6], [_, _, _, _, _, _, _, .any, _, .any, .any], _), ([0, 6, 4], [_, _, _, _, _, _, _, .any, _, .any, .any], _), ([6, 0, 4], [_, _, _, _, _, _, _, .any, _, .any, .any], _), ([0, 4, 6, 7], [_, _, _, _, _, _, _, _, _, .any, .any], _), ([0, 6, 4, 7], [_, _, _, _, _, _, _, _, _, .any, .any], _), ([6, 0, 4, 7], [_, _, _, _, _, _, _, _, _, .any, .any], _), ([0, 4, 6, 7, 9], [_, _, _, _, _, _, _, _, _, _, _], _), ([0, 6, 4, 7, 9], [_, _, _, _, _, _, _, _, _, _, _], _), ([6, 0, 4, 7, 9], [_, _, _, _, _, _, _, _, _, _, _], _)] [(true, 0, [], [_, _, _, _, .any, _, .any, .any, _, .any, .any], _, _), (false, 1, [], [.any, _, _, _, .any, _, .any, .any, _, .any, .any], _, []), (false, 2, [], [.any, _, _, _, .any, _, .any, .any, _, .any, .any], _, []), (false, 3, [], [.any, _, _, _, .any, _, .any, .any, _, .any, .any], _, []), (false, 5, [], [.any, _, _, _, .any, _, .any, .any, _, .any, .any], _, []), (true, 6, [], [.any, _, _, _, .any, _, _, .any, _, .any, .any], _, _), (false, 8, [], [.any, _, _, _, .any, _, .any, .any, _, .any, .any], _, []), (false, 1, [0], [_, _, _, _, .any, _, .any, .any, _, .any, .any], _, []), (false, 2, [0], [_, _, _, _, .any, _, .any, .any, _, .any, .any], _, []), (false, 3, [0], [_, _, _, _, .any, _, .any, .any, _, .any, .any], _, []), (true, 4, [0], [_, _, _, _, _, _, .any, .any, _, .any, .any], _, _), (false, 5, [0], [_, _, _, _, .any, _, .any, .any, _, .any, .any], _, []), (true, 6, [0], [_, _, _, _, .any, _, _, .any, _, .any, .any], _, _), (false, 8, [0], [_, _, _, _, .any, _, .any, .any, _, .any, .any], _, []), (true, 0, [6], [_, _, _, _, .any, _, _, .any, _, .any, .any], _, _), (false, 1, [6], [.any, _, _, _, .any, _, _, .any, _, .any, .any], _, []), (false, 2, [6], [.any, _, _, _, .any, _, _, .any, _, .any, .any], _, []), (false, 3, [6], [.any, _, _, _, .any, _, _, .any, _, .any, .any], _, []), (false, 8, [6], [.any, _, _, _, .any, _, _, .any, _, .any, .any], _, []), (false, 5, [0, 4], [_, _, _, _, _, _, .any, .any, _, .any, .any], _, []), (true, 6, [0, 4], [_, _, _, _, _, _, _, .any, _, .any, .any], _, _), (false, 8, [0, 4], [_, _, _, _, _, _, .any, .any, _, .any, .any], _, []), (false, 1, [0, 6], [_, _, _, _, .any, _, _, .any, _, .any, .any], _, []), (false, 2, [0, 6], [_, _, _, _, .any, _, _, .any, _, .any, .any], _, []), (false, 3, [0, 6], [_, _, _, _, .any, _, _, .any, _, .any, .any], _, []), (true, 4, [0, 6], [_, _, _, _, _, _, _, .any, _, .any, .any], _, _), (false, 8, [0, 6], [_, _, _, _, .any, _, _, .any, _, .any, .any], _, []), (false, 1, [6, 0], [_, _, _, _, .any, _, _, .any, _, .any, .any], _, []), (false, 2, [6, 0], [_, _, _, _, .any, _, _, .any, _, .any, .any], _, []), (false, 3, [6, 0], [_, _, _, _, .any, _, _, .any, _, .any, .any], _, []), (true, 4, [6, 0], [_, _, _, _, _, _, _, .any, _, .any, .any], _, _), (false, 8, [6, 0], [_, _, _, _, .any, _, _, .any, _, .any, .any], _, []), (true, 7, [0, 4, 6], [_, _, _, _, _, _, _, _, _, .any, .any], _, _), (false, 8, [0, 4, 6], [_, _, _, _, _, _, _, .any, _, .any, .any], _, []), (true, 7, [0, 6, 4], [_, _, _, _, _, _, _, _, _, .any, .any], _, _), (false, 8, [0, 6, 4], [_, _, _, _, _, _, _, .any, _, .any, .any], _, []), (true, 7, [6, 0, 4], [_, _, _, _, _, _, _, _, _, .any, .any], _, _), (false, 8, [6, 0, 4], [_, _, _, _, _, _, _, .any, _, .any, .any], _, []), (false, 8, [0, 4, 6, 7], [_, _, _, _, _, _, _, _, _, .any, .any], _, []), (true, 9, [0, 4, 6, 7], [_, _, _, _, _, _, _, _, _, _, _], _, _), (false, 8, [0, 6, 4, 7], [_, _, _, _, _, _, _, _, _, .any, .any], _, []), (true, 9, [0, 6, 4, 7], [_, _, _, _, _, _, _, _, _, _, _], _, _), (false, 8, [6, 0, 4, 7], [_, _, _, _, _, _, _, _, _, .any, .any], _, []), (true, 9, [6, 0, 4, 7], [_, _, _, _, _, _, _, _, _, _, _], _, _), (false, 10, [0, 4, 6, 7, 9], [_, _, _, _, _, _, _, _, _, _, _], _, []), (false, 10, [0, 6, 4, 7, 9], [_, _, _, _, _, _, _, _, _, _, _], _, []), (false, 10, [6, 0, 4, 7, 9], [_, _, _, _, _, _, _, _, _, _, _], _, [])] [(0, [], [true, false, false, false, true, false, false, true, false, true, true], [_, _, _, _, .any, _, .any, .any, _, .any, .any], _, [.any, _, _, _, .any, _, .any, .any, _, .any, .any], _), (6, [], [false, false, false, false, false, false, true, true, false, true, true], [.any, _, _, _, .any, _, _, .any, _, .any, .any], _, [.any, _, _, _, .any, _, .any, .any, _, .any, .any], _), (4, [0], [false, false, false, false, true, false, false, true, false, true, true], [_, _, _, _, _, _, .any, .any, _, .any, .any], _, [_, _, _, _, .any, _, .any, .any, _, .any, .any], _), (6, [0], [false, false, false, false, false, false, true, true, false, true, true], [_, _, _, _, .any, _, _, .any, _, .any, .any], _, [_, _, _, _, .any, _, .any, .any, _, .any, .any], _), (0, [6], [true, false, false, false, true, false, false, true, false, true, true], [_, _, _, _, .any, _, _, .any, _, .any, .any], _, [.any, _, _, _, .any, _, _, .any, _, .any, .any], _), (6, [0, 4], [false, false, false, false, false, false, true, true, false, true, true], [_, _, _, _, _, _, _, .any, _, .any, .any], _, [_, _, _, _, _, _, .any, .any, _, .any, .any], _), (4, [0, 6], [false, false, false, false, true, false, false, true, false, true, true], [_, _, _, _, _, _, _, .any, _, .any, .any], _, [_, _, _, _, .any, _, _, .any, _, .any, .any], _), (4, [6, 0], [false, false, false, false, true, false, false, true, false, true, true], [_, _, _, _, _, _, _, .any, _, .any, .any], _, [_, _, _, _, .any, _, _, .any, _, .any, .any], _), (7, [0, 4, 6], [false, false, false, false, false, false, false, true, false, true, true], [_, _, _, _, _, _, _, _, _, .any, .any], _, [_, _, _, _, _, _, _, .any, _, .any, .any], _), (7, [0, 6, 4], [false, false, false, false, false, false, false, true, false, true, true], [_, _, _, _, _, _, _, _, _, .any, .any], _, [_, _, _, _, _, _, _, .any, _, .any, .any], _), (7, [6, 0, 4], [false, false, false, false, false, false, false, true, false, true, true], [_, _, _, _, _, _, _, _, _, .any, .any], _, [_, _, _, _, _, _, _, .any, _, .any, .any], _), (9, [0, 4, 6, 7], [false, false, false, false, false, false, false, false, false, true, true], [_, _, _, _, _, _, _, _, _, _, _], _, [_, _, _, _, _, _, _, _, _, .any, .any], _), (9, [0, 6, 4, 7], [false, false, false, false, false, false, false, false, false, true, true], [_, _, _, _, _, _, _, _, _, _, _], _, [_, _, _, _, _, _, _, _, _, .any, .any], _), (9, [6, 0, 4, 7], [false, false, false, false, false, false, false, false, false, true, true], [_, _, _, _, _, _, _, _, _, _, _], _, [_, _, _, _, _, _, _, _, _, .any, .any], _)] rfl rfl rfl (by repeat' (first | exact trivial | rfl | refine And.intro ?_ ?_)) (by repeat' (first | exact trivial | rfl | refine And.intro ?_ ?_)) (by repeat' (first | exact trivial | refine And.intro ?_ ?_ | exact bS | exact bX | exact bZ | exact bI | fail)) ?_
      | refine eF_c ?_ ?_
      | exact eF_n
      | refine eF_e ?_
      | fail)
    · refine wF 4 ?_
      repeat' (first
        | refine IOps_nil ?_
        | refine oS ?_
        | refine IOps_s rfl rfl ?_
        | refine oT ?_
        | refine IOps_s0 rfl ?_
        | refine oZ ?_
        | refine oI ?_
        | refine thenI_n ?_
        | refine IWP_seq ?_
        | refine IWP_region ?_
        | refine IWP_ct rfl ?_
        | refine IWP_cf rfl ?_
        | refine IWP_skip ?_
        | refine IWP_ret ?_
        | refine IWP_block ?_
        | refine inB_n ?_
        | refine thenI_r ?_
        | refine thenI_e ?_
        | refine inB_r ?_
        | refine inB_hit ?_
        | refine inB_miss rfl ?_
        | refine IWP_exit ?_
        | refine IWP_scope ?_
        | refine IWP_label ?_
        | refine noG_n ?_
        | refine noG_r ?_
        | refine noG_e ?_
        | refine jmp_n ?_
        | refine jmp_r ?_
        | refine jmp_e ?_
        | refine jmp_g ?_
        | refine thenI_g ?_
        | refine inB_g ?_
        | refine IWP_goto ?_
        | refine Loop_n ?_
        | refine oD (id := 3) W30_3 [] O30_3 [_, _, _, _, _, _, _, _, _, _, _, _] [_] rfl (by repeat' (first | exact trivial | refine And.intro ?_ ?_ | exact bS | exact bX | exact bZ | exact bI | fail)) ?_
        | refine oDt (id := 6) [[], [], [], [1, 2], [0, 3, 1, 2], [], [5], [4, 0, 3, 1, 2, 6, 5], [], [7, 4, 0, 3, 1, 2, 6, 5, 8], [9, 7, 4, 0, 3, 1, 2, 6, 5, 8]] [0, 4, 6, 7, 9] [[], [0], [6], [0, 4], [0, 6], [6, 0], [0, 4, 6], [0, 6, 4], [6, 0, 4], [0, 4, 6, 7], [0, 6, 4, 7], [6, 0, 4, 7], [0, 4, 6, 7, 9], [0, 6, 4, 7, 9], [6, 0, 4, 7, 9]] [(0, [], [true, false, false, false, true, false, false, true, false, true, true]), (6, [], [false, false, false, false, false, false, true, true, false, true, true]), (4, [0], [false, false, false, false, true, false, false, true, false, true, true]), (6, [0], [false, false, false, false, false, false, true, true, false, true, true]), (0, [6], [true, false, false, false, true, false, false, true, false, true, true]), (6, [0, 4], [false, false, false, false, false, false, true, true, false, true, true]), (4, [0, 6], [false, false, false, false, true, false, false, true, false, true, true]), (4, [6, 0], [false, false, false, false, true, false, false, true, false, true, true]), (7, [0, 4, 6], [false, false, false, false, false, false, false, true, false, true, true]), (7, [0, 6, 4], [false, false, false, false, false, false, false, true, false, true, true]), (7, [6, 0, 4], [false, false, false, false, false, false, false, true, false, true, true]), (9, [0, 4, 6, 7], [false, false, false, false, false, false, false, false, false, true, true]), (9, [0, 6, 4, 7], [false, false, false, false, false, false, false, false, false, true, true]), (9, [6, 0, 4, 7], [false, false, false, false, false, false, false, false, false, true, true])] [[0, 4, 6, 7, 9], [0, 6, 4, 7, 9], [6, 0, 4, 7, 9]] [(true, 0, []), (false, 1, []), (false, 2, []), (false, 3, []), (false, 5, []), (true, 6, []), (false, 8, []), (false, 1, [0]), (false, 2, [0]), (false, 3, [0]), (true, 4, [0]), (false, 5, [0]), (true, 6, [0]), (false, 8, [0]), (true, 0, [6]), (false, 1, [6]), (false, 2, [6]), (false, 3, [6]), (false, 8, [6]), (false, 5, [0, 4]), (true, 6, [0, 4]), (false, 8, [0, 4]), (false, 1, [0, 6]), (false, 2, [0, 6]), (false, 3, [0, 6]), (true, 4, [0, 6]), (false, 8, [0, 6]), (false, 1, [6, 0]), (false, 2, [6, 0]), (false, 3, [6, 0]), (true, 4, [6, 0]), (false, 8, [6, 0]), (true, 7, [0, 4, 6]), (false, 8, [0, 4, 6]), (true, 7, [0, 6, 4]), (false, 8, [0, 6, 4]), (true, 7, [6, 0, 4]), (false, 8, [6, 0, 4]), (false, 8, [0, 4, 6, 7]), (true, 9, [0, 4, 6, 7]), (false, 8, [0, 6, 4, 7]), (true, 9, [0, 6, 4, 7]), (false, 8, [6, 0, 4, 7]), (true, 9, [6, 0, 4, 7]), (false, 10, [0, 4, 6, 7, 9]), (false, 10, [0, 6, 4, 7, 9]), (false, 10, [6, 0, 4, 7, 9])] [([], [.any, _, _, _, .any, _, .any, .any, _, .any, .any], _), ([0], [_, _, _, _, .any, _, .any, .any, _, .any, .any], _), ([6], [.any, _, _, _, .any, _, _, .any, _, .any, .any], _), ([0, 4], [_, _, _, _, _, _, .any, .any, _, .any, .any], _), ([0, 6], [_, _, _, _, .any, _, _, .any, _, .any, .any], _), ([6, 0], [_, _, _, _, .any, _, _, .any, _, .any, .any], _), ([0, 4, 6], [_, _, _, _, _, _, _, .any, _, .any, .any], _), ([0, 6, 4], [_, _, _, _, _, _, _, .any, _, .any, .any], _), ([6, 0, 4], [_, _, _, _, _, _, _, .any, _, .any, .any], _), ([0, 4, 6, 7], [_, _, _, _, _, _, _, _, _, .any, .any], _), ([0, 6, 4, 7], [_, _, _, _, _, _, _, _, _, .any, .any], _), ([6, 0, 4, 7], [_, _, _, _, _, _, _, _, _, .any, .any], _), ([0, 4, 6, 7, 9], [_, _, _, _, _, _, _, _, _, _, _], _), ([0, 6, 4, 7, 9], [_, _, _, _, _, _, _, _, _, _, _], _), ([6, 0, 4, 7, 9], [_, _, _, _, _, _, _, _, _, _, _], _)] [(true, 0, [], [_, _, _, _, .any, _, .any, .any, _, .any, .any], _, _), (false, 1, [], [.any, _, _, _, .any, _, .any, .any, _, .any, .any], _, []), (false, 2, [], [.any, _, _, _, .any, _, .any, .any, _, .any, .any], _, []), (false, 3, [], [.any, _, _, _, .any, _, .any, .any, _, .any, .any], _, []), (false, 5, [], [.any, _, _, _, .any, _, .any, .any, _, .any, .any], _, []), (true, 6, [], [.any, _, _, _, .any, _, _, .any, _, .any, .any], _, _), (false, 8, [], [.any, _, _, _, .any, _, .any, .any, _, .any, .any], _, []), (false, 1, [0], [_, _, _, _, .any, _, .any, .any, _, .any, .any], _, []), (false, 2, [0], [_, _, _, _, .any, _, .any, .any, _, .any, .any], _, []), (false, 3, [0], [_, _, _, _, .any, _, .any, .any, _, .any, .any], _, []), (true, 4, [0], [_, _, _, _, _, _, .any, .any, _, .any, .any], _, _), (false, 5, [0], [_, _, _, _, .any, _, .any, .any, _, .any, .any], _, []), (true, 6, [0], [_, _, _, _, .any, _, _, .any, _, .any, .any], _, _), (false, 8, [0], [_, _, _, _, .any, _, .any, .any, _, .any, .any], _, []), (true, 0, [6], [_, _, _, _, .any, _, _, .any, _, .any, .any], _, _), (false, 1, [6], [.any, _, _, _, .any, _, _, .any, _, .any, .any], _, []), (false, 2, [6], [.any, _, _, _, .any, _, _, .any, _, .any, .any], _, []), (false, 3, [6], [.any, _, _, _, .any, _, _, .any, _, .any, .any], _, []), (false, 8, [6], [.any, _, _, _, .any, _, _, .any, _, .any, .any], _, []), (false, 5, [0, 4], [_, _, _, _, _, _, .any, .any, _, .any, .any], _, []), (true, 6, [0, 4], [_, _, _, _, _, _, _, .any, _, .any, .any], _, _), (false, 8, [0, 4], [_, _, _, _, _, _, .any, .any, _, .any, .any], _, []), (false, 1, [0, 6], [_, _, _, _, .any, _, _, .any, _, .any, .any], _, []), (false, 2, [0, 6], [_, _, _, _, .any, _, _, .any, _, .any, .any], _, []), (false, 3, [0, 6], [_, _, _, _, .any, _, _, .any, _, .any, .any], _, []), (true, 4, [0, 6], [_, _, _, _, _, _, _, .any, _, .any, .any], _, _), (false, 8, [0, 6], [_, _, _, _, .any, _, _, .any, _, .any, .any], _, []), (false, 1, [6, 0], [_, _, _, _, .any, _, _, .any, _, .any, .any], _, []), (false, 2, [6, 0], [_, _, _, _, .any, _, _, .any, _, .any, .any], _, []), (false, 3, [6, 0], [_, _, _, _, .any, _, _, .any, _, .any, .any], _, []), (true, 4, [6, 0], [_, _, _, _, _, _, _, .any, _, .any, .any], _, _), (false, 8, [6, 0], [_, _, _, _, .any, _, _, .any, _, .any, .any], _, []), (true, 7, [0, 4, 6], [_, _, _, _, _, _, _, _, _, .any, .any], _, _), (false, 8, [0, 4, 6], [_, _, _, _, _, _, _, .any, _, .any, .any], _, []), (true, 7, [0, 6, 4], [_, _, _, _, _, _, _, _, _, .any, .any], _, _), (false, 8, [0, 6, 4], [_, _, _, _, _, _, _, .any, _, .any, .any], _, []), (true, 7, [6, 0, 4], [_, _, _, _, _, _, _, _, _, .any, .any], _, _), (false, 8, [6, 0, 4], [_, _, _, _, _, _, _, .any, _, .any, .any], _, []), (false, 8, [0, 4, 6, 7], [_, _, _, _, _, _, _, _, _, .any, .any], _, []), (true, 9, [0, 4, 6, 7], [_, _, _, _, _, _, _, _, _, _, _], _, _), (false, 8, [0, 6, 4, 7], [_, _, _, _, _, _, _, _, _, .any, .any], _, []), (true, 9, [0, 6, 4, 7], [_, _, _, _, _, _, _, _, _, _, _], _, _), (false, 8, [6, 0, 4, 7], [_, _, _, _, _, _, _, _, _, .any, .any], _, []), (true, 9, [6, 0, 4, 7], [_, _, _, _, _, _, _, _, _, _, _], _, _), (false, 10, [0, 4, 6, 7, 9], [_, _, _, _, _, _, _, _, _, _, _], _, []), (false, 10, [0, 6, 4, 7, 9], [_, _, _, _, _, _, _, _, _, _, _], _, []), (false, 10, [6, 0, 4, 7, 9], [_, _, _, _, _, _, _, _, _, _, _], _, [])] [(0, [], [true, false, false, false, true, false, false, true, false, true, true], [_, _, _, _, .any, _, .any, .any, _, .any, .any], _, [.any, _, _, _, .any, _, .any, .any, _, .any, .any], _), (6, [], [false, false, false, false, false, false, true, true, false, true, true], [.any, _, _, _, .any, _, _, .any, _, .any, .any], _, [.any, _, _, _, .any, _, .any, .any, _, .any, .any], _), (4, [0], [false, false, false, false, true, false, false, true, false, true, true], [_, _, _, _, _, _, .any, .any, _, .any, .any], _, [_, _, _, _, .any, _, .any, .any, _, .any, .any], _), (6, [0], [false, false, false, false, false, false, true, true, false, true, true], [_, _, _, _, .any, _, _, .any, _, .any, .any], _, [_, _, _, _, .any, _, .any, .any, _, .any, .any], _), (0, [6], [true, false, false, false, true, false, false, true, false, true, true], [_, _, _, _, .any, _, _, .any, _, .any, .any], _, [.any, _, _, _, .any, _, _, .any, _, .any, .any], _), (6, [0, 4], [false, false, false, false, false, false, true, true, false, true, true], [_, _, _, _, _, _, _, .any, _, .any, .any], _, [_, _, _, _, _, _, .any, .any, _, .any, .any], _), (4, [0, 6], [false, false, false, false, true, false, false, true, false, true, true], [_, _, _, _, _, _, _, .any, _, .any, .any], _, [_, _, _, _, .any, _, _, .any, _, .any, .any], _), (4, [6, 0], [false, false, false, false, true, false, false, true, false, true, true], [_, _, _, _, _, _, _, .any, _, .any, .any], _, [_, _, _, _, .any, _, _, .any, _, .any, .any], _), (7, [0, 4, 6], [false, false, false, false, false, false, false, true, false, true, true], [_, _, _, _, _, _, _, _, _, .any, .any], _, [_, _, _, _, _, _, _, .any, _, .any, .any], _), (7, [0, 6, 4], [false, false, false, false, false, false, false, true, false, true, true], [_, _, _, _, _, _, _, _, _, .any, .any], _, [_, _, _, _, _, _, _, .any, _, .any, .any], _), (7, [6, 0, 4], [false, false, false, false, false, false, false, true, false, true, true], [_, _, _, _, _, _, _, _, _, .any, .any], _, [_, _, _, _, _, _, _, .any, _, .any, .any], _), (9, [0, 4, 6, 7], [false, false, false, false, false, false, false, false, false, true, true], [_, _, _, _, _, _, _, _, _, _, _], _, [_, _, _, _, _, _, _, _, _, .any, .any], _), (9, [0, 6, 4, 7], [false, false, false, false, false, false, false, false, false, true, true], [_, _, _, _, _, _, _, _, _, _, _], _, [_, _, _, _, _, _, _, _, _, .any, .any], _), (9, [6, 0, 4, 7], [false, false, false, false, false, false, false, false, false, true, true], [_, _, _, _, _, _, _, _, _, _, _], _, [_, _, _, _, _, _, _, _, _, .any, .any], _)] rfl rfl rfl (by repeat' (first | exact trivial | rfl | refine And.intro ?_ ?_)) (by repeat' (first | exact trivial | rfl | refine And.intro ?_ ?_)) (by repeat' (first | exact trivial | refine And.intro ?_ ?_ | exact bS | exact bX | exact bZ | exact bI | fail)) ?_
        | refine eF_c ?_ ?_
        | exact eF_n
        | refine eF_e ?_
        | fail)
      refine pE [] ?_
      exact fzE (by simp) (by first | (simp; omega) | simp)
    · refine wF 4 ?_
      repeat' (first
        | refine IOps_nil ?_
        | refine oS ?_
        | refine IOps_s rfl rfl ?_
        | refine oT ?_
        | refine IOps_s0 rfl ?_
        | refine oZ ?_
        | refine oI ?_
        | refine thenI_n ?_
        | refine IWP_seq ?_
        | refine IWP_region ?_
        | refine IWP_ct rfl ?_
        | refine IWP_cf rfl ?_
        | refine IWP_skip ?_
        | refine IWP_ret ?_
        | refine IWP_block ?_
        | refine inB_n ?_
        | refine thenI_r ?_
        | refine thenI_e ?_
        | refine inB_r ?_
        | refine inB_hit ?_
        | refine inB_miss rfl ?_
        | refine IWP_exit ?_
        | refine IWP_scope ?_
        | refine IWP_label ?_
        | refine noG_n ?_
        | refine noG_r ?_
        | refine noG_e ?_
        | refine jmp_n ?_
        | refine jmp_r ?_
        | refine jmp_e ?_
        | refine jmp_g ?_
        | refine thenI_g ?_
        | refine inB_g ?_
        | refine IWP_goto ?_
        | refine Loop_n ?_
        | refine oD (id := 3) W30_3 [] O30_3 [_, _, _, _, _, _, _, _, _, _, _, _] [_] rfl (by repeat' (first | exact trivial | refine And.intro ?_ ?_ | exact bS | exact bX | exact bZ | exact bI | fail)) ?_
        | refine oDt (id := 6) [[], [], [], [1, 2], [0, 3, 1, 2], [], [5], [4, 0, 3, 1, 2, 6, 5], [], [7, 4, 0, 3, 1, 2, 6, 5, 8], [9, 7, 4, 0, 3, 1, 2, 6, 5, 8]] [0, 4, 6, 7, 9] [[], [0], [6], [0, 4], [0, 6], [6, 0], [0, 4, 6], [0, 6, 4], [6, 0, 4], [0, 4, 6, 7], [0, 6, 4, 7], [6, 0, 4, 7], [0, 4, 6, 7, 9], [0, 6, 4, 7, 9], [6, 0, 4, 7, 9]] [(0, [], [true, false, false, false, true, false, false, true, false, true, true]), (6, [], [false, false, false, false, false, false, true, true, false, true, true]), (4, [0], [false, false, false, false, true, false, false, true, false, true, true]), (6, [0], [false, false, false, false, false, false, true, true, false, true, true]), (0, [6], [true, false, false, false, true, false, false, true, false, true, true]), (6, [0, 4], [false, false, false, false, false, false, true, true, false, true, true]), (4, [0, 6], [false, false, false, false, true, false, false, true, false, true, true]), (4, [6, 0], [false, false, false, false, true, false, false, true, false, true, true]), (7, [0, 4, 6], [false, false, false, false, false, false, false, true, false, true, true]), (7, [0, 6, 4], [false, false, false, false, false, false, false, true, false, true, true]), (7, [6, 0, 4], [false, false, false, false, false, false, false, true, false, true, true]), (9, [0, 4, 6, 7], [false, false, false, false, false, false, false, false, false, true, true]), (9, [0, 6, 4, 7], [false, false, false, false, false, false, false, false, false, true, true]), (9, [6, 0, 4, 7], [false, false, false, false, false, false, false, false, false, true, true])] [[0, 4, 6, 7, 9], [0, 6, 4, 7, 9], [6, 0, 4, 7, 9]] [(true, 0, []), (false, 1, []), (false, 2, []), (false, 3, []), (false, 5, []), (true, 6, []), (false, 8, []), (false, 1, [0]), (false, 2, [0]), (false, 3, [0]), (true, 4, [0]), (false, 5, [0]), (true, 6, [0]), (false, 8, [0]), (true, 0, [6]), (false, 1, [6]), (false, 2, [6]), (false, 3, [6]), (false, 8, [6]), (false, 5, [0, 4]), (true, 6, [0, 4]), (false, 8, [0, 4]), (false, 1, [0, 6]), (false, 2, [0, 6]), (false, 3, [0, 6]), (true, 4, [0, 6]), (false, 8, [0, 6]), (false, 1, [6, 0]), (false, 2, [6, 0]), (false, 3, [6, 0]), (true, 4, [6, 0]), (false, 8, [6, 0]), (true, 7, [0, 4, 6]), (false, 8, [0, 4, 6]), (true, 7, [0, 6, 4]), (false, 8, [0, 6, 4]), (true, 7, [6, 0, 4]), (false, 8, [6, 0, 4]), (false, 8, [0, 4, 6, 7]), (true, 9, [0, 4, 6, 7]), (false, 8, [0, 6, 4, 7]), (true, 9, [0, 6, 4, 7]), (false, 8, [6, 0, 4, 7]), (true, 9, [6, 0, 4, 7]), (false, 10, [0, 4, 6, 7, 9]), (false, 10, [0, 6, 4, 7, 9]), (false, 10, [6, 0, 4, 7, 9])] [([], [.any, _, _, _, .any, _, .any, .any, _, .any, .any], _), ([0], [_, _, _, _, .any, _, .any, .any, _, .any, .any], _), ([6], [.any, _, _, _, .any, _, _, .any, _, .any, .any], _), ([0, 4], [_, _, _, _, _, _, .any, .any, _, .any, .any], _), ([0, 6], [_, _, _, _, .any, _, _, .any, _, .any, .any], _), ([6, 0], [_, _, _, _, .any, _, _, .any, _, .any, .any], _), ([0, 4, 6], [_, _, _, _, _, _, _, .any, _, .any, .any], _), ([0, 6, 4], [_, _, _, _, _, _, _, .any, _, .any, .any], _), ([6, 0, 4], [_, _, _, _, _, _, _, .any, _, .any, .any], _), ([0, 4, 6, 7], [_, _, _, _, _, _, _, _, _, .any, .any], _), ([0, 6, 4, 7], [_, _, _, _, _, _, _, _, _, .any, .any], _), ([6, 0, 4, 7], [_, _, _, _, _, _, _, _, _, .any, .any], _), ([0, 4, 6, 7, 9], [_, _, _, _, _, _, _, _, _, _, _], _), ([0, 6, 4, 7, 9], [_, _, _, _, _, _, _, _, _, _, _], _), ([6, 0, 4, 7, 9], [_, _, _, _, _, _, _, _, _, _, _], _)] [(true, 0, [], [_, _, _, _, .any, _, .any, .any, _, .any, .any], _, _), (false, 1, [], [.any, _, _, _, .any, _, .any, .any, _, .any, .any], _, []), (false, 2, [], [.any, _, _, _, .any, _, .any, .any, _, .any, .any], _, []), (false, 3, [], [.any, _, _, _, .any, _, .any, .any, _, .any, .any], _, []), (false, 5, [], [.any, _, _, _, .any, _, .any, .any, _, .any, .any], _, []), (true, 6, [], [.any, _, _, _, .any, _, _, .any, _, .any, .any], _, _), (false, 8, [], [.any, _, _, _, .any, _, .any, .any, _, .any, .any], _, []), (false, 1, [0], [_, _, _, _, .any, _, .any, .any, _, .any, .any], _, []), (false, 2, [0], [_, _, _, _, .any, _, .any, .any, _, .any, .any], _, []), (false, 3, [0], [_, _, _, _, .any, _, .any, .any, _, .any, .any], _, []), (true, 4, [0], [_, _, _, _, _, _, .any, .any, _, .any, .any], _, _), (false, 5, [0], [_, _, _, _, .any, _, .any, .any, _, .any, .any], _, []), (true, 6, [0], [_, _, _, _, .any, _, _, .any, _, .any, .any], _, _), (false, 8, [0], [_, _, _, _, .any, _, .any, .any, _, .any, .any], _, []), (true, 0, [6], [_, _, _, _, .any, _, _, .any, _, .any, .any], _, _), (false, 1, [6], [.any, _, _, _, .any, _, _, .any, _, .any, .any], _, []), (false, 2, [6], [.any, _, _, _, .any, _, _, .any, _, .any, .any], _, []), (false, 3, [6], [.any, _, _, _, .any, _, _, .any, _, .any, .any], _, []), (false, 8, [6], [.any, _, _, _, .any, _, _, .any, _, .any, .any], _, []), (false, 5, [0, 4], [_, _, _, _, _, _, .any, .any, _, .any, .any], _, []), (true, 6, [0, 4], [_, _, _, _, _, _, _, .any, _, .any, .any], _, _), (false, 8, [0, 4], [_, _, _, _, _, _, .any, .any, _, .any, .any], _, []), (false, 1, [0, 6], [_, _, _, _, .any, _, _, .any, _, .any, .any], _, []), (false, 2, [0, 6], [_, _, _, _, .any, _, _, .any, _, .any, .any], _, []), (false, 3, [0, 6], [_, _, _, _, .any, _, _, .any, _, .any, .any], _, []), (true, 4, [0, 6], [_, _, _, _, _, _, _, .any, _, .any, .any], _, _), (false, 8, [0, 6], [_, _, _, _, .any, _, _, .any, _, .any, .any], _, []), (false, 1, [6, 0], [_, _, _, _, .any, _, _, .any, _, .any, .any], _, []), (false, 2, [6, 0], [_, _, _, _, .any, _, _, .any, _, .any, .any], _, []), (false, 3, [6, 0], [_, _, _, _, .any, _, _, .any, _, .any, .any], _, []), (true, 4, [6, 0], [_, _, _, _, _, _, _, .any, _, .any, .any], _, _), (false, 8, [6, 0], [_, _, _, _, .any, _, _, .any, _, .any, .any], _, []), (true, 7, [0, 4, 6], [_, _, _, _, _, _, _, _, _, .any, .any], _, _), (false, 8, [0, 4, 6], [_, _, _, _, _, _, _, .any, _, .any, .any], _, []), (true, 7, [0, 6, 4], [_, _, _, _, _, _, _, _, _, .any, .any], _, _), (false, 8, [0, 6, 4], [_, _, _, _, _, _, _, .any, _, .any, .any], _, []), (true, 7, [6, 0, 4], [_, _, _, _, _, _, _, _, _, .any, .any], _, _), (false, 8, [6, 0, 4], [_, _, _, _, _, _, _, .any, _, .any, .any], _, []), (false, 8, [0, 4, 6, 7], [_, _, _, _, _, _, _, _, _, .any, .any], _, []), (true, 9, [0, 4, 6, 7], [_, _, _, _, _, _, _, _, _, _, _], _, _), (false, 8, [0, 6, 4, 7], [_, _, _, _, _, _, _, _, _, .any, .any], _, []), (true, 9, [0, 6, 4, 7], [_, _, _, _, _, _, _, _, _, _, _], _, _), (false, 8, [6, 0, 4, 7], [_, _, _, _, _, _, _, _, _, .any, .any], _, []), (true, 9, [6, 0, 4, 7], [_, _, _, _, _, _, _, _, _, _, _], _, _), (false, 10, [0, 4, 6, 7, 9], [_, _, _, _, _, _, _, _, _, _, _], _, []), (false, 10, [0, 6, 4, 7, 9], [_, _, _, _, _, _, _, _, _, _, _], _, []), (false, 10, [6, 0, 4, 7, 9], [_, _, _, _, _, _, _, _, _, _, _], _, [])] [(0, [], [true, false, false, false, true, false, false, true, false, true, true], [_, _, _, _, .any, _, .any, .any, _, .any, .any], _, [.any, _, _, _, .any, _, .any, .any, _, .any, .any], _), (6, [], [false, false, false, false, false, false, true, true, false, true, true], [.any, _, _, _, .any, _, _, .any, _, .any, .any], _, [.any, _, _, _, .any, _, .any, .any, _, .any, .any], _), (4, [0], [false, false, false, false, true, false, false, true, false, true, true], [_, _, _, _, _, _, .any, .any, _, .any, .any], _, [_, _, _, _, .any, _, .any, .any, _, .any, .any], _), (6, [0], [false, false, false, false, false, false, true, true, false, true, true], [_, _, _, _, .any, _, _, .any, _, .any, .any], _, [_, _, _, _, .any, _, .any, .any, _, .any, .any], _), (0, [6], [true, false, false, false, true, false, false, true, false, true, true], [_, _, _, _, .any, _, _, .any, _, .any, .any], _, [.any, _, _, _, .any, _, _, .any, _, .any, .any], _), (6, [0, 4], [false, false, false, false, false, false, true, true, false, true, true], [_, _, _, _, _, _, _, .any, _, .any, .any], _, [_, _, _, _, _, _, .any, .any, _, .any, .any], _), (4, [0, 6], [false, false, false, false, true, false, false, true, false, true, true], [_, _, _, _, _, _, _, .any, _, .any, .any], _, [_, _, _, _, .any, _, _, .any, _, .any, .any], _), (4, [6, 0], [false, false, false, false, true, false, false, true, false, true, true], [_, _, _, _, _, _, _, .any, _, .any, .any], _, [_, _, _, _, .any, _, _, .any, _, .any, .any], _), (7, [0, 4, 6], [false, false, false, false, false, false, false, true, false, true, true], [_, _, _, _, _, _, _, _, _, .any, .any], _, [_, _, _, _, _, _, _, .any, _, .any, .any], _), (7, [0, 6, 4], [false, false, false, false, false, false, false, true, false, true, true], [_, _, _, _, _, _, _, _, _, .any, .any], _, [_, _, _, _, _, _, _, .any, _, .any, .any], _), (7, [6, 0, 4], [false, false, false, false, false, false, false, true, false, true, true], [_, _, _, _, _, _, _, _, _, .any, .any], _, [_, _, _, _, _, _, _, .any, _, .any, .any], _), (9, [0, 4, 6, 7], [false, false, false, false, false, false, false, false, false, true, true], [_, _, _, _, _, _, _, _, _, _, _], _, [_, _, _, _, _, _, _, _, _, .any, .any], _), (9, [0, 6, 4, 7], [false, false, false, false, false, false, false, false, false, true, true], [_, _, _, _, _, _, _, _, _, _, _], _, [_, _, _, _, _, _, _, _, _, .any, .any], _), (9, [6, 0, 4, 7], [false, false, false, false, false, false, false, false, false, true, true], [_, _, _, _, _, _, _, _, _, _, _], _, [_, _, _, _, _, _, _, _, _, .any, .any], _)] rfl rfl rfl (by repeat' (first | exact trivial | rfl | refine And.intro ?_ ?_)) (by repeat' (first | exact trivial | rfl | refine And.intro ?_ ?_)) (by repeat' (first | exact trivial | refine And.intro ?_ ?_ | exact bS | exact bX | exact bZ | exact bI | fail)) ?_
        | refine eF_c ?_ ?_
        | exact eF_n
        | refine eF_e ?_
        | fail)
      refine pE [] ?_
      exact fzE (by simp) (by first | (simp; omega) | simp)
    · refine wF 4 ?_
      repeat' (first
        | refine IOps_nil ?_
        | refine oS ?_
        | refine IOps_s rfl rfl ?_
        | refine oT ?_
        | refine IOps_s0 rfl ?_
        | refine oZ ?_
        | refine oI ?_
        | refine thenI_n ?_
        | refine IWP_seq ?_
        | refine IWP_region ?_
        | refine IWP_ct rfl ?_
        | refine IWP_cf rfl ?_
        | refine IWP_skip ?_
        | refine IWP_ret ?_
        | refine IWP_block ?_
        | refine inB_n ?_
        | refine thenI_r ?_
        | refine thenI_e ?_
        | refine inB_r ?_
        | refine inB_hit ?_
        | refine inB_miss rfl ?_
        | refine IWP_exit ?_
        | refine IWP_scope ?_
        | refine IWP_label ?_
        | refine noG_n ?_
        | refine noG_r ?_
        | refine noG_e ?_
        | refine jmp_n ?_
        | refine jmp_r ?_
        | refine jmp_e ?_
        | refine jmp_g ?_
        | refine thenI_g ?_
        | refine inB_g ?_
        | refine IWP_goto ?_
        | refine Loop_n ?_
        | refine oD (id := 3) W30_3 [] O30_3 [_, _, _, _, _, _, _, _, _, _, _, _] [_] rfl (by repeat' (first | exact trivial | refine And.intro ?_ ?_ | exact bS | exact bX | exact bZ | exact bI | fail)) ?_
        | refine oDt (id := 6) [[], [], [], [1, 2], [0, 3, 1, 2], [], [5], [4, 0, 3, 1, 2, 6, 5], [], [7, 4, 0, 3, 1, 2, 6, 5, 8], [9, 7, 4, 0, 3, 1, 2, 6, 5, 8]] [0, 4, 6, 7, 9] [[], [0], [6], [0, 4], [0, 6], [6, 0], [0, 4, 6], [0, 6, 4], [6, 0, 4], [0, 4, 6, 7], [0, 6, 4, 7], [6, 0, 4, 7], [0, 4, 6, 7, 9], [0, 6, 4, 7, 9], [6, 0, 4, 7, 9]] [(0, [], [true, false, false, false, true, false, false, true, false, true, true]), (6, [], [false, false, false, false, false, false, true, true, false, true, true]), (4, [0], [false, false, false, false, true, false, false, true, false, true, true]), (6, [0], [false, false, false, false, false, false, true, true, false, true, true]), (0, [6], [true, false, false, false, true, false, false, true, false, true, true]), (6, [0, 4], [false, false, false, false, false, false, true, true, false, true, true]), (4, [0, 6], [false, false, false, false, true, false, false, true, false, true, true]), (4, [6, 0], [false, false, false, false, true, false, false, true, false, true, true]), (7, [0, 4, 6], [false, false, false, false, false, false, false, true, false, true, true]), (7, [0, 6, 4], [false, false, false, false, false, false, false, true, false, true, true]), (7, [6, 0, 4], [false, false, false, false, false, false, false, true, false, true, true]), (9, [0, 4, 6, 7], [false, false, false, false, false, false, false, false, false, true, true]), (9, [0, 6, 4, 7], [false, false, false, false, false, false, false, false, false, true, true]), (9, [6, 0, 4, 7], [false, false, false, false, false, false, false, false, false, true, true])] [[0, 4, 6, 7, 9], [0, 6, 4, 7, 9], [6, 0, 4, 7, 9]] [(true, 0, []), (false, 1, []), (false, 2, []), (false, 3, []), (false, 5, []), (true, 6, []), (false, 8, []), (false, 1, [0]), (false, 2, [0]), (false, 3, [0]), (true, 4, [0]), (false, 5, [0]), (true, 6, [0]), (false, 8, [0]), (true, 0, [6]), (false, 1, [6]), (false, 2, [6]), (false, 3, [6]), (false, 8, [6]), (false, 5, [0, 4]), (true, 6, [0, 4]), (false, 8, [0, 4]), (false, 1, [0, 6]), (false, 2, [0, 6]), (false, 3, [0, 6]), (true, 4, [0, 6]), (false, 8, [0, 6]), (false, 1, [6, 0]), (false, 2, [6, 0]), (false, 3, [6, 0]), (true, 4, [6, 0]), (false, 8, [6, 0]), (true, 7, [0, 4, 6]), (false, 8, [0, 4, 6]), (true, 7, [0, 6, 4]), (false, 8, [0, 6, 4]), (true, 7, [6, 0, 4]), (false, 8, [6, 0, 4]), (false, 8, [0, 4, 6, 7]), (true, 9, [0, 4, 6, 7]), (false, 8, [0, 6, 4, 7]), (true, 9, [0, 6, 4, 7]), (false, 8, [6, 0, 4, 7]), (true, 9, [6, 0, 4, 7]), (false, 10, [0, 4, 6, 7, 9]), (false, 10, [0, 6, 4, 7, 9]), (false, 10, [6, 0, 4, 7, 9])] [([], [.any, _, _, _, .any, _, .any, .any, _, .any, .any], _), ([0], [_, _, _, _, .any, _, .any, .any, _, .any, .any], _), ([6], [.any, _, _, _, .any, _, _, .any, _, .any, .any], _), ([0, 4], [_, _, _, _, _, _, .any, .any, _, .any, .any], _), ([0, 6], [_, _, _, _, .any, _, _, .any, _, .any, .any], _), ([6, 0], [_, _, _, _, .any, _, _, .any, _, .any, .any], _), ([0, 4, 6], [_, _, _, _, _, _, _, .any, _, .any, .any], _), ([0, 6, 4], [_, _, _, _, _, _, _, .any, _, .any, .any], _), ([6, 0, 4], [_, _, _, _, _, _, _, .any, _, .any, .any], _), ([0, 4, 6, 7], [_, _, _, _, _, _, _, _, _, .any, .any], _), ([0, 6, 4, 7], [_, _, _, _, _, _, _, _, _, .any, .any], _), ([6, 0, 4, 7], [_, _, _, _, _, _, _, _, _, .any, .any], _), ([0, 4, 6, 7, 9], [_, _, _, _, _, _, _, _, _, _, _], _), ([0, 6, 4, 7, 9], [_, _, _, _, _, _, _, _, _, _, _], _), ([6, 0, 4, 7, 9], [_, _, _, _, _, _, _, _, _, _, _], _)] [(true, 0, [], [_, _, _, _, .any, _, .any, .any, _, .any, .any], _, _), (false, 1, [], [.any, _, _, _, .any, _, .any, .any, _, .any, .any], _, []), (false, 2, [], [.any, _, _, _, .any, _, .any, .any, _, .any, .any], _, []), (false, 3, [], [.any, _, _, _, .any, _, .any, .any, _, .any, .any], _, []), (false, 5, [], [.any, _, _, _, .any, _, .any, .any, _, .any, .any], _, []), (true, 6, [], [.any, _, _, _, .any, _, _, .any, _, .any, .any], _, _), (false, 8, [], [.any, _, _, _, .any, _, .any, .any, _, .any, .any], _, []), (false, 1, [0], [_, _, _, _, .any, _, .any, .any, _, .any, .any], _, []), (false, 2, [0], [_, _, _, _, .any, _, .any, .any, _, .any, .any], _, []), (false, 3, [0], [_, _, _, _, .any, _, .any, .any, _, .any, .any], _, []), (true, 4, [0], [_, _, _, _, _, _, .any, .any, _, .any, .any], _, _), (false, 5, [0], [_, _, _, _, .any, _, .any, .any, _, .any, .any], _, []), (true, 6, [0], [_, _, _, _, .any, _, _, .any, _, .any, .any], _, _), (false, 8, [0], [_, _, _, _, .any, _, .any, .any, _, .any, .any], _, []), (true, 0, [6], [_, _, _, _, .any, _, _, .any, _, .any, .any], _, _), (false, 1, [6], [.any, _, _, _, .any, _, _, .any, _, .any, .any], _, []), (false, 2, [6], [.any, _, _, _, .any, _, _, .any, _, .any, .any], _, []), (false, 3, [6], [.any, _, _, _, .any, _, _, .any, _, .any, .any], _, []), (false, 8, [6], [.any, _, _, _, .any, _, _, .any, _, .any, .any], _, []), (false, 5, [0, 4], [_, _, _, _, _, _, .any, .any, _, .any, .any], _, []), (true, 6, [0, 4], [_, _, _, _, _, _, _, .any, _, .any, .any], _, _), (false, 8, [0, 4], [_, _, _, _, _, _, .any, .any, _, .any, .any], _, []), (false, 1, [0, 6], [_, _, _, _, .any, _, _, .any, _, .any, .any], _, []), (false, 2, [0, 6], [_, _, _, _, .any, _, _, .any, _, .any, .any], _, []), (false, 3, [0, 6], [_, _, _, _, .any, _, _, .any, _, .any, .any], _, []), (true, 4, [0, 6], [_, _, _, _, _, _, _, .any, _, .any, .any], _, _), (false, 8, [0, 6], [_, _, _, _, .any, _, _, .any, _, .any, .any], _, []), (false, 1, [6, 0], [_, _, _, _, .any, _, _, .any, _, .any, .any], _, []), (false, 2, [6, 0], [_, _, _, _, .any, _, _, .any, _, .any, .any], _, []), (false, 3, [6, 0], [_, _, _, _, .any, _, _, .any, _, .any, .any], _, []), (true, 4, [6, 0], [_, _, _, _, _, _, _, .any, _, .any, .any], _, _), (false, 8, [6, 0], [_, _, _, _, .any, _, _, .any, _, .any, .any], _, []), (true, 7, [0, 4, 6], [_, _, _, _, _, _, _, _, _, .any, .any], _, _), (false, 8, [0, 4, 6], [_, _, _, _, _, _, _, .any, _, .any, .any], _, []), (true, 7, [0, 6, 4], [_, _, _, _, _, _, _, _, _, .any, .any], _, _), (false, 8, [0, 6, 4], [_, _, _, _, _, _, _, .any, _, .any, .any], _, []), (true, 7, [6, 0, 4], [_, _, _, _, _, _, _, _, _, .any, .any], _, _), (false, 8, [6, 0, 4], [_, _, _, _, _, _, _, .any, _, .any, .any], _, []), (false, 8, [0, 4, 6, 7], [_, _, _, _, _, _, _, _, _, .any, .any], _, []), (true, 9, [0, 4, 6, 7], [_, _, _, _, _, _, _, _, _, _, _], _, _), (false, 8, [0, 6, 4, 7], [_, _, _, _, _, _, _, _, _, .any, .any], _, []), (true, 9, [0, 6, 4, 7], [_, _, _, _, _, _, _, _, _, _, _], _, _), (false, 8, [6, 0, 4, 7], [_, _, _, _, _, _, _, _, _, .any, .any], _, []), (true, 9, [6, 0, 4, 7], [_, _, _, _, _, _, _, _, _, _, _], _, _), (false, 10, [0, 4, 6, 7, 9], [_, _, _, _, _, _, _, _, _, _, _], _, []), (false, 10, [0, 6, 4, 7, 9], [_, _, _, _, _, _, _, _, _, _, _], _, []), (false, 10, [6, 0, 4, 7, 9], [_, _, _, _, _, _, _, _, _, _, _], _, [])] [(0, [], [true, false, false, false, true, false, false, true, false, true, true], [_, _, _, _, .any, _, .any, .any, _, .any, .any], _, [.any, _, _, _, .any, _, .any, .any, _, .any, .any], _), (6, [], [false, false, false, false, false, false, true, true, false, true, true], [.any, _, _, _, .any, _, _, .any, _, .any, .any], _, [.any, _, _, _, .any, _, .any, .any, _, .any, .any], _), (4, [0], [false, false, false, false, true, false, false, true, false, true, true], [_, _, _, _, _, _, .any, .any, _, .any, .any], _, [_, _, _, _, .any, _, .any, .any, _, .any, .any], _), (6, [0], [false, false, false, false, false, false, true, true, false, true, true], [_, _, _, _, .any, _, _, .any, _, .any, .any], _, [_, _, _, _, .any, _, .any, .any, _, .any, .any], _), (0, [6], [true, false, false, false, true, false, false, true, false, true, true], [_, _, _, _, .any, _, _, .any, _, .any, .any], _, [.any, _, _, _, .any, _, _, .any, _, .any, .any], _), (6, [0, 4], [false, false, false, false, false, false, true, true, false, true, true], [_, _, _, _, _, _, _, .any, _, .any, .any], _, [_, _, _, _, _, _, .any, .any, _, .any, .any], _), (4, [0, 6], [false, false, false, false, true, false, false, true, false, true, true], [_, _, _, _, _, _, _, .any, _, .any, .any], _, [_, _, _, _, .any, _, _, .any, _, .any, .any], _), (4, [6, 0], [false, false, false, false, true, false, false, true, false, true, true], [_, _, _, _, _, _, _, .any, _, .any, .any], _, [_, _, _, _, .any, _, _, .any, _, .any, .any], _), (7, [0, 4, 6], [false, false, false, false, false, false, false, true, false, true, true], [_, _, _, _, _, _, _, _, _, .any, .any], _, [_, _, _, _, _, _, _, .any, _, .any, .any], _), (7, [0, 6, 4], [false, false, false, false, false, false, false, true, false, true, true], [_, _, _, _, _, _, _, _, _, .any, .any], _, [_, _, _, _, _, _, _, .any, _, .any, .any], _), (7, [6, 0, 4], [false, false, false, false, false, false, false, true, false, true, true], [_, _, _, _, _, _, _, _, _, .any, .any], _, [_, _, _, _, _, _, _, .any, _, .any, .any], _), (9, [0, 4, 6, 7], [false, false, false, false, false, false, false, false, false, true, true], [_, _, _, _, _, _, _, _, _, _, _], _, [_, _, _, _, _, _, _, _, _, .any, .any], _), (9, [0, 6, 4, 7], [false, false, false, false, false, false, false, false, false, true, true], [_, _, _, _, _, _, _, _, _, _, _], _, [_, _, _, _, _, _, _, _, _, .any, .any], _), (9, [6, 0, 4, 7], [false, false, false, false, false, false, false, false, false, true, true], [_, _, _, _, _, _, _, _, _, _, _], _, [_, _, _, _, _, _, _, _, _, .any, .any], _)] rfl rfl rfl (by repeat' (first | exact trivial | rfl | refine And.intro ?_ ?_)) (by repeat' (first | exact trivial | rfl | refine And.intro ?_ ?_)) (by repeat' (first | exact trivial | refine And.intro ?_ ?_ | exact bS | exact bX | exact bZ | exact bI | fail)) ?_
        | refine eF_c ?_ ?_
        | exact eF_n
        | refine eF_e ?_
        | fail)
      refine pE [] ?_
      exact fzE (by simp) (by first | (simp; omega) | simp)
end Go.Proofs.Ytnlelckfhlcbgaa

namespace Go.Proofs.Ytnlelckfhlcbgaa
open Go Go.Idl
set_option linter.unusedSimpArgs false
set_option linter.unusedVariables false
set_option maxRecDepth 100000
set_option maxHeartbeats 1000000
attribute [local irreducible] Go.Idl.IWP Go.Idl.IOps Go.Idl.Obl Go.Idl.OpG Go.Idl.thenI Go.Idl.inBlockI Go.Idl.LoopU Go.Idl.noGotoI Go.Idl.jumpI
attribute [local go_sem] List.length_set
structure St where
  drop : Bool
  id : Int
  pri : Int
  seq : Int
  deriving DecidableEq
instance : Inhabited St := ⟨⟨false, 0, 0, 0⟩⟩
def stRc : Rc St := ⟨fun x => [.sc (.bool x.drop), .sc (.int .i64 x.id), .sc (.int .u64 x.pri), .sc (.int .u64 x.seq)], 4, fun _ => rfl⟩
def steps (l : List St) : List IV := fl stRc l
section
variable {l a b : List St} {i n : Nat}
theorem steps_length : (steps l).length = l.length * 4 := fl_length stRc l
theorem steps_drop : (steps l).drop (n * 4) = steps (l.drop n) := fl_drop stRc l n
theorem steps_take : (steps l).take (n * 4) = steps (l.take n) := fl_take stRc l n
theorem steps_app : steps a ++ steps b = steps (a ++ b) := fl_app stRc a b
theorem steps_one {v0 : Bool} {v1 : Int} {v2 : Int} {v3 : Int} : steps [⟨v0, v1, v2, v3⟩] = [.sc (.bool v0), .sc (.int .i64 v1), .sc (.int .u64 v2), .sc (.int .u64 v3)] := rfl
theorem steps_nil : steps [] = [] := rfl
theorem steps_snoc {v0 : Bool} {v1 : Int} {v2 : Int} {v3 : Int} : steps a ++ [.sc (.bool v0), .sc (.int .i64 v1), .sc (.int .u64 v2), .sc (.int .u64 v3)] = steps (a ++ [⟨v0, v1, v2, v3⟩]) := fl_app stRc a [⟨v0, v1, v2, v3⟩]
theorem steps_part (h : i < l.length) : (steps (l.drop i)).take 4 = [.sc (.bool (l.getD i default).drop), .sc (.int .i64 (l.getD i default).id), .sc (.int .u64 (l.getD i default).pri), .sc (.int .u64 (l.getD i default).seq)] := by rw [← steps_drop]; exact fl_part stRc h
theorem steps_part0 (h : 0 < l.length) : (steps l).take 4 = [.sc (.bool (l.getD 0 default).drop), .sc (.int .i64 (l.getD 0 default).id), .sc (.int .u64 (l.getD 0 default).pri), .sc (.int .u64 (l.getD 0 default).seq)] := by have := steps_part h; rwa [List.drop_zero] at this
theorem steps_get0 (h : i < l.length) : (steps l).getD (i * 4) .any = .sc (.bool (l.getD i default).drop) := fl_get stRc (j := 0) h (by decide)
theorem steps_set0 (h : i < l.length) {v : Bool} : (steps l).set (i * 4) (.sc (.bool v)) = steps (l.set i ⟨v, (l.getD i default).id, (l.getD i default).pri, (l.getD i default).seq⟩) := fl_set stRc h (j := 0) (by decide) _ _ rfl
theorem steps_get1 (h : i < l.length) : (steps l).getD (i * 4 + 1) .any = .sc (.int .i64 (l.getD i default).id) := fl_get stRc (j := 1) h (by decide)
theorem steps_set1 (h : i < l.length) {v : Int} : (steps l).set (i * 4 + 1) (.sc (.int .i64 v)) = steps (l.set i ⟨(l.getD i default).drop, v, (l.getD i default).pri, (l.getD i default).seq⟩) := fl_set stRc h (j := 1) (by decide) _ _ rfl
theorem steps_get2 (h : i < l.length) : (steps l).getD (i * 4 + 2) .any = .sc (.int .u64 (l.getD i default).pri) := fl_get stRc (j := 2) h (by decide)
theorem steps_set2 (h : i < l.length) {v : Int} : (steps l).set (i * 4 + 2) (.sc (.int .u64 v)) = steps (l.set i ⟨(l.getD i default).drop, (l.getD i default).id, v, (l.getD i default).seq⟩) := fl_set stRc h (j := 2) (by decide) _ _ rfl
theorem steps_get3 (h : i < l.length) : (steps l).getD (i * 4 + 3) .any = .sc (.int .u64 (l.getD i default).seq) := fl_get stRc (j := 3) h (by decide)
theorem steps_set3 (h : i < l.length) {v : Int} : (steps l).set (i * 4 + 3) (.sc (.int .u64 v)) = steps (l.set i ⟨(l.getD i default).drop, (l.getD i default).id, (l.getD i default).pri, v⟩) := fl_set stRc h (j := 3) (by decide) _ _ rfl
theorem steps_splice (h : i < l.length) {v0 : Bool} {v1 : Int} {v2 : Int} {v3 : Int} : splice (steps l) (i * 4) [.sc (.bool v0), .sc (.int .i64 v1), .sc (.int .u64 v2), .sc (.int .u64 v3)] = steps (l.set i ⟨v0, v1, v2, v3⟩) := fl_splice stRc h ⟨v0, v1, v2, v3⟩
theorem steps_zeros : zrep n [.sc (.bool false), .sc (.int .i64 0), .sc (.int .u64 0), .sc (.int .u64 0)] = steps (List.replicate n default) := fl_zeros stRc default n (by decide)
theorem steps_closed : IV.closedL (steps l) = true := fl_closed stRc (fun _ => rfl) l
theorem steps_ones : IV.ones (steps l) = true := fl_ones stRc (fun _ => rfl) l
theorem steps_fresh : IV.freshL (steps l) = true := fl_fresh stRc (fun _ => rfl) l
theorem steps_relab : IV.relabL (steps l) = steps l := fl_relab stRc (fun _ => by simp [stRc, IV.relabL, IV.relab, IV.str]) l
theorem steps_ren {σ : Nat → Option Nat} : IV.renL σ (steps l) = steps l := fl_ren stRc (fun _ => by simp [stRc, IV.renL, IV.ren, IV.str]) l
end
attribute [go_sem] steps_length steps_drop steps_take steps_app steps_snoc steps_part steps_part0 steps_get0 steps_set0 steps_get1 steps_set1 steps_get2 steps_set2 steps_get3 steps_set3 steps_zeros steps_closed steps_ones steps_fresh steps_relab steps_ren
attribute [go_sem] steps_splice
attribute [local go_sem] splice
theorem findV_up {L : List It} (hd : Idn L) {x : It} (hx : 0 ≤ x.id ∧ x.id < 64) {other : Int} (ho : other ≠ x.id) : findV (upI x L) other = findV L other := by
  by_cases h : ∃ y, y ∈ L ∧ y.id = other
  · obtain ⟨y, hy, rfl⟩ := h
    rw [findV_mem hd hy, findV_mem (hd.up hx) (List.mem_cons.2 (.inr (List.mem_filter.2 ⟨hy, by simpa using ho⟩)))]
  · rw [findV_non fun y hy e => h ⟨y, hy, e⟩, findV_non fun y hy e => ?_]
    rcases List.mem_cons.1 hy with rfl | hy
    · exact ho e.symm
    · exact h ⟨y, (List.mem_filter.1 hy).1, e⟩
theorem sets_law (l : List St) (x : It) (other : Int) (hL : l.length ≤ 9223372036854775807) : Idl.Spec Try.prog 6 [.fz false (steps l) l.length, .agg [.sc (.int .i64 x.id), .sc (.int .u64 x.pri), .sc (.int .u64 x.seq)], .i64 other] [] (Only (.sc (.bool true)) []) := by
  by_cases h100 : l.length ≤ 100
  · refine sB Try.func6 Try.ntmps6 ?_
    repeat' (first
      | refine IOps_nil ?_
      | refine oS ?_
      | refine IOps_s rfl rfl ?_
      | refine oT ?_
      | refine IOps_s0 rfl ?_
      | refine oC (π := []) (hs := by first | exact awake_spec | fail) (hx := ?_)
      | refine oZ ?_
      | refine oI ?_
      | refine thenI_n ?_
      | refine IWP_seq ?_
      | refine IWP_region ?_
      | refine IWP_ct rfl ?_
      | refine IWP_cf rfl ?_
      | refine IWP_skip ?_
      | refine IWP_ret ?_
      | refine IWP_block ?_
      | refine inB_n ?_
      | refine thenI_r ?_
      | refine thenI_e ?_
      | refine inB_r ?_
      | refine inB_hit ?_
      | refine inB_miss rfl ?_
      | refine IWP_exit ?_
      | refine IWP_scope ?_
      | refine IWP_label ?_
      | refine noG_n ?_
      | refine noG_r ?_
      | refine noG_e ?_
      | refine jmp_n ?_
      | refine jmp_r ?_
      | refine jmp_e ?_
      | refine jmp_g ?_
      | refine thenI_g ?_
      | refine inB_g ?_
      | refine IWP_goto ?_
      | refine Loop_n ?_
      | fail)
    refine wV 8 3 ?_
    refine wF 8 (cs' := items []) ?_
    refine IWP_loop (fun x' : List It × Nat => ⟨120, [(0, .fz false (steps l) l.length), (2, .i64 other), (4, .ptr 0 0), (6, .sc (.bool false)), (7, .sc (.bool true)), (8, .fz true (items x'.1) x'.1.length), (9, .i64 x'.2)], [.box [.sc (.int .i64 x.id), .sc (.int .u64 x.pri), .sc (.int .u64 x.seq)]]⟩)
      (fun x' => chk x'.1 = true ∧ x'.2 ≤ l.length) (fun x' => l.length - x'.2) ([], 0) (lP [0]) ⟨by decide +kernel, Nat.zero_le _⟩ ?_
    rintro ⟨h, i⟩ ⟨hc, hi⟩
    simp only at hc hi ⊢
    have hd := ((chk_iff h).1 hc).1
    have h64 := hd.len
    by_cases hi2 : i < l.length
    · repeat' (first
        | refine IOps_nil ?_
        | refine oS ?_
        | refine IOps_s rfl rfl ?_
        | refine oT ?_
        | refine IOps_s0 rfl ?_
        | refine oZ ?_
        | refine oI ?_
        | refine thenI_n ?_
        | refine IWP_seq ?_
        | refine IWP_region ?_
        | refine IWP_ct rfl ?_
        | refine IWP_cf rfl ?_
        | refine IWP_skip ?_
        | refine IWP_ret ?_
        | refine IWP_block ?_
        | refine inB_n ?_
        | refine thenI_r ?_
        | refine thenI_e ?_
        | refine inB_r ?_
        | refine inB_hit ?_
        | refine inB_miss rfl ?_
        | refine IWP_exit ?_
        | refine IWP_scope ?_
        | refine IWP_label ?_
        | refine noG_n ?_
        | refine noG_r ?_
        | refine noG_e ?_
        | refine jmp_n ?_
        | refine jmp_r ?_
        | refine jmp_e ?_
        | refine jmp_g ?_
        | refine thenI_g ?_
        | refine inB_g ?_
        | refine IWP_goto ?_
        | refine Loop_n ?_
        | fail)
      refine oE [] (hs := do_spec h (l.getD i default).drop ⟨(l.getD i default).id, (l.getD i default).pri, (l.getD i default).seq⟩ hc) (hx := ?_)
      rintro ⟨M, e⟩ ⟨hM, -⟩
      simp only at hM ⊢
      repeat' (first
        | refine IOps_nil ?_
        | refine oS ?_
        | refine IOps_s rfl rfl ?_
        | refine oT ?_
        | refine IOps_s0 rfl ?_
        | refine oZ ?_
        | refine oI ?_
        | refine thenI_n ?_
        | refine IWP_seq ?_
        | refine IWP_region ?_
        | refine IWP_ct rfl ?_
        | refine IWP_cf rfl ?_
        | refine IWP_skip ?_
        | refine IWP_ret ?_
        | refine IWP_block ?_
        | refine inB_n ?_
        | refine thenI_r ?_
        | refine thenI_e ?_
        | refine inB_r ?_
        | refine inB_hit ?_
        | refine inB_miss rfl ?_
        | refine IWP_exit ?_
        | refine IWP_scope ?_
        | refine IWP_label ?_
        | refine noG_n ?_
        | refine noG_r ?_
        | refine noG_e ?_
        | refine jmp_n ?_
        | refine jmp_r ?_
        | refine jmp_e ?_
        | refine jmp_g ?_
        | refine thenI_g ?_
        | refine inB_g ?_
        | refine IWP_goto ?_
        | refine Loop_n ?_
        | fail)
      exact ⟨(M, i + 1), ⟨hM, hi2⟩, by simp only; omega, lP [0]⟩
    · have hfh := find_spec h other (by omega)
      rw [hc, if_pos rfl] at hfh
      have hfx := find_spec h x.id (by omega)
      rw [hc, if_pos rfl] at hfx
      by_cases hx : 0 ≤ x.id ∧ x.id < 64
      · repeat' (first
          | refine IOps_nil ?_
          | refine oS ?_
          | refine IOps_s rfl rfl ?_
          | refine oT ?_
          | refine IOps_s0 rfl ?_
          | refine oZ ?_
          | refine oI ?_
          | refine thenI_n ?_
          | refine IWP_seq ?_
          | refine IWP_region ?_
          | refine IWP_ct rfl ?_
          | refine IWP_cf rfl ?_
          | refine IWP_skip ?_
          | refine IWP_ret ?_
          | refine IWP_block ?_
          | refine inB_n ?_
          | refine thenI_r ?_
          | refine thenI_e ?_
          | refine inB_r ?_
          | refine inB_hit ?_
          | refine inB_miss rfl ?_
          | refine IWP_exit ?_
          | refine IWP_scope ?_
          | refine IWP_label ?_
          | refine noG_n ?_
          | refine noG_r ?_
          | refine noG_e ?_
          | refine jmp_n ?_
          | refine jmp_r ?_
          | refine jmp_e ?_
          | refine jmp_g ?_
          | refine thenI_g ?_
          | refine inB_g ?_
          | refine IWP_goto ?_
          | refine Loop_n ?_
          | fail)
        refine oE [] (hs := set_c h x h64 hc hx) (hx := ?_)
        rintro M ⟨hM, hp⟩
        have hdM := ((chk_iff M).1 hM).1
        have hM64 := hdM.len
        have hlen : M.length ≤ h.length + 1 := by
          rw [hp.length_eq]
          have := List.length_filter_le (fun y : It => decide (y.id ≠ x.id)) h
          unfold upI woI; simp only [List.length_cons]; omega
        have f1 := find_spec M x.id (by omega)
        rw [hM, if_pos rfl, findV_mem hdM (hp.mem_iff.2 (by simp [upI]))] at f1
        have f2 := find_spec M other (by omega)
        rw [hM, if_pos rfl] at f2
        by_cases ho : other = x.id
        · repeat' (first
            | refine IOps_nil ?_
            | refine oS ?_
            | refine IOps_s rfl rfl ?_
            | refine oT ?_
            | refine IOps_s0 rfl ?_
            | refine oC (π := []) (hs := by first | exact f1 | fail) (hx := ?_)
            | refine oC (π := []) (hs := by first | exact hfh | fail) (hx := ?_)
            | refine oC (π := []) (hs := by first | exact f2 | fail) (hx := ?_)
            | refine oZ ?_
            | refine oI ?_
            | refine thenI_n ?_
            | refine IWP_seq ?_
            | refine IWP_region ?_
            | refine IWP_ct rfl ?_
            | refine IWP_cf rfl ?_
            | refine IWP_skip ?_
            | refine IWP_ret ?_
            | refine IWP_block ?_
            | refine inB_n ?_
            | refine thenI_r ?_
            | refine thenI_e ?_
            | refine inB_r ?_
            | refine inB_hit ?_
            | refine inB_miss rfl ?_
            | refine IWP_exit ?_
            | refine IWP_scope ?_
            | refine IWP_label ?_
            | refine noG_n ?_
            | refine noG_r ?_
            | refine noG_e ?_
            | refine jmp_n ?_
            | refine jmp_r ?_
            | refine jmp_e ?_
            | refine jmp_g ?_
            | refine thenI_g ?_
            | refine inB_g ?_
            | refine IWP_goto ?_
            | refine Loop_n ?_
            | fail)
          exact pD [] ⟨rfl, rfl⟩
        · rw [findV_perm (hd.up hx) hp, findV_up hd hx ho] at f2
          repeat' (first
            | refine IOps_nil ?_
            | refine oS ?_
            | refine IOps_s rfl rfl ?_
            | refine oT ?_
            | refine IOps_s0 rfl ?_
            | refine oC (π := []) (hs := by first | exact f1 | fail) (hx := ?_)
            | refine oC (π := []) (hs := by first | exact hfh | fail) (hx := ?_)
            | refine oC (π := []) (hs := by first | exact f2 | fail) (hx := ?_)
            | refine oZ ?_
            | refine oI ?_
            | refine thenI_n ?_
            | refine IWP_seq ?_
            | refine IWP_region ?_
            | refine IWP_ct rfl ?_
            | refine IWP_cf rfl ?_
            | refine IWP_skip ?_
            | refine IWP_ret ?_
            | refine IWP_block ?_
            | refine inB_n ?_
            | refine thenI_r ?_
            | refine thenI_e ?_
            | refine inB_r ?_
            | refine inB_hit ?_
            | refine inB_miss rfl ?_
            | refine IWP_exit ?_
            | refine IWP_scope ?_
            | refine IWP_label ?_
            | refine noG_n ?_
            | refine noG_r ?_
            | refine noG_e ?_
            | refine jmp_n ?_
            | refine jmp_r ?_
            | refine jmp_e ?_
            | refine jmp_g ?_
            | refine thenI_g ?_
            | refine inB_g ?_
            | refine IWP_goto ?_
            | refine Loop_n ?_
            | fail)
          exact pD [] ⟨rfl, rfl⟩
      · have hno : findV h x.id = (default, false) := findV_non fun y hy e => hx (e ▸ hd.1 y hy)
        rw [hno] at hfx
        by_cases hx0 : x.id < 0
        · repeat' (first
            | refine IOps_nil ?_
            | refine oS ?_
            | refine IOps_s rfl rfl ?_
            | refine oT ?_
            | refine IOps_s0 rfl ?_
            | refine oC (π := []) (hs := by first | exact (set_b h x (by omega) hc hx) | fail) (hx := ?_)
            | refine oC (π := []) (hs := by first | exact hfx | fail) (hx := ?_)
            | refine oC (π := []) (hs := by first | exact hfh | fail) (hx := ?_)
            | refine oZ ?_
            | refine oI ?_
            | refine thenI_n ?_
            | refine IWP_seq ?_
            | refine IWP_region ?_
            | refine IWP_ct rfl ?_
            | refine IWP_cf rfl ?_
            | refine IWP_skip ?_
            | refine IWP_ret ?_
            | refine IWP_block ?_
            | refine inB_n ?_
            | refine thenI_r ?_
            | refine thenI_e ?_
            | refine inB_r ?_
            | refine inB_hit ?_
            | refine inB_miss rfl ?_
            | refine IWP_exit ?_
            | refine IWP_scope ?_
            | refine IWP_label ?_
            | refine noG_n ?_
            | refine noG_r ?_
            | refine noG_e ?_
            | refine jmp_n ?_
            | refine jmp_r ?_
            | refine jmp_e ?_
            | refine jmp_g ?_
            | refine thenI_g ?_
            | refine inB_g ?_
            | refine IWP_goto ?_
            | refine Loop_n ?_
            | fail)
          exact pD [] ⟨rfl, rfl⟩
        · have hx1 : 63 < x.id := by omega
          repeat' (first
            | refine IOps_nil ?_
            | refine oS ?_
            | refine IOps_s rfl rfl ?_
            | refine oT ?_
            | refine IOps_s0 rfl ?_
            | refine oC (π := []) (hs := by first | exact (set_b h x (by omega) hc hx) | fail) (hx := ?_)
            | refine oC (π := []) (hs := by first | exact hfx | fail) (hx := ?_)
            | refine oC (π := []) (hs := by first | exact hfh | fail) (hx := ?_)
            | refine oZ ?_
            | refine oI ?_
            | refine thenI_n ?_
            | refine IWP_seq ?_
            | refine IWP_region ?_
            | refine IWP_ct rfl ?_
            | refine IWP_cf rfl ?_
            | refine IWP_skip ?_
            | refine IWP_ret ?_
            | refine IWP_block ?_
            | refine inB_n ?_
            | refine thenI_r ?_
            | refine thenI_e ?_
            | refine inB_r ?_
            | refine inB_hit ?_
            | refine inB_miss rfl ?_
            | refine IWP_exit ?_
            | refine IWP_scope ?_
            | refine IWP_label ?_
            | refine noG_n ?_
            | refine noG_r ?_
            | refine noG_e ?_
            | refine jmp_n ?_
            | refine jmp_r ?_
            | refine jmp_e ?_
            | refine jmp_g ?_
            | refine thenI_g ?_
            | refine inB_g ?_
            | refine IWP_goto ?_
            | refine Loop_n ?_
            | fail)
          exact pD [] ⟨rfl, rfl⟩
  · refine sB Try.func6 Try.ntmps6 ?_
    repeat' (first
      | refine IOps_nil ?_
      | refine oS ?_
      | refine IOps_s rfl rfl ?_
      | refine oT ?_
      | refine IOps_s0 rfl ?_
      | refine oC (π := []) (hs := by first | exact awake_spec | fail) (hx := ?_)
      | refine oZ ?_
      | refine oI ?_
      | refine thenI_n ?_
      | refine IWP_seq ?_
      | refine IWP_region ?_
      | refine IWP_ct rfl ?_
      | refine IWP_cf rfl ?_
      | refine IWP_skip ?_
      | refine IWP_ret ?_
      | refine IWP_block ?_
      | refine inB_n ?_
      | refine thenI_r ?_
      | refine thenI_e ?_
      | refine inB_r ?_
      | refine inB_hit ?_
      | refine inB_miss rfl ?_
      | refine IWP_exit ?_
      | refine IWP_scope ?_
      | refine IWP_label ?_
      | refine noG_n ?_
      | refine noG_r ?_
      | refine noG_e ?_
      | refine jmp_n ?_
      | refine jmp_r ?_
      | refine jmp_e ?_
      | refine jmp_g ?_
      | refine thenI_g ?_
      | refine inB_g ?_
      | refine IWP_goto ?_
      | refine Loop_n ?_
      | fail)
    exact pD [] ⟨rfl, rfl⟩
end Go.Proofs.Ytnlelckfhlcbgaa

namespace Go.Proofs.Ytnlelckfhlcbgaa
open Go Go.Idl
set_option linter.unusedSimpArgs false
set_option linter.unusedVariables false
set_option maxRecDepth 100000
set_option maxHeartbeats 1000000
attribute [local irreducible] Go.Idl.IWP Go.Idl.IOps Go.Idl.Obl Go.Idl.OpG Go.Idl.thenI Go.Idl.inBlockI Go.Idl.LoopU Go.Idl.noGotoI Go.Idl.jumpI
attribute [local go_sem] List.length_set
attribute [local go_sem] splice
theorem Srt.sub {l m : List It} (h : Srt m) (s : l.Sublist m) : Srt l := h.sublist s
theorem with_srt {h : List It} {x : It} (hd : Idn h) (A : List It) (hA : A = srtI h) : (0 ≤ x.id ∧ x.id < 64) → ∀ M : List It, M.Perm (upI x h) → srtI M = withI A x := fun hx M hM => by
  subst hA
  refine Srt.eq (srt_srt M) ((Srt.sub (srt_srt h) List.filter_sublist).ins) ((srt_perm M).trans (hM.trans ?_))
  refine (List.Perm.trans ?_ (ins_perm x _).symm)
  exact (woI_perm (srt_perm h).symm x.id).cons x
theorem wo_srt {h : List It} {id : Int} {M : List It} (hM : M.Perm (woI id h)) : srtI M = woI id (srtI h) :=
  Srt.eq (srt_srt M) (Srt.sub (srt_srt h) List.filter_sublist) ((srt_perm M).trans (hM.trans (woI_perm (srt_perm h).symm id)))
theorem take_with {h : List It} (hd : Idn h) {i : Nat} (hi : i < h.length) : withI (srtI (h.take i)) (gd h i) = srtI (h.take (i + 1)) := by
  have ht : h.take (i + 1) = h.take i ++ [gd h i] := by rw [List.take_succ_eq_append_getElem hi, gd_eq hi]
  have hd2 : Idn (h.take (i + 1)) := hd.sub (List.take_sublist _ _)
  rw [ht] at hd2
  have hno : woI (gd h i).id (h.take i) = h.take i := by
    unfold woI
    rw [List.filter_eq_self]
    intro y hy
    have := (List.pairwise_append.1 hd2.2).2.2 y hy (gd h i) (by simp)
    simpa using this
  refine (with_srt (hd.sub (List.take_sublist _ _)) _ rfl (hd.1 _ (gd_mem hi)) _ ?_).symm
  rw [ht]
  unfold upI
  rw [hno]
  exact List.perm_append_singleton _ _
theorem rsorted_spec (h : List It) (hL : h.length ≤ 100000) : Idl.Spec Try.prog 15 [.fz false (items h) h.length] []
    (Only (.fz true (items (sortedV h)) (sortedV h).length) []) := by
  have hcs := rcheck_spec h (by omega)
  cases hc : chk h
  · rw [hc] at hcs
    rw [show sortedV h = [] from by unfold sortedV; rw [hc]; rfl]
    refine sB Try.func15 Try.ntmps15 ?_
    repeat' (first
      | refine IOps_nil ?_
      | refine oS ?_
      | refine IOps_s rfl rfl ?_
      | refine oT ?_
      | refine IOps_s0 rfl ?_
      | refine oC (π := []) (hs := by first | exact hcs | fail) (hx := ?_)
      | refine oZ ?_
      | refine oI ?_
      | refine thenI_n ?_
      | refine IWP_seq ?_
      | refine IWP_region ?_
      | refine IWP_ct rfl ?_
      | refine IWP_cf rfl ?_
      | refine IWP_skip ?_
      | refine IWP_ret ?_
      | refine IWP_block ?_
      | refine inB_n ?_
      | refine thenI_r ?_
      | refine thenI_e ?_
      | refine inB_r ?_
      | refine inB_hit ?_
      | refine inB_miss rfl ?_
      | refine IWP_exit ?_
      | refine IWP_scope ?_
      | refine IWP_label ?_
      | refine noG_n ?_
      | refine noG_r ?_
      | refine noG_e ?_
      | refine jmp_n ?_
      | refine jmp_r ?_
      | refine jmp_e ?_
      | refine jmp_g ?_
      | refine thenI_g ?_
      | refine inB_g ?_
      | refine IWP_goto ?_
      | refine Loop_n ?_
      | fail)
    refine wV 4 3 ?_
    refine wF 4 (cs' := items []) ?_
    refine IWP_loop (fun _ : Unit => ⟨24, [(0, .fz false (items h) h.length), (3, .sc (.bool false)), (4, .fz true (items []) 0), (5, .i64 0)], []⟩) (fun _ => True) (fun _ => 0) () (lP []) trivial ?_
    intro _ _
    by_cases h0 : 0 < h.length
    · repeat' (first
        | refine IOps_nil ?_
        | refine oS ?_
        | refine IOps_s rfl rfl ?_
        | refine oT ?_
        | refine IOps_s0 rfl ?_
        | refine oZ ?_
        | refine oI ?_
        | refine thenI_n ?_
        | refine IWP_seq ?_
        | refine IWP_region ?_
        | refine IWP_ct rfl ?_
        | refine IWP_cf rfl ?_
        | refine IWP_skip ?_
        | refine IWP_ret ?_
        | refine IWP_block ?_
        | refine inB_n ?_
        | refine thenI_r ?_
        | refine thenI_e ?_
        | refine inB_r ?_
        | refine inB_hit ?_
        | refine inB_miss rfl ?_
        | refine IWP_exit ?_
        | refine IWP_scope ?_
        | refine IWP_label ?_
        | refine noG_n ?_
        | refine noG_r ?_
        | refine noG_e ?_
        | refine jmp_n ?_
        | refine jmp_r ?_
        | refine jmp_e ?_
        | refine jmp_g ?_
        | refine thenI_g ?_
        | refine inB_g ?_
        | refine IWP_goto ?_
        | refine Loop_n ?_
        | fail)
      exact pD [] ⟨rfl, rfl⟩
    · repeat' (first
        | refine IOps_nil ?_
        | refine oS ?_
        | refine IOps_s rfl rfl ?_
        | refine oT ?_
        | refine IOps_s0 rfl ?_
        | refine oZ ?_
        | refine oI ?_
        | refine thenI_n ?_
        | refine IWP_seq ?_
        | refine IWP_region ?_
        | refine IWP_ct rfl ?_
        | refine IWP_cf rfl ?_
        | refine IWP_skip ?_
        | refine IWP_ret ?_
        | refine IWP_block ?_
        | refine inB_n ?_
        | refine thenI_r ?_
        | refine thenI_e ?_
        | refine inB_r ?_
        | refine inB_hit ?_
        | refine inB_miss rfl ?_
        | refine IWP_exit ?_
        | refine IWP_scope ?_
        | refine IWP_label ?_
        | refine noG_n ?_
        | refine noG_r ?_
        | refine noG_e ?_
        | refine jmp_n ?_
        | refine jmp_r ?_
        | refine jmp_e ?_
        | refine jmp_g ?_
        | refine thenI_g ?_
        | refine inB_g ?_
        | refine IWP_goto ?_
        | refine Loop_n ?_
        | fail)
      exact pD [] ⟨rfl, rfl⟩
  · rw [hc] at hcs
    rw [show sortedV h = srtI h from by unfold sortedV; rw [hc]; rfl]
    have hd := ((chk_iff h).1 hc).1
    refine sB Try.func15 Try.ntmps15 ?_
    repeat' (first
      | refine IOps_nil ?_
      | refine oS ?_
      | refine IOps_s rfl rfl ?_
      | refine oT ?_
      | refine IOps_s0 rfl ?_
      | refine oC (π := []) (hs := by first | exact hcs | fail) (hx := ?_)
      | refine oZ ?_
      | refine oI ?_
      | refine thenI_n ?_
      | refine IWP_seq ?_
      | refine IWP_region ?_
      | refine IWP_ct rfl ?_
      | refine IWP_cf rfl ?_
      | refine IWP_skip ?_
      | refine IWP_ret ?_
      | refine IWP_block ?_
      | refine inB_n ?_
      | refine thenI_r ?_
      | refine thenI_e ?_
      | refine inB_r ?_
      | refine inB_hit ?_
      | refine inB_miss rfl ?_
      | refine IWP_exit ?_
      | refine IWP_scope ?_
      | refine IWP_label ?_
      | refine noG_n ?_
      | refine noG_r ?_
      | refine noG_e ?_
      | refine jmp_n ?_
      | refine jmp_r ?_
      | refine jmp_e ?_
      | refine jmp_g ?_
      | refine thenI_g ?_
      | refine inB_g ?_
      | refine IWP_goto ?_
      | refine Loop_n ?_
      | fail)
    refine wV 4 3 ?_
    refine wF 4 (cs' := items []) ?_
    refine IWP_loop (fun i : Nat => ⟨24, [(0, .fz false (items h) h.length), (3, .sc (.bool true)), (4, .fz true (items (srtI (h.take i))) (srtI (h.take i)).length), (5, .i64 i)], []⟩) (fun i => i ≤ h.length) (fun i => h.length - i) 0 (lP []) (Nat.zero_le _) ?_
    intro i hi
    have hlen : (srtI (h.take i)).length ≤ h.length := by rw [(srt_perm _).length_eq, List.length_take]; omega
    by_cases hi2 : i < h.length
    · have hw := with_spec (srtI (h.take i)) (gd h i) (by omega)
      rw [take_with hd hi2] at hw
      repeat' (first
        | refine IOps_nil ?_
        | refine oS ?_
        | refine IOps_s rfl rfl ?_
        | refine oT ?_
        | refine IOps_s0 rfl ?_
        | refine oC (π := []) (hs := by first | exact hw | fail) (hx := ?_)
        | refine oZ ?_
        | refine oI ?_
        | refine thenI_n ?_
        | refine IWP_seq ?_
        | refine IWP_region ?_
        | refine IWP_ct rfl ?_
        | refine IWP_cf rfl ?_
        | refine IWP_skip ?_
        | refine IWP_ret ?_
        | refine IWP_block ?_
        | refine inB_n ?_
        | refine thenI_r ?_
        | refine thenI_e ?_
        | refine inB_r ?_
        | refine inB_hit ?_
        | refine inB_miss rfl ?_
        | refine IWP_exit ?_
        | refine IWP_scope ?_
        | refine IWP_label ?_
        | refine noG_n ?_
        | refine noG_r ?_
        | refine noG_e ?_
        | refine jmp_n ?_
        | refine jmp_r ?_
        | refine jmp_e ?_
        | refine jmp_g ?_
        | refine thenI_g ?_
        | refine inB_g ?_
        | refine IWP_goto ?_
        | refine Loop_n ?_
        | fail)
      exact ⟨i + 1, hi2, by omega, lP []⟩
    · obtain rfl : i = h.length := by omega
      rw [List.take_length]
      repeat' (first
        | refine IOps_nil ?_
        | refine oS ?_
        | refine IOps_s rfl rfl ?_
        | refine oT ?_
        | refine IOps_s0 rfl ?_
        | refine oZ ?_
        | refine oI ?_
        | refine thenI_n ?_
        | refine IWP_seq ?_
        | refine IWP_region ?_
        | refine IWP_ct rfl ?_
        | refine IWP_cf rfl ?_
        | refine IWP_skip ?_
        | refine IWP_ret ?_
        | refine IWP_block ?_
        | refine inB_n ?_
        | refine thenI_r ?_
        | refine thenI_e ?_
        | refine inB_r ?_
        | refine inB_hit ?_
        | refine inB_miss rfl ?_
        | refine IWP_exit ?_
        | refine IWP_scope ?_
        | refine IWP_label ?_
        | refine noG_n ?_
        | refine noG_r ?_
        | refine noG_e ?_
        | refine jmp_n ?_
        | refine jmp_r ?_
        | refine jmp_e ?_
        | refine jmp_g ?_
        | refine thenI_g ?_
        | refine inB_g ?_
        | refine IWP_goto ?_
        | refine Loop_n ?_
        | fail)
      exact pD [] ⟨rfl, rfl⟩
theorem tells_run (h : List It) (a b : It) (id : Int) (S : List It) (p : It × Bool) (ch lb : Bool) (m : It) (sm : Bool) (h100 : h.length ≤ 100)
    (hrs : Idl.Spec Try.prog 15 [.fz false (items h) h.length] [] (Only (.fz true (items S) S.length) []))
    (hfs : Idl.Spec Try.prog 16 [.fz false (items h) h.length, .i64 id] [] (Only (.tup [itV p.1, .sc (.bool p.2)]) []))
    (hrf : Idl.Spec Try.prog 17 [.fz false (items S) S.length, .i64 id] [] (Only (.tup [itV p.1, .sc (.bool p.2)]) []))
    (hms : Idl.Spec Try.prog 18 [.fz false (items h) h.length] [] (Only (.tup [itV m, .sc (.bool sm)]) []))
    (hcs : Idl.Spec Try.prog 19 [.fz false (items h) h.length] [] (Only (.sc (.bool ch)) []))
    (hrc : Idl.Spec Try.prog 20 [.fz false (items h) h.length] [] (Only (.sc (.bool ch)) []))
    (hls : Idl.Spec Try.prog 21 [.agg [.sc (.int .i64 a.id), .sc (.int .u64 a.pri), .sc (.int .u64 a.seq)], .agg [.sc (.int .i64 b.id), .sc (.int .u64 b.pri), .sc (.int .u64 b.seq)]] [] (Only (.sc (.bool lb)) []))
    (hrl : Idl.Spec Try.prog 22 [.agg [.sc (.int .i64 a.id), .sc (.int .u64 a.pri), .sc (.int .u64 a.seq)], .agg [.sc (.int .i64 b.id), .sc (.int .u64 b.pri), .sc (.int .u64 b.seq)]] [] (Only (.sc (.bool lb)) []))
    (hss : Idl.Spec Try.prog 24 [.fz false (items h) h.length] [] (Only (.fz true (items S) S.length) []))
    (hsm : Idl.Spec Try.prog 23 [.fz false (items S) S.length, .fz false (items S) S.length] [] (Only (.sc (.bool true)) []))
    (hmm : (0 < S.length ∧ m = gd S 0 ∧ sm = true) ∨ (¬ 0 < S.length ∧ m = default ∧ sm = false)) :
    Idl.Spec Try.prog 3 [.fz false (items h) h.length, .agg [.sc (.int .i64 a.id), .sc (.int .u64 a.pri), .sc (.int .u64 a.seq)], .agg [.sc (.int .i64 b.id), .sc (.int .u64 b.pri), .sc (.int .u64 b.seq)], .i64 id] [] (Only (.sc (.bool true)) []) := by
  rcases hmm with ⟨h0, rfl, rfl⟩ | ⟨h0, rfl, rfl⟩
  · refine sB Try.func3 Try.ntmps3 ?_
    repeat' (first
      | refine IOps_nil ?_
      | refine oS ?_
      | refine IOps_s rfl rfl ?_
      | refine oT ?_
      | refine IOps_s0 rfl ?_
      | refine oC (π := []) (hs := by first | exact awake_spec | fail) (hx := ?_)
      | refine oC (π := []) (hs := by first | exact hrs | fail) (hx := ?_)
      | refine oC (π := []) (hs := by first | exact hfs | fail) (hx := ?_)
      | refine oC (π := []) (hs := by first | exact hrf | fail) (hx := ?_)
      | refine oC (π := []) (hs := by first | exact hms | fail) (hx := ?_)
      | refine oC (π := []) (hs := by first | exact hcs | fail) (hx := ?_)
      | refine oC (π := []) (hs := by first | exact hrc | fail) (hx := ?_)
      | refine oC (π := []) (hs := by first | exact hls | fail) (hx := ?_)
      | refine oC (π := []) (hs := by first | exact hrl | fail) (hx := ?_)
      | refine oC (π := []) (hs := by first | exact hss | fail) (hx := ?_)
      | refine oC (π := []) (hs := by first | exact hsm | fail) (hx := ?_)
      | refine oZ ?_
      | refine oI ?_
      | refine thenI_n ?_
      | refine IWP_seq ?_
      | refine IWP_region ?_
      | refine IWP_ct rfl ?_
      | refine IWP_cf rfl ?_
      | refine IWP_skip ?_
      | refine IWP_ret ?_
      | refine IWP_block ?_
      | refine inB_n ?_
      | refine thenI_r ?_
      | refine thenI_e ?_
      | refine inB_r ?_
      | refine inB_hit ?_
      | refine inB_miss rfl ?_
      | refine IWP_exit ?_
      | refine IWP_scope ?_
      | refine IWP_label ?_
      | refine noG_n ?_
      | refine noG_r ?_
      | refine noG_e ?_
      | refine jmp_n ?_
      | refine jmp_r ?_
      | refine jmp_e ?_
      | refine jmp_g ?_
      | refine thenI_g ?_
      | refine inB_g ?_
      | refine IWP_goto ?_
      | refine Loop_n ?_
      | refine oD (id := 8) W3_8 [] O3_8 [_, _, _, _, _, _, _, _, _, _, _, _, _, _, _, _, _, _, _, _, _, _, _, _, _, _, _, _, _, _] [_] rfl (by repeat' (first | exact trivial | refine And.intro ?_ ?_ | exact bS | exact bX | exact bZ | exact bI | exact bC (π := []) (hs := by first | exact awake_spec | fail) | exact bC (π := []) (hs := by first | exact hrs | fail) | exact bC (π := []) (hs := by first | exact hfs | fail) | exact bC (π := []) (hs := by first | exact hrf | fail) | exact bC (π := []) (hs := by first | exact hms | fail) | exact bC (π := []) (hs := by first | exact hcs | fail) | exact bC (π := []) (hs := by first | exact hrc | fail) | exact bC (π := []) (hs := by first | exact hls | fail) | exact bC (π := []) (hs := by first | exact hrl | fail) | exact bC (π := []) (hs := by first | exact hss | fail) | exact bC (π := []) (hs := by first | exact hsm | fail) | fail)) ?_
      | refine oD (id := 9) W3_9 [] O3_9 [_, _, _, _, _, _, _, _, _, _, _, _, _, _, _, _, _, _, _, _, _, _, _, _, _, _, _, _, _, _, _, _, _, _, _, _, _] [_] rfl (by repeat' (first | exact trivial | refine And.intro ?_ ?_ | exact bS | exact bX | exact bZ | exact bI | exact bC (π := []) (hs := by first | exact awake_spec | fail) | exact bC (π := []) (hs := by first | exact hrs | fail) | exact bC (π := []) (hs := by first | exact hfs | fail) | exact bC (π := []) (hs := by first | exact hrf | fail) | exact bC (π := []) (hs := by first | exact hms | fail) | exact bC (π := []) (hs := by first | exact hcs | fail) | exact bC (π := []) (hs := by first | exact hrc | fail) | exact bC (π := []) (hs := by first | exact hls | fail) | exact bC (π := []) (hs := by first | exact hrl | fail) | exact bC (π := []) (hs := by first | exact hss | fail) | exact bC (π := []) (hs := by first | exact hsm | fail) | fail)) ?_
      | fail)
    exact pD [] ⟨rfl, rfl⟩
  · refine sB Try.func3 Try.ntmps3 ?_
    repeat' (first
      | refine IOps_nil ?_
      | refine oS ?_
      | refine IOps_s rfl rfl ?_
      | refine oT ?_
      | refine IOps_s0 rfl ?_
      | refine oC (π := []) (hs := by first | exact awake_spec | fail) (hx := ?_)
      | refine oC (π := []) (hs := by first | exact hrs | fail) (hx := ?_)
      | refine oC (π := []) (hs := by first | exact hfs | fail) (hx := ?_)
      | refine oC (π := []) (hs := by first | exact hrf | fail) (hx := ?_)
      | refine oC (π := []) (hs := by first | exact hms | fail) (hx := ?_)
      | refine oC (π := []) (hs := by first | exact hcs | fail) (hx := ?_)
      | refine oC (π := []) (hs := by first | exact hrc | fail) (hx := ?_)
      | refine oC (π := []) (hs := by first | exact hls | fail) (hx := ?_)
      | refine oC (π := []) (hs := by first | exact hrl | fail) (hx := ?_)
      | refine oC (π := []) (hs := by first | exact hss | fail) (hx := ?_)
      | refine oC (π := []) (hs := by first | exact hsm | fail) (hx := ?_)
      | refine oZ ?_
      | refine oI ?_
      | refine thenI_n ?_
      | refine IWP_seq ?_
      | refine IWP_region ?_
      | refine IWP_ct rfl ?_
      | refine IWP_cf rfl ?_
      | refine IWP_skip ?_
      | refine IWP_ret ?_
      | refine IWP_block ?_
      | refine inB_n ?_
      | refine thenI_r ?_
      | refine thenI_e ?_
      | refine inB_r ?_
      | refine inB_hit ?_
      | refine inB_miss rfl ?_
      | refine IWP_exit ?_
      | refine IWP_scope ?_
      | refine IWP_label ?_
      | refine noG_n ?_
      | refine noG_r ?_
      | refine noG_e ?_
      | refine jmp_n ?_
      | refine jmp_r ?_
      | refine jmp_e ?_
      | refine jmp_g ?_
      | refine thenI_g ?_
      | refine inB_g ?_
      | refine IWP_goto ?_
      | refine Loop_n ?_
      | refine oD (id := 8) W3_8 [] O3_8 [_, _, _, _, _, _, _, _, _, _, _, _, _, _, _, _, _, _, _, _, _, _, _, _, _, _, _, _, _, _] [_] rfl (by repeat' (first | exact trivial | refine And.intro ?_ ?_ | exact bS | exact bX | exact bZ | exact bI | exact bC (π := []) (hs := by first | exact awake_spec | fail) | exact bC (π := []) (hs := by first | exact hrs | fail) | exact bC (π := []) (hs := by first | exact hfs | fail) | exact bC (π := []) (hs := by first | exact hrf | fail) | exact bC (π := []) (hs := by first | exact hms | fail) | exact bC (π := []) (hs := by first | exact hcs | fail) | exact bC (π := []) (hs := by first | exact hrc | fail) | exact bC (π := []) (hs := by first | exact hls | fail) | exact bC (π := []) (hs := by first | exact hrl | fail) | exact bC (π := []) (hs := by first | exact hss | fail) | exact bC (π := []) (hs := by first | exact hsm | fail) | fail)) ?_
      | refine oD (id := 9) W3_9 [] O3_9 [_, _, _, _, _, _, _, _, _, _, _, _, _, _, _, _, _, _, _, _, _, _, _, _, _, _, _, _, _, _, _, _, _, _, _, _, _] [_] rfl (by repeat' (first | exact trivial | refine And.intro ?_ ?_ | exact bS | exact bX | exact bZ | exact bI | exact bC (π := []) (hs := by first | exact awake_spec | fail) | exact bC (π := []) (hs := by first | exact hrs | fail) | exact bC (π := []) (hs := by first | exact hfs | fail) | exact bC (π := []) (hs := by first | exact hrf | fail) | exact bC (π := []) (hs := by first | exact hms | fail) | exact bC (π := []) (hs := by first | exact hcs | fail) | exact bC (π := []) (hs := by first | exact hrc | fail) | exact bC (π := []) (hs := by first | exact hls | fail) | exact bC (π := []) (hs := by first | exact hrl | fail) | exact bC (π := []) (hs := by first | exact hss | fail) | exact bC (π := []) (hs := by first | exact hsm | fail) | fail)) ?_
      | fail)
    exact pD [] ⟨rfl, rfl⟩
theorem tells_law (h : List It) (a b : It) (id : Int) (hL : h.length ≤ 9223372036854775807) : Idl.Spec Try.prog 3 [.fz false (items h) h.length, .agg [.sc (.int .i64 a.id), .sc (.int .u64 a.pri), .sc (.int .u64 a.seq)], .agg [.sc (.int .i64 b.id), .sc (.int .u64 b.pri), .sc (.int .u64 b.seq)], .i64 id] [] (Only (.sc (.bool true)) []) := by
  by_cases h100 : h.length ≤ 100
  · have hcs := check_spec h (by omega)
    have hrc := rcheck_spec h (by omega)
    have hls := less_spec a b
    have hrl := rless_spec a b
    have hrs := rsorted_spec h (by omega)
    have hss := sorted_spec h (by omega)
    have hfs := find_spec h id (by omega)
    have hms := min_spec h (by omega)
    have hl1 : (sortedV h).length ≤ 100 := by
      unfold sortedV
      split
      · rw [(srt_perm h).length_eq]; exact h100
      · simp
    have hrf := rfind_spec (sortedV h) id (by omega)
    have hsm := same_spec (sortedV h) (sortedV h) (by omega)
    rw [show sameV (sortedV h) (sortedV h) = true from decide_eq_true rfl] at hsm
    have hff : (if chk h then findV h id else (default, false)) = findV (sortedV h) id := by
      unfold sortedV
      cases hc : chk h
      · rfl
      · exact (findV_perm ((chk_iff h).1 hc).1 (srt_perm h) id).symm
    rw [hff] at hfs
    have hmm : (0 < (sortedV h).length ∧ minV h = (gd (sortedV h) 0, true)) ∨ (¬ 0 < (sortedV h).length ∧ minV h = (default, false)) := by
      cases e : sortedV h with
      | nil =>
        refine .inr ⟨by simp, ?_⟩
        unfold minV
        rw [if_neg]
        rintro ⟨h1, h2⟩
        have := (srt_perm h).length_eq
        unfold sortedV at e
        rw [h2, if_pos rfl] at e
        rw [e] at this
        simp at this
        omega
      | cons x t =>
        refine .inl ⟨by simp, ?_⟩
        unfold sortedV at e
        cases hc : chk h
        · rw [hc] at e; cases e
        · rw [hc, if_pos rfl] at e
          exact minV_srt hc e
    generalize findV (sortedV h) id = p at hfs hrf
    generalize sortedV h = S at hrs hss hl1 hsm hmm hrf
    generalize chk h = ch at hcs hrc
    generalize lessI a b = lb at hls hrl
    rcases hmm with ⟨h0, hm⟩ | ⟨h0, hm⟩
    all_goals rw [hm] at hms
    all_goals refine tells_run h a b id S p _ _ _ _ h100 hrs hfs hrf hms hcs hrc hls hrl hss hsm ?_
    all_goals first | exact .inl ⟨h0, rfl, rfl⟩ | exact .inr ⟨h0, rfl, rfl⟩
  · refine sB Try.func3 Try.ntmps3 ?_
    repeat' (first
      | refine IOps_nil ?_
      | refine oS ?_
      | refine IOps_s rfl rfl ?_
      | refine oT ?_
      | refine IOps_s0 rfl ?_
      | refine oC (π := []) (hs := by first | exact awake_spec | fail) (hx := ?_)
      | refine oZ ?_
      | refine oI ?_
      | refine thenI_n ?_
      | refine IWP_seq ?_
      | refine IWP_region ?_
      | refine IWP_ct rfl ?_
      | refine IWP_cf rfl ?_
      | refine IWP_skip ?_
      | refine IWP_ret ?_
      | refine IWP_block ?_
      | refine inB_n ?_
      | refine thenI_r ?_
      | refine thenI_e ?_
      | refine inB_r ?_
      | refine inB_hit ?_
      | refine inB_miss rfl ?_
      | refine IWP_exit ?_
      | refine IWP_scope ?_
      | refine IWP_label ?_
      | refine noG_n ?_
      | refine noG_r ?_
      | refine noG_e ?_
      | refine jmp_n ?_
      | refine jmp_r ?_
      | refine jmp_e ?_
      | refine jmp_g ?_
      | refine thenI_g ?_
      | refine inB_g ?_
      | refine IWP_goto ?_
      | refine Loop_n ?_
      | refine oD (id := 8) W3_8 [] O3_8 [_, _, _, _, _, _, _, _, _, _, _, _, _, _, _, _, _, _, _, _, _, _, _, _, _, _, _, _, _, _] [_] rfl (by repeat' (first | exact trivial | refine And.intro ?_ ?_ | exact bS | exact bX | exact bZ | exact bI | exact bC (π := []) (hs := by first | exact awake_spec | fail) | fail)) ?_
      | refine oD (id := 9) W3_9 [] O3_9 [_, _, _, _, _, _, _, _, _, _, _, _, _, _, _, _, _, _, _, _, _, _, _, _, _, _, _, _, _, _, _, _, _, _, _, _, _] [_] rfl (by repeat' (first | exact trivial | refine And.intro ?_ ?_ | exact bS | exact bX | exact bZ | exact bI | exact bC (π := []) (hs := by first | exact awake_spec | fail) | fail)) ?_
      | fail)
    exact pD [] ⟨rfl, rfl⟩
end Go.Proofs.Ytnlelckfhlcbgaa

namespace Go.Proofs.Ytnlelckfhlcbgaa
open Go Go.Idl
set_option linter.unusedSimpArgs false
set_option linter.unusedVariables false
set_option maxRecDepth 100000
set_option maxHeartbeats 1000000
attribute [local irreducible] Go.Idl.IWP Go.Idl.IOps Go.Idl.Obl Go.Idl.OpG Go.Idl.thenI Go.Idl.inBlockI Go.Idl.LoopU Go.Idl.noGotoI Go.Idl.jumpI
attribute [local go_sem] List.length_set
attribute [local go_sem] splice
--DEF LR=lR [] (h2 := by (repeat' (first | exact trivial | refine And.intro ?_ ?_)) <;> first | rfl | (show IV.fz false (IV.relabL (items _)) _ = _; rw [items_relab]) | (show IV.fz false (IV.relabL (steps _)) _ = _; rw [steps_relab]) | (refine congrArg (fun z => IV.sc (Value.int IntKind.i64 z)) ?_; simp only; omega))
theorem steps_item {l : List St} {i : Nat} (h : i < l.length) : List.take 3 (List.drop (i * 4 + 1) (steps l)) = [.sc (.int .i64 (l.getD i default).id), .sc (.int .u64 (l.getD i default).pri), .sc (.int .u64 (l.getD i default).seq)] := by
  have e : List.take 3 (List.drop 1 (steps (List.drop i l))) = List.drop 1 (List.take 4 (steps (List.drop i l))) := by rw [List.drop_take]
  rw [← List.drop_drop, steps_drop, e, steps_part h]
  rfl
attribute [local go_sem] steps_item
theorem wo_less {L : List It} {id : Int} (hd : Idn L) (h : ∃ k, k < L.length ∧ (gd L k).id = id) : (woI id L).length < L.length := by
  obtain ⟨k, hk, he⟩ := h
  rw [(woI_one hd hk he).length_eq, List.length_eraseIdx, if_pos hk]
  omega
theorem steps_law (h : List It) (l : List St) (hL : h.length ≤ 9223372036854775807) (hl : l.length ≤ 9223372036854775807) : Idl.Spec Try.prog 4 [.fz false (items h) h.length, .fz false (steps l) l.length] [] (Only (.sc (.bool true)) []) := by
  by_cases h64 : h.length ≤ 64
  · by_cases h100 : l.length ≤ 100
    · have hcs := check_spec h (by omega)
      cases hc : chk h
      · rw [hc] at hcs
        have hsa := set_a h ⟨0, 0, 0⟩ (by omega) hc
        have hda := drop_a h 0 (by omega) hc
        have hsm := same_spec h h (by omega)
        rw [show sameV h h = true from decide_eq_true rfl] at hsm
        refine sB Try.func4 Try.ntmps4 ?_
        repeat' (first
          | refine IOps_nil ?_
          | refine oS ?_
          | refine IOps_s rfl rfl ?_
          | refine oT ?_
          | refine IOps_s0 rfl ?_
          | refine oC (π := []) (hs := by first | exact awake_spec | fail) (hx := ?_)
          | refine oC (π := []) (hs := by first | exact hcs | fail) (hx := ?_)
          | refine oC (π := []) (hs := by first | exact hsa | fail) (hx := ?_)
          | refine oC (π := []) (hs := by first | exact hda | fail) (hx := ?_)
          | refine oC (π := []) (hs := by first | exact hsm | fail) (hx := ?_)
          | refine oZ ?_
          | refine oI ?_
          | refine thenI_n ?_
          | refine IWP_seq ?_
          | refine IWP_region ?_
          | refine IWP_ct rfl ?_
          | refine IWP_cf rfl ?_
          | refine IWP_skip ?_
          | refine IWP_ret ?_
          | refine IWP_block ?_
          | refine inB_n ?_
          | refine thenI_r ?_
          | refine thenI_e ?_
          | refine inB_r ?_
          | refine inB_hit ?_
          | refine inB_miss rfl ?_
          | refine IWP_exit ?_
          | refine IWP_scope ?_
          | refine IWP_label ?_
          | refine noG_n ?_
          | refine noG_r ?_
          | refine noG_e ?_
          | refine jmp_n ?_
          | refine jmp_r ?_
          | refine jmp_e ?_
          | refine jmp_g ?_
          | refine thenI_g ?_
          | refine inB_g ?_
          | refine IWP_goto ?_
          | refine Loop_n ?_
          | fail)
        exact pD [] ⟨rfl, rfl⟩
      · rw [hc] at hcs
        have hrs := rsorted_spec h (by omega)
        rw [show sortedV h = srtI h from by unfold sortedV; rw [hc]; rfl] at hrs
        refine sB Try.func4 Try.ntmps4 ?_
        repeat' (first
          | refine IOps_nil ?_
          | refine oS ?_
          | refine IOps_s rfl rfl ?_
          | refine oT ?_
          | refine IOps_s0 rfl ?_
          | refine oC (π := []) (hs := by first | exact awake_spec | fail) (hx := ?_)
          | refine oC (π := []) (hs := by first | exact hcs | fail) (hx := ?_)
          | refine oC (π := []) (hs := by first | exact hrs | fail) (hx := ?_)
          | refine oZ ?_
          | refine oI ?_
          | refine thenI_n ?_
          | refine IWP_seq ?_
          | refine IWP_region ?_
          | refine IWP_ct rfl ?_
          | refine IWP_cf rfl ?_
          | refine IWP_skip ?_
          | refine IWP_ret ?_
          | refine IWP_block ?_
          | refine inB_n ?_
          | refine thenI_r ?_
          | refine thenI_e ?_
          | refine inB_r ?_
          | refine inB_hit ?_
          | refine inB_miss rfl ?_
          | refine IWP_exit ?_
          | refine IWP_scope ?_
          | refine IWP_label ?_
          | refine noG_n ?_
          | refine noG_r ?_
          | refine noG_e ?_
          | refine jmp_n ?_
          | refine jmp_r ?_
          | refine jmp_e ?_
          | refine jmp_g ?_
          | refine thenI_g ?_
          | refine inB_g ?_
          | refine IWP_goto ?_
          | refine Loop_n ?_
          | fail)
        refine IWP_loop (fun x : List It × Nat => ⟨143, [(0, .fz false (items x.1) x.1.length), (1, .fz false (steps l) l.length), (4, .sc (.bool false)), (5, .sc (.bool true)), (10, .fz false (items (srtI x.1)) (srtI x.1).length), (11, .i64 x.2)], []⟩)
          (fun x => chk x.1 = true ∧ x.2 ≤ l.length) (fun x => l.length - x.2) (h, 0) (lR [] (h2 := by (repeat' (first | exact trivial | refine And.intro ?_ ?_)) <;> first | rfl | (show IV.fz false (IV.relabL (items _)) _ = _; rw [items_relab]) | (show IV.fz false (IV.relabL (steps _)) _ = _; rw [steps_relab]) | (refine congrArg (fun z => IV.sc (Value.int IntKind.i64 z)) ?_; simp only; omega))) ⟨hc, Nat.zero_le _⟩ ?_
        clear hrs hcs hc h64 hL
        clear h
        rintro ⟨h, i⟩ ⟨hc, hi⟩
        simp only at hc hi ⊢
        have hd := ((chk_iff h).1 hc).1
        have h64 := hd.len
        have hAp := srt_perm h
        have hAl := hAp.length_eq
        by_cases hi2 : i < l.length
        · repeat' (first
            | refine IOps_nil ?_
            | refine oS ?_
            | refine IOps_s rfl rfl ?_
            | refine oT ?_
            | refine IOps_s0 rfl ?_
            | refine oZ ?_
            | refine oI ?_
            | refine thenI_n ?_
            | refine IWP_seq ?_
            | refine IWP_region ?_
            | refine IWP_ct rfl ?_
            | refine IWP_cf rfl ?_
            | refine IWP_skip ?_
            | refine IWP_ret ?_
            | refine IWP_block ?_
            | refine inB_n ?_
            | refine thenI_r ?_
            | refine thenI_e ?_
            | refine inB_r ?_
            | refine inB_hit ?_
            | refine inB_miss rfl ?_
            | refine IWP_exit ?_
            | refine IWP_scope ?_
            | refine IWP_label ?_
            | refine noG_n ?_
            | refine noG_r ?_
            | refine noG_e ?_
            | refine jmp_n ?_
            | refine jmp_r ?_
            | refine jmp_e ?_
            | refine jmp_g ?_
            | refine thenI_g ?_
            | refine inB_g ?_
            | refine IWP_goto ?_
            | refine Loop_n ?_
            | fail)
          refine oE [] (hs := do_spec h (l.getD i default).drop ⟨(l.getD i default).id, (l.getD i default).pri, (l.getD i default).seq⟩ hc) (hx := ?_)
          rintro ⟨M, e⟩ ⟨hM, hD⟩
          simp only at hM ⊢
          have hdM := ((chk_iff M).1 hM).1
          have hM64 := hdM.len
          have hck := check_spec M (by omega)
          rw [hM] at hck
          have hso := sorted_spec M (by omega)
          rw [show sortedV M = srtI M from by unfold sortedV; rw [hM]; rfl] at hso
          have hBl := (srt_perm M).length_eq
          have hsa := same_spec (srtI M) (srtI M) (by omega)
          rw [show sameV (srtI M) (srtI M) = true from decide_eq_true rfl] at hsa
          have hsh := same_spec h h (by omega)
          rw [show sameV h h = true from decide_eq_true rfl] at hsh
          have hhas := has_spec (srtI h) (l.getD i default).id (by omega)
          rcases hD with ⟨hdr, hex, rfl, hp⟩ | ⟨hdr, hno, rfl, rfl⟩ | ⟨hdr, hx, rfl, rfl⟩ | ⟨hdr, hx, rfl, hp⟩
          · have hex2 : ∃ k, k < (srtI h).length ∧ (gd (srtI h) k).id = (l.getD i default).id := by
              obtain ⟨k, hk, he⟩ := hex
              exact has_mem ⟨_, hAp.mem_iff.2 (gd_mem hk), he⟩
            have hlt := wo_less (hd.perm hAp) hex2
            have hz : (((woI (l.getD i default).id (srtI h)).length : Int) < ((srtI h).length : Int)) := by omega
            rw [decide_eq_true hz] at hhas
            have hwo := without_spec (srtI h) (l.getD i default).id (by omega)
            rw [← wo_srt hp] at hwo
            repeat' (first
              | refine IOps_nil ?_
              | refine oS ?_
              | refine IOps_s rfl rfl ?_
              | refine oT ?_
              | refine IOps_s0 rfl ?_
              | refine oZ ?_
              | refine oI ?_
              | refine thenI_n ?_
              | refine IWP_seq ?_
              | refine IWP_region ?_
              | refine IWP_ct rfl ?_
              | refine IWP_cf rfl ?_
              | refine IWP_skip ?_
              | refine IWP_ret ?_
              | refine IWP_block ?_
              | refine inB_n ?_
              | refine thenI_r ?_
              | refine thenI_e ?_
              | refine inB_r ?_
              | refine inB_hit ?_
              | refine inB_miss rfl ?_
              | refine IWP_exit ?_
              | refine IWP_scope ?_
              | refine IWP_label ?_
              | refine noG_n ?_
              | refine noG_r ?_
              | refine noG_e ?_
              | refine jmp_n ?_
              | refine jmp_r ?_
              | refine jmp_e ?_
              | refine jmp_g ?_
              | refine thenI_g ?_
              | refine inB_g ?_
              | refine IWP_goto ?_
              | refine Loop_n ?_
              | fail)
            rw [hdr]
            repeat' (first
              | refine IOps_nil ?_
              | refine oS ?_
              | refine IOps_s rfl rfl ?_
              | refine oT ?_
              | refine IOps_s0 rfl ?_
              | refine oC (π := []) (hs := by first | exact hhas | fail) (hx := ?_)
              | refine oC (π := []) (hs := by first | exact hwo | fail) (hx := ?_)
              | refine oC (π := []) (hs := by first | exact hck | fail) (hx := ?_)
              | refine oC (π := []) (hs := by first | exact hso | fail) (hx := ?_)
              | refine oC (π := []) (hs := by first | exact hsa | fail) (hx := ?_)
              | refine oC (π := []) (hs := by first | exact hsh | fail) (hx := ?_)
              | refine oZ ?_
              | refine oI ?_
              | refine thenI_n ?_
              | refine IWP_seq ?_
              | refine IWP_region ?_
              | refine IWP_ct rfl ?_
              | refine IWP_cf rfl ?_
              | refine IWP_skip ?_
              | refine IWP_ret ?_
              | refine IWP_block ?_
              | refine inB_n ?_
              | refine thenI_r ?_
              | refine thenI_e ?_
              | refine inB_r ?_
              | refine inB_hit ?_
              | refine inB_miss rfl ?_
              | refine IWP_exit ?_
              | refine IWP_scope ?_
              | refine IWP_label ?_
              | refine noG_n ?_
              | refine noG_r ?_
              | refine noG_e ?_
              | refine jmp_n ?_
              | refine jmp_r ?_
              | refine jmp_e ?_
              | refine jmp_g ?_
              | refine thenI_g ?_
              | refine inB_g ?_
              | refine IWP_goto ?_
              | refine Loop_n ?_
              | fail)
            try rw [hdr]
            repeat' (first
              | refine IOps_nil ?_
              | refine oS ?_
              | refine IOps_s rfl rfl ?_
              | refine oT ?_
              | refine IOps_s0 rfl ?_
              | refine oC (π := []) (hs := by first | exact hhas | fail) (hx := ?_)
              | refine oC (π := []) (hs := by first | exact hwo | fail) (hx := ?_)
              | refine oC (π := []) (hs := by first | exact hck | fail) (hx := ?_)
              | refine oC (π := []) (hs := by first | exact hso | fail) (hx := ?_)
              | refine oC (π := []) (hs := by first | exact hsa | fail) (hx := ?_)
              | refine oC (π := []) (hs := by first | exact hsh | fail) (hx := ?_)
              | refine oZ ?_
              | refine oI ?_
              | refine thenI_n ?_
              | refine IWP_seq ?_
              | refine IWP_region ?_
              | refine IWP_ct rfl ?_
              | refine IWP_cf rfl ?_
              | refine IWP_skip ?_
              | refine IWP_ret ?_
              | refine IWP_block ?_
              | refine inB_n ?_
              | refine thenI_r ?_
              | refine thenI_e ?_
              | refine inB_r ?_
              | refine inB_hit ?_
              | refine inB_miss rfl ?_
              | refine IWP_exit ?_
              | refine IWP_scope ?_
              | refine IWP_label ?_
              | refine noG_n ?_
              | refine noG_r ?_
              | refine noG_e ?_
              | refine jmp_n ?_
              | refine jmp_r ?_
              | refine jmp_e ?_
              | refine jmp_g ?_
              | refine thenI_g ?_
              | refine inB_g ?_
              | refine IWP_goto ?_
              | refine Loop_n ?_
              | fail)
            exact ⟨(M, i + 1), ⟨hM, hi2⟩, by simp only; omega, lR [] (h2 := by (repeat' (first | exact trivial | refine And.intro ?_ ?_)) <;> first | rfl | (show IV.fz false (IV.relabL (items _)) _ = _; rw [items_relab]) | (show IV.fz false (IV.relabL (steps _)) _ = _; rw [steps_relab]) | (refine congrArg (fun z => IV.sc (Value.int IntKind.i64 z)) ?_; simp only; omega))⟩
          · have hno2 : woI (l.getD i default).id (srtI M) = srtI M := woI_none fun j hj he => by
              have hm := hAp.mem_iff.1 (gd_mem hj)
              obtain ⟨k, hk, hk2⟩ := List.getElem_of_mem hm
              exact hno k hk (by rw [gd_eq hk, hk2]; exact he)
            have hz : ¬ (((woI (l.getD i default).id (srtI M)).length : Int) < ((srtI M).length : Int)) := by rw [hno2]; omega
            rw [decide_eq_false hz] at hhas
            repeat' (first
              | refine IOps_nil ?_
              | refine oS ?_
              | refine IOps_s rfl rfl ?_
              | refine oT ?_
              | refine IOps_s0 rfl ?_
              | refine oZ ?_
              | refine oI ?_
              | refine thenI_n ?_
              | refine IWP_seq ?_
              | refine IWP_region ?_
              | refine IWP_ct rfl ?_
              | refine IWP_cf rfl ?_
              | refine IWP_skip ?_
              | refine IWP_ret ?_
              | refine IWP_block ?_
              | refine inB_n ?_
              | refine thenI_r ?_
              | refine thenI_e ?_
              | refine inB_r ?_
              | refine inB_hit ?_
              | refine inB_miss rfl ?_
              | refine IWP_exit ?_
              | refine IWP_scope ?_
              | refine IWP_label ?_
              | refine noG_n ?_
              | refine noG_r ?_
              | refine noG_e ?_
              | refine jmp_n ?_
              | refine jmp_r ?_
              | refine jmp_e ?_
              | refine jmp_g ?_
              | refine thenI_g ?_
              | refine inB_g ?_
              | refine IWP_goto ?_
              | refine Loop_n ?_
              | fail)
            rw [hdr]
            repeat' (first
              | refine IOps_nil ?_
              | refine oS ?_
              | refine IOps_s rfl rfl ?_
              | refine oT ?_
              | refine IOps_s0 rfl ?_
              | refine oC (π := []) (hs := by first | exact hhas | fail) (hx := ?_)
              | refine oC (π := []) (hs := by first | exact hck | fail) (hx := ?_)
              | refine oC (π := []) (hs := by first | exact hso | fail) (hx := ?_)
              | refine oC (π := []) (hs := by first | exact hsa | fail) (hx := ?_)
              | refine oC (π := []) (hs := by first | exact hsh | fail) (hx := ?_)
              | refine oZ ?_
              | refine oI ?_
              | refine thenI_n ?_
              | refine IWP_seq ?_
              | refine IWP_region ?_
              | refine IWP_ct rfl ?_
              | refine IWP_cf rfl ?_
              | refine IWP_skip ?_
              | refine IWP_ret ?_
              | refine IWP_block ?_
              | refine inB_n ?_
              | refine thenI_r ?_
              | refine thenI_e ?_
              | refine inB_r ?_
              | refine inB_hit ?_
              | refine inB_miss rfl ?_
              | refine IWP_exit ?_
              | refine IWP_scope ?_
              | refine IWP_label ?_
              | refine noG_n ?_
              | refine noG_r ?_
              | refine noG_e ?_
              | refine jmp_n ?_
              | refine jmp_r ?_
              | refine jmp_e ?_
              | refine jmp_g ?_
              | refine thenI_g ?_
              | refine inB_g ?_
              | refine IWP_goto ?_
              | refine Loop_n ?_
              | fail)
            try rw [hdr]
            repeat' (first
              | refine IOps_nil ?_
              | refine oS ?_
              | refine IOps_s rfl rfl ?_
              | refine oT ?_
              | refine IOps_s0 rfl ?_
              | refine oC (π := []) (hs := by first | exact hhas | fail) (hx := ?_)
              | refine oC (π := []) (hs := by first | exact hck | fail) (hx := ?_)
              | refine oC (π := []) (hs := by first | exact hso | fail) (hx := ?_)
              | refine oC (π := []) (hs := by first | exact hsa | fail) (hx := ?_)
              | refine oC (π := []) (hs := by first | exact hsh | fail) (hx := ?_)
              | refine oZ ?_
              | refine oI ?_
              | refine thenI_n ?_
              | refine IWP_seq ?_
              | refine IWP_region ?_
              | refine IWP_ct rfl ?_
              | refine IWP_cf rfl ?_
              | refine IWP_skip ?_
              | refine IWP_ret ?_
              | refine IWP_block ?_
              | refine inB_n ?_
              | refine thenI_r ?_
              | refine thenI_e ?_
              | refine inB_r ?_
              | refine inB_hit ?_
              | refine inB_miss rfl ?_
              | refine IWP_exit ?_
              | refine IWP_scope ?_
              | refine IWP_label ?_
              | refine noG_n ?_
              | refine noG_r ?_
              | refine noG_e ?_
              | refine jmp_n ?_
              | refine jmp_r ?_
              | refine jmp_e ?_
              | refine jmp_g ?_
              | refine thenI_g ?_
              | refine inB_g ?_
              | refine IWP_goto ?_
              | refine Loop_n ?_
              | fail)
            exact ⟨(M, i + 1), ⟨hM, hi2⟩, by simp only; omega, lR [] (h2 := by (repeat' (first | exact trivial | refine And.intro ?_ ?_)) <;> first | rfl | (show IV.fz false (IV.relabL (items _)) _ = _; rw [items_relab]) | (show IV.fz false (IV.relabL (steps _)) _ = _; rw [steps_relab]) | (refine congrArg (fun z => IV.sc (Value.int IntKind.i64 z)) ?_; simp only; omega))⟩
          · have hx : ¬ (0 ≤ (l.getD i default).id ∧ (l.getD i default).id < 64) := hx
            by_cases hx0 : (l.getD i default).id < 0
            · repeat' (first
                | refine IOps_nil ?_
                | refine oS ?_
                | refine IOps_s rfl rfl ?_
                | refine oT ?_
                | refine IOps_s0 rfl ?_
                | refine oZ ?_
                | refine oI ?_
                | refine thenI_n ?_
                | refine IWP_seq ?_
                | refine IWP_region ?_
                | refine IWP_ct rfl ?_
                | refine IWP_cf rfl ?_
                | refine IWP_skip ?_
                | refine IWP_ret ?_
                | refine IWP_block ?_
                | refine inB_n ?_
                | refine thenI_r ?_
                | refine thenI_e ?_
                | refine inB_r ?_
                | refine inB_hit ?_
                | refine inB_miss rfl ?_
                | refine IWP_exit ?_
                | refine IWP_scope ?_
                | refine IWP_label ?_
                | refine noG_n ?_
                | refine noG_r ?_
                | refine noG_e ?_
                | refine jmp_n ?_
                | refine jmp_r ?_
                | refine jmp_e ?_
                | refine jmp_g ?_
                | refine thenI_g ?_
                | refine inB_g ?_
                | refine IWP_goto ?_
                | refine Loop_n ?_
                | fail)
              rw [hdr]
              repeat' (first
                | refine IOps_nil ?_
                | refine oS ?_
                | refine IOps_s rfl rfl ?_
                | refine oT ?_
                | refine IOps_s0 rfl ?_
                | refine oC (π := []) (hs := by first | exact hhas | fail) (hx := ?_)
                | refine oC (π := []) (hs := by first | exact hck | fail) (hx := ?_)
                | refine oC (π := []) (hs := by first | exact hso | fail) (hx := ?_)
                | refine oC (π := []) (hs := by first | exact hsa | fail) (hx := ?_)
                | refine oC (π := []) (hs := by first | exact hsh | fail) (hx := ?_)
                | refine oZ ?_
                | refine oI ?_
                | refine thenI_n ?_
                | refine IWP_seq ?_
                | refine IWP_region ?_
                | refine IWP_ct rfl ?_
                | refine IWP_cf rfl ?_
                | refine IWP_skip ?_
                | refine IWP_ret ?_
                | refine IWP_block ?_
                | refine inB_n ?_
                | refine thenI_r ?_
                | refine thenI_e ?_
                | refine inB_r ?_
                | refine inB_hit ?_
                | refine inB_miss rfl ?_
                | refine IWP_exit ?_
                | refine IWP_scope ?_
                | refine IWP_label ?_
                | refine noG_n ?_
                | refine noG_r ?_
                | refine noG_e ?_
                | refine jmp_n ?_
                | refine jmp_r ?_
                | refine jmp_e ?_
                | refine jmp_g ?_
                | refine thenI_g ?_
                | refine inB_g ?_
                | refine IWP_goto ?_
                | refine Loop_n ?_
                | fail)
              try rw [hdr]
              repeat' (first
                | refine IOps_nil ?_
                | refine oS ?_
                | refine IOps_s rfl rfl ?_
                | refine oT ?_
                | refine IOps_s0 rfl ?_
                | refine oC (π := []) (hs := by first | exact hhas | fail) (hx := ?_)
                | refine oC (π := []) (hs := by first | exact hck | fail) (hx := ?_)
                | refine oC (π := []) (hs := by first | exact hso | fail) (hx := ?_)
                | refine oC (π := []) (hs := by first | exact hsa | fail) (hx := ?_)
                | refine oC (π := []) (hs := by first | exact hsh | fail) (hx := ?_)
                | refine oZ ?_
                | refine oI ?_
                | refine thenI_n ?_
                | refine IWP_seq ?_
                | refine IWP_region ?_
                | refine IWP_ct rfl ?_
                | refine IWP_cf rfl ?_
                | refine IWP_skip ?_
                | refine IWP_ret ?_
                | refine IWP_block ?_
                | refine inB_n ?_
                | refine thenI_r ?_
                | refine thenI_e ?_
                | refine inB_r ?_
                | refine inB_hit ?_
                | refine inB_miss rfl ?_
                | refine IWP_exit ?_
                | refine IWP_scope ?_
                | refine IWP_label ?_
                | refine noG_n ?_
                | refine noG_r ?_
                | refine noG_e ?_
                | refine jmp_n ?_
                | refine jmp_r ?_
                | refine jmp_e ?_
                | refine jmp_g ?_
                | refine thenI_g ?_
                | refine inB_g ?_
                | refine IWP_goto ?_
                | refine Loop_n ?_
                | fail)
              exact ⟨(M, i + 1), ⟨hM, hi2⟩, by simp only; omega, lR [] (h2 := by (repeat' (first | exact trivial | refine And.intro ?_ ?_)) <;> first | rfl | (show IV.fz false (IV.relabL (items _)) _ = _; rw [items_relab]) | (show IV.fz false (IV.relabL (steps _)) _ = _; rw [steps_relab]) | (refine congrArg (fun z => IV.sc (Value.int IntKind.i64 z)) ?_; simp only; omega))⟩
            · have hx1 : 63 < (l.getD i default).id := by omega
              repeat' (first
                | refine IOps_nil ?_
                | refine oS ?_
                | refine IOps_s rfl rfl ?_
                | refine oT ?_
                | refine IOps_s0 rfl ?_
                | refine oZ ?_
                | refine oI ?_
                | refine thenI_n ?_
                | refine IWP_seq ?_
                | refine IWP_region ?_
                | refine IWP_ct rfl ?_
                | refine IWP_cf rfl ?_
                | refine IWP_skip ?_
                | refine IWP_ret ?_
                | refine IWP_block ?_
                | refine inB_n ?_
                | refine thenI_r ?_
                | refine thenI_e ?_
                | refine inB_r ?_
                | refine inB_hit ?_
                | refine inB_miss rfl ?_
                | refine IWP_exit ?_
                | refine IWP_scope ?_
                | refine IWP_label ?_
                | refine noG_n ?_
                | refine noG_r ?_
                | refine noG_e ?_
                | refine jmp_n ?_
                | refine jmp_r ?_
                | refine jmp_e ?_
                | refine jmp_g ?_
                | refine thenI_g ?_
                | refine inB_g ?_
                | refine IWP_goto ?_
                | refine Loop_n ?_
                | fail)
              rw [hdr]
              repeat' (first
                | refine IOps_nil ?_
                | refine oS ?_
                | refine IOps_s rfl rfl ?_
                | refine oT ?_
                | refine IOps_s0 rfl ?_
                | refine oC (π := []) (hs := by first | exact hhas | fail) (hx := ?_)
                | refine oC (π := []) (hs := by first | exact hck | fail) (hx := ?_)
                | refine oC (π := []) (hs := by first | exact hso | fail) (hx := ?_)
                | refine oC (π := []) (hs := by first | exact hsa | fail) (hx := ?_)
                | refine oC (π := []) (hs := by first | exact hsh | fail) (hx := ?_)
                | refine oZ ?_
                | refine oI ?_
                | refine thenI_n ?_
                | refine IWP_seq ?_
                | refine IWP_region ?_
                | refine IWP_ct rfl ?_
                | refine IWP_cf rfl ?_
                | refine IWP_skip ?_
                | refine IWP_ret ?_
                | refine IWP_block ?_
                | refine inB_n ?_
                | refine thenI_r ?_
                | refine thenI_e ?_
                | refine inB_r ?_
                | refine inB_hit ?_
                | refine inB_miss rfl ?_
                | refine IWP_exit ?_
                | refine IWP_scope ?_
                | refine IWP_label ?_
                | refine noG_n ?_
                | refine noG_r ?_
                | refine noG_e ?_
                | refine jmp_n ?_
                | refine jmp_r ?_
                | refine jmp_e ?_
                | refine jmp_g ?_
                | refine thenI_g ?_
                | refine inB_g ?_
                | refine IWP_goto ?_
                | refine Loop_n ?_
                | fail)
              try rw [hdr]
              repeat' (first
                | refine IOps_nil ?_
                | refine oS ?_
                | refine IOps_s rfl rfl ?_
                | refine oT ?_
                | refine IOps_s0 rfl ?_
                | refine oC (π := []) (hs := by first | exact hhas | fail) (hx := ?_)
                | refine oC (π := []) (hs := by first | exact hck | fail) (hx := ?_)
                | refine oC (π := []) (hs := by first | exact hso | fail) (hx := ?_)
                | refine oC (π := []) (hs := by first | exact hsa | fail) (hx := ?_)
                | refine oC (π := []) (hs := by first | exact hsh | fail) (hx := ?_)
                | refine oZ ?_
                | refine oI ?_
                | refine thenI_n ?_
                | refine IWP_seq ?_
                | refine IWP_region ?_
                | refine IWP_ct rfl ?_
                | refine IWP_cf rfl ?_
                | refine IWP_skip ?_
                | refine IWP_ret ?_
                | refine IWP_block ?_
                | refine inB_n ?_
                | refine thenI_r ?_
                | refine thenI_e ?_
                | refine inB_r ?_
                | refine inB_hit ?_
                | refine inB_miss rfl ?_
                | refine IWP_exit ?_
                | refine IWP_scope ?_
                | refine IWP_label ?_
                | refine noG_n ?_
                | refine noG_r ?_
                | refine noG_e ?_
                | refine jmp_n ?_
                | refine jmp_r ?_
                | refine jmp_e ?_
                | refine jmp_g ?_
                | refine thenI_g ?_
                | refine inB_g ?_
                | refine IWP_goto ?_
                | refine Loop_n ?_
                | fail)
              exact ⟨(M, i + 1), ⟨hM, hi2⟩, by simp only; omega, lR [] (h2 := by (repeat' (first | exact trivial | refine And.intro ?_ ?_)) <;> first | rfl | (show IV.fz false (IV.relabL (items _)) _ = _; rw [items_relab]) | (show IV.fz false (IV.relabL (steps _)) _ = _; rw [steps_relab]) | (refine congrArg (fun z => IV.sc (Value.int IntKind.i64 z)) ?_; simp only; omega))⟩
          · have hx2 : 0 ≤ (l.getD i default).id ∧ (l.getD i default).id < 64 := hx
            have hwi := with_spec (srtI h) ⟨(l.getD i default).id, (l.getD i default).pri, (l.getD i default).seq⟩ (by omega)
            rw [← with_srt hd _ rfl hx M hp] at hwi
            obtain ⟨hx3, hx4⟩ := hx2
            repeat' (first
              | refine IOps_nil ?_
              | refine oS ?_
              | refine IOps_s rfl rfl ?_
              | refine oT ?_
              | refine IOps_s0 rfl ?_
              | refine oZ ?_
              | refine oI ?_
              | refine thenI_n ?_
              | refine IWP_seq ?_
              | refine IWP_region ?_
              | refine IWP_ct rfl ?_
              | refine IWP_cf rfl ?_
              | refine IWP_skip ?_
              | refine IWP_ret ?_
              | refine IWP_block ?_
              | refine inB_n ?_
              | refine thenI_r ?_
              | refine thenI_e ?_
              | refine inB_r ?_
              | refine inB_hit ?_
              | refine inB_miss rfl ?_
              | refine IWP_exit ?_
              | refine IWP_scope ?_
              | refine IWP_label ?_
              | refine noG_n ?_
              | refine noG_r ?_
              | refine noG_e ?_
              | refine jmp_n ?_
              | refine jmp_r ?_
              | refine jmp_e ?_
              | refine jmp_g ?_
              | refine thenI_g ?_
              | refine inB_g ?_
              | refine IWP_goto ?_
              | refine Loop_n ?_
              | fail)
            rw [hdr]
            repeat' (first
              | refine IOps_nil ?_
              | refine oS ?_
              | refine IOps_s rfl rfl ?_
              | refine oT ?_
              | refine IOps_s0 rfl ?_
              | refine oC (π := []) (hs := by first | exact hhas | fail) (hx := ?_)
              | refine oC (π := []) (hs := by first | exact hwi | fail) (hx := ?_)
              | refine oC (π := []) (hs := by first | exact hck | fail) (hx := ?_)
              | refine oC (π := []) (hs := by first | exact hso | fail) (hx := ?_)
              | refine oC (π := []) (hs := by first | exact hsa | fail) (hx := ?_)
              | refine oC (π := []) (hs := by first | exact hsh | fail) (hx := ?_)
              | refine oZ ?_
              | refine oI ?_
              | refine thenI_n ?_
              | refine IWP_seq ?_
              | refine IWP_region ?_
              | refine IWP_ct rfl ?_
              | refine IWP_cf rfl ?_
              | refine IWP_skip ?_
              | refine IWP_ret ?_
              | refine IWP_block ?_
              | refine inB_n ?_
              | refine thenI_r ?_
              | refine thenI_e ?_
              | refine inB_r ?_
              | refine inB_hit ?_
              | refine inB_miss rfl ?_
              | refine IWP_exit ?_
              | refine IWP_scope ?_
              | refine IWP_label ?_
              | refine noG_n ?_
              | refine noG_r ?_
              | refine noG_e ?_
              | refine jmp_n ?_
              | refine jmp_r ?_
              | refine jmp_e ?_
              | refine jmp_g ?_
              | refine thenI_g ?_
              | refine inB_g ?_
              | refine IWP_goto ?_
              | refine Loop_n ?_
              | fail)
            try rw [hdr]
            repeat' (first
              | refine IOps_nil ?_
              | refine oS ?_
              | refine IOps_s rfl rfl ?_
              | refine oT ?_
              | refine IOps_s0 rfl ?_
              | refine oC (π := []) (hs := by first | exact hhas | fail) (hx := ?_)
              | refine oC (π := []) (hs := by first | exact hwi | fail) (hx := ?_)
              | refine oC (π := []) (hs := by first | exact hck | fail) (hx := ?_)
              | refine oC (π := []) (hs := by first | exact hso | fail) (hx := ?_)
              | refine oC (π := []) (hs := by first | exact hsa | fail) (hx := ?_)
              | refine oC (π := []) (hs := by first | exact hsh | fail) (hx := ?_)
              | refine oZ ?_
              | refine oI ?_
              | refine thenI_n ?_
              | refine IWP_seq ?_
              | refine IWP_region ?_
              | refine IWP_ct rfl ?_
              | refine IWP_cf rfl ?_
              | refine IWP_skip ?_
              | refine IWP_ret ?_
              | refine IWP_block ?_
              | refine inB_n ?_
              | refine thenI_r ?_
              | refine thenI_e ?_
              | refine inB_r ?_
              | refine inB_hit ?_
              | refine inB_miss rfl ?_
              | refine IWP_exit ?_
              | refine IWP_scope ?_
              | refine IWP_label ?_
              | refine noG_n ?_
              | refine noG_r ?_
              | refine noG_e ?_
              | refine jmp_n ?_
              | refine jmp_r ?_
              | refine jmp_e ?_
              | refine jmp_g ?_
              | refine thenI_g ?_
              | refine inB_g ?_
              | refine IWP_goto ?_
              | refine Loop_n ?_
              | fail)
            exact ⟨(M, i + 1), ⟨hM, hi2⟩, by simp only; omega, lR [] (h2 := by (repeat' (first | exact trivial | refine And.intro ?_ ?_)) <;> first | rfl | (show IV.fz false (IV.relabL (items _)) _ = _; rw [items_relab]) | (show IV.fz false (IV.relabL (steps _)) _ = _; rw [steps_relab]) | (refine congrArg (fun z => IV.sc (Value.int IntKind.i64 z)) ?_; simp only; omega))⟩
        · repeat' (first
            | refine IOps_nil ?_
            | refine oS ?_
            | refine IOps_s rfl rfl ?_
            | refine oT ?_
            | refine IOps_s0 rfl ?_
            | refine oZ ?_
            | refine oI ?_
            | refine thenI_n ?_
            | refine IWP_seq ?_
            | refine IWP_region ?_
            | refine IWP_ct rfl ?_
            | refine IWP_cf rfl ?_
            | refine IWP_skip ?_
            | refine IWP_ret ?_
            | refine IWP_block ?_
            | refine inB_n ?_
            | refine thenI_r ?_
            | refine thenI_e ?_
            | refine inB_r ?_
            | refine inB_hit ?_
            | refine inB_miss rfl ?_
            | refine IWP_exit ?_
            | refine IWP_scope ?_
            | refine IWP_label ?_
            | refine noG_n ?_
            | refine noG_r ?_
            | refine noG_e ?_
            | refine jmp_n ?_
            | refine jmp_r ?_
            | refine jmp_e ?_
            | refine jmp_g ?_
            | refine thenI_g ?_
            | refine inB_g ?_
            | refine IWP_goto ?_
            | refine Loop_n ?_
            | fail)
          exact pD [] ⟨rfl, rfl⟩
    · refine sB Try.func4 Try.ntmps4 ?_
      repeat' (first
        | refine IOps_nil ?_
        | refine oS ?_
        | refine IOps_s rfl rfl ?_
        | refine oT ?_
        | refine IOps_s0 rfl ?_
        | refine oC (π := []) (hs := by first | exact awake_spec | fail) (hx := ?_)
        | refine oZ ?_
        | refine oI ?_
        | refine thenI_n ?_
        | refine IWP_seq ?_
        | refine IWP_region ?_
        | refine IWP_ct rfl ?_
        | refine IWP_cf rfl ?_
        | refine IWP_skip ?_
        | refine IWP_ret ?_
        | refine IWP_block ?_
        | refine inB_n ?_
        | refine thenI_r ?_
        | refine thenI_e ?_
        | refine inB_r ?_
        | refine inB_hit ?_
        | refine inB_miss rfl ?_
        | refine IWP_exit ?_
        | refine IWP_scope ?_
        | refine IWP_label ?_
        | refine noG_n ?_
        | refine noG_r ?_
        | refine noG_e ?_
        | refine jmp_n ?_
        | refine jmp_r ?_
        | refine jmp_e ?_
        | refine jmp_g ?_
        | refine thenI_g ?_
        | refine inB_g ?_
        | refine IWP_goto ?_
        | refine Loop_n ?_
        | fail)
      exact pD [] ⟨rfl, rfl⟩
  · refine sB Try.func4 Try.ntmps4 ?_
    repeat' (first
      | refine IOps_nil ?_
      | refine oS ?_
      | refine IOps_s rfl rfl ?_
      | refine oT ?_
      | refine IOps_s0 rfl ?_
      | refine oC (π := []) (hs := by first | exact awake_spec | fail) (hx := ?_)
      | refine oZ ?_
      | refine oI ?_
      | refine thenI_n ?_
      | refine IWP_seq ?_
      | refine IWP_region ?_
      | refine IWP_ct rfl ?_
      | refine IWP_cf rfl ?_
      | refine IWP_skip ?_
      | refine IWP_ret ?_
      | refine IWP_block ?_
      | refine inB_n ?_
      | refine thenI_r ?_
      | refine thenI_e ?_
      | refine inB_r ?_
      | refine inB_hit ?_
      | refine inB_miss rfl ?_
      | refine IWP_exit ?_
      | refine IWP_scope ?_
      | refine IWP_label ?_
      | refine noG_n ?_
      | refine noG_r ?_
      | refine noG_e ?_
      | refine jmp_n ?_
      | refine jmp_r ?_
      | refine jmp_e ?_
      | refine jmp_g ?_
      | refine thenI_g ?_
      | refine inB_g ?_
      | refine IWP_goto ?_
      | refine Loop_n ?_
      | fail)
    exact pD [] ⟨rfl, rfl⟩
end Go.Proofs.Ytnlelckfhlcbgaa
