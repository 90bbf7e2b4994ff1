/-
  Sorting, at records: the heap.
-/
import Derived.Test.YtnlelckfhlcbgaaSorA
namespace Go.Proofs.Ytnlelckfhlcbgaa
open Go Go.Idl
set_option linter.unusedSimpArgs false
set_option linter.unusedVariables false
set_option linter.unusedSectionVars false
set_option maxRecDepth 100000
set_option maxHeartbeats 1000000
attribute [local irreducible] Go.Idl.IWP Go.Idl.IOps Go.Idl.Obl Go.Idl.OpG Go.Idl.thenI Go.Idl.inBlockI Go.Idl.LoopU Go.Idl.noGotoI Go.Idl.jumpI
attribute [local go_sem] List.length_set
theorem tn_x1 (r : Nat) : (2 : Int) * r + 1 = ((2 * r + 1 : Nat) : Int) := by omega
theorem tn_x2 (f k : Nat) : ((f : Int) + ((k : Int) + 1)).toNat = f + (k + 1) := by omega
theorem tn_x3 (a b : Nat) : ((a : Int) + (b : Int) + 1).toNat = a + b + 1 := by omega
attribute [local go_sem] tn_x1 tn_x2 tn_x3
section
variable {c : It → It → Int} {kc : FuncId} (hc : ∀ x y : It, Idl.Spec Try.prog kc [.agg [.sc (.int .i64 x.id), .sc (.int .u64 x.pri), .sc (.int .u64 x.seq)], .agg [.sc (.int .i64 y.id), .sc (.int .u64 y.pri), .sc (.int .u64 y.seq)]] [] (Only (.i64 (c x y)) []))
include hc
theorem sift_spec (L : List It) (lo hi f cap : Nat) (oc : OrdL fun x y => decide (c x y < 0)) (hf : f + hi ≤ L.length) (hL : L.length ≤ 1000000000) (hlo : lo ≤ 1000000000) (hH : HP (fun x y => decide (c x y < 0)) f (lo + 1) hi L) :
    Idl.Spec Try.prog 87 [.sl 0 0 L.length cap 3, .i64 lo, .i64 hi, .i64 f, .fn (.func kc) [] []] [.arr false (items L)]
      (Ex (fun M : List It => PS f (f + hi) L M ∧ HP (fun x y => decide (c x y < 0)) f lo hi M) (fun _ => .tup []) (fun M => [.arr false (items M)])) := by
  refine sE Try.func87 Try.ntmps87 ?_
  repeat' (first
    | refine IOps_nil ?_
    | refine oS ?_
    | refine IOps_s rfl rfl ?_
    | refine oT ?_
    | refine IOps_s0 rfl ?_
    | refine oC (π := []) (hs := by first | exact hc _ _ | fail) (hx := ?_)
    | refine oZ ?_
    | refine oI ?_
    | refine thenI_n ?_
    | refine IWP_seq ?_
    | refine IWP_region ?_
    | refine IWP_ct rfl ?_
    | refine IWP_cf rfl ?_
    | refine IWP_skip ?_
    | refine IWP_ret ?_
    | refine IWP_block ?_
    | refine inB_n ?_
    | refine thenI_r ?_
    | refine thenI_e ?_
    | refine inB_r ?_
    | refine inB_hit ?_
    | refine inB_miss rfl ?_
    | refine IWP_exit ?_
    | refine IWP_scope ?_
    | refine IWP_label ?_
    | refine noG_n ?_
    | refine noG_r ?_
    | refine noG_e ?_
    | refine jmp_n ?_
    | refine jmp_r ?_
    | refine jmp_e ?_
    | refine jmp_g ?_
    | refine thenI_g ?_
    | refine inB_g ?_
    | refine IWP_goto ?_
    | refine Loop_n ?_
    | refine oD (id := 3) W87_3 [] O87_3 [_, _, _, _, _, _, _, _, _, _, _, _, _, _, _, _, _, _, _, _, _, _] [_] rfl (by repeat' (first | exact trivial | refine And.intro ?_ ?_ | exact bS | exact bX | exact bZ | exact bI | exact bC (π := []) (hs := by first | exact hc _ _ | fail) | fail)) ?_
    | refine oD (id := 5) W87_5 [] O87_5 [_, _, _, _, _, _, _, _, _, _, _, _, _, _, _, _] [_] rfl (by repeat' (first | exact trivial | refine And.intro ?_ ?_ | exact bS | exact bX | exact bZ | exact bI | exact bC (π := []) (hs := by first | exact hc _ _ | fail) | fail)) ?_
    | refine oD (id := 6) W87_6 [21, 23] O87_6 [_, _, _, _, _, _, _, _, _, _, _, _, _, _, _, _, _, _, _, _, _, _, _, _] [_, _, _] rfl (by repeat' (first | exact trivial | refine And.intro ?_ ?_ | exact bS | exact bX | exact bZ | exact bI | exact bC (π := []) (hs := by first | exact hc _ _ | fail) | fail)) ?_
    | fail)
  refine IWP_loop (fun x : List It × Nat => ⟨82, [(0, .sl 0 0 L.length cap 3), (1, .i64 lo), (2, .i64 hi), (3, .i64 f), (4, .fn (.func kc) [] []), (10, .i64 x.2)], [.arr false (items x.1)]⟩)
    (fun x => PS f (f + hi) L x.1 ∧ Dn (fun x y => decide (c x y < 0)) f lo hi x.2 x.1 ∧ lo ≤ x.2 ∧ (x.2 < hi ∨ x.2 = lo)) (fun x => hi - x.2) (L, lo) (lP [0]) ⟨.refl _ _ _, Dn.start hH, Nat.le_refl _, .inr rfl⟩ ?_
  rintro ⟨M, r⟩ ⟨hp, hs, hr, hr2⟩
  replace hp : PS f (f + hi) L M := hp
  have hl := hp.len
  simp only at hs hr hr2 ⊢
  by_cases h1 : 2 * r + 1 < hi
  · have e1 : f + (2 * r + 1) < M.length := by omega
    by_cases h2 : 2 * r + 2 < hi
    · by_cases h3 : c (gd M (f + (2 * r + 1))) (gd M (f + (2 * r + 1) + 1)) < 0
      · by_cases h4 : c (gd M (f + r)) (gd M (f + (2 * r + 1 + 1))) < 0
        · repeat' (first
            | refine IOps_nil ?_
            | refine oS ?_
            | refine IOps_s rfl rfl ?_
            | refine oT ?_
            | refine IOps_s0 rfl ?_
            | refine oC (π := []) (hs := by first | exact hc _ _ | fail) (hx := ?_)
            | refine oZ ?_
            | refine oI ?_
            | refine thenI_n ?_
            | refine IWP_seq ?_
            | refine IWP_region ?_
            | refine IWP_ct rfl ?_
            | refine IWP_cf rfl ?_
            | refine IWP_skip ?_
            | refine IWP_ret ?_
            | refine IWP_block ?_
            | refine inB_n ?_
            | refine thenI_r ?_
            | refine thenI_e ?_
            | refine inB_r ?_
            | refine inB_hit ?_
            | refine inB_miss rfl ?_
            | refine IWP_exit ?_
            | refine IWP_scope ?_
            | refine IWP_label ?_
            | refine noG_n ?_
            | refine noG_r ?_
            | refine noG_e ?_
            | refine jmp_n ?_
            | refine jmp_r ?_
            | refine jmp_e ?_
            | refine jmp_g ?_
            | refine thenI_g ?_
            | refine inB_g ?_
            | refine IWP_goto ?_
            | refine Loop_n ?_
            | refine oD (id := 3) W87_3 [] O87_3 [_, _, _, _, _, _, _, _, _, _, _, _, _, _, _, _, _, _, _, _, _, _] [_] rfl (by repeat' (first | exact trivial | refine And.intro ?_ ?_ | exact bS | exact bX | exact bZ | exact bI | exact bC (π := []) (hs := by first | exact hc _ _ | fail) | fail)) ?_
            | refine oD (id := 5) W87_5 [] O87_5 [_, _, _, _, _, _, _, _, _, _, _, _, _, _, _, _] [_] rfl (by repeat' (first | exact trivial | refine And.intro ?_ ?_ | exact bS | exact bX | exact bZ | exact bI | exact bC (π := []) (hs := by first | exact hc _ _ | fail) | fail)) ?_
            | refine oD (id := 6) W87_6 [21, 23] O87_6 [_, _, _, _, _, _, _, _, _, _, _, _, _, _, _, _, _, _, _, _, _, _, _, _] [_, _, _] rfl (by repeat' (first | exact trivial | refine And.intro ?_ ?_ | exact bS | exact bX | exact bZ | exact bI | exact bC (π := []) (hs := by first | exact hc _ _ | fail) | fail)) ?_
            | fail)
          refine ⟨(sw M (f + r) (f + (2 * r + 2)), 2 * r + 2), ⟨hp.trans (.sw (by omega) (by omega) (by omega) (by omega) (by omega)), Dn.step oc hs hr (.inr rfl) h2 (by omega) (decide_eq_true h4) (fun d hd hd2 => ?_), by omega, .inl h2⟩, by simp only; omega, lP [0]⟩
          rcases hd with rfl | rfl
          · exact oc.asym _ _ (decide_eq_true h3)
          · exact oc.irr _
        · repeat' (first
            | refine IOps_nil ?_
            | refine oS ?_
            | refine IOps_s rfl rfl ?_
            | refine oT ?_
            | refine IOps_s0 rfl ?_
            | refine oC (π := []) (hs := by first | exact hc _ _ | fail) (hx := ?_)
            | refine oZ ?_
            | refine oI ?_
            | refine thenI_n ?_
            | refine IWP_seq ?_
            | refine IWP_region ?_
            | refine IWP_ct rfl ?_
            | refine IWP_cf rfl ?_
            | refine IWP_skip ?_
            | refine IWP_ret ?_
            | refine IWP_block ?_
            | refine inB_n ?_
            | refine thenI_r ?_
            | refine thenI_e ?_
            | refine inB_r ?_
            | refine inB_hit ?_
            | refine inB_miss rfl ?_
            | refine IWP_exit ?_
            | refine IWP_scope ?_
            | refine IWP_label ?_
            | refine noG_n ?_
            | refine noG_r ?_
            | refine noG_e ?_
            | refine jmp_n ?_
            | refine jmp_r ?_
            | refine jmp_e ?_
            | refine jmp_g ?_
            | refine thenI_g ?_
            | refine inB_g ?_
            | refine IWP_goto ?_
            | refine Loop_n ?_
            | refine oD (id := 3) W87_3 [] O87_3 [_, _, _, _, _, _, _, _, _, _, _, _, _, _, _, _, _, _, _, _, _, _] [_] rfl (by repeat' (first | exact trivial | refine And.intro ?_ ?_ | exact bS | exact bX | exact bZ | exact bI | exact bC (π := []) (hs := by first | exact hc _ _ | fail) | fail)) ?_
            | refine oD (id := 5) W87_5 [] O87_5 [_, _, _, _, _, _, _, _, _, _, _, _, _, _, _, _] [_] rfl (by repeat' (first | exact trivial | refine And.intro ?_ ?_ | exact bS | exact bX | exact bZ | exact bI | exact bC (π := []) (hs := by first | exact hc _ _ | fail) | fail)) ?_
            | refine oD (id := 6) W87_6 [21, 23] O87_6 [_, _, _, _, _, _, _, _, _, _, _, _, _, _, _, _, _, _, _, _, _, _, _, _] [_, _, _] rfl (by repeat' (first | exact trivial | refine And.intro ?_ ?_ | exact bS | exact bX | exact bZ | exact bI | exact bC (π := []) (hs := by first | exact hc _ _ | fail) | fail)) ?_
            | fail)
          exact pX [0] M ⟨hp, Dn.stop hs (oc.trans _ _ _ (decide_eq_false h4) (oc.asym _ _ (decide_eq_true h3))) (fun _ => decide_eq_false h4)⟩ rfl
      · by_cases h4 : c (gd M (f + r)) (gd M (f + (2 * r + 1))) < 0
        · repeat' (first
            | refine IOps_nil ?_
            | refine oS ?_
            | refine IOps_s rfl rfl ?_
            | refine oT ?_
            | refine IOps_s0 rfl ?_
            | refine oC (π := []) (hs := by first | exact hc _ _ | fail) (hx := ?_)
            | refine oZ ?_
            | refine oI ?_
            | refine thenI_n ?_
            | refine IWP_seq ?_
            | refine IWP_region ?_
            | refine IWP_ct rfl ?_
            | refine IWP_cf rfl ?_
            | refine IWP_skip ?_
            | refine IWP_ret ?_
            | refine IWP_block ?_
            | refine inB_n ?_
            | refine thenI_r ?_
            | refine thenI_e ?_
            | refine inB_r ?_
            | refine inB_hit ?_
            | refine inB_miss rfl ?_
            | refine IWP_exit ?_
            | refine IWP_scope ?_
            | refine IWP_label ?_
            | refine noG_n ?_
            | refine noG_r ?_
            | refine noG_e ?_
            | refine jmp_n ?_
            | refine jmp_r ?_
            | refine jmp_e ?_
            | refine jmp_g ?_
            | refine thenI_g ?_
            | refine inB_g ?_
            | refine IWP_goto ?_
            | refine Loop_n ?_
            | refine oD (id := 3) W87_3 [] O87_3 [_, _, _, _, _, _, _, _, _, _, _, _, _, _, _, _, _, _, _, _, _, _] [_] rfl (by repeat' (first | exact trivial | refine And.intro ?_ ?_ | exact bS | exact bX | exact bZ | exact bI | exact bC (π := []) (hs := by first | exact hc _ _ | fail) | fail)) ?_
            | refine oD (id := 5) W87_5 [] O87_5 [_, _, _, _, _, _, _, _, _, _, _, _, _, _, _, _] [_] rfl (by repeat' (first | exact trivial | refine And.intro ?_ ?_ | exact bS | exact bX | exact bZ | exact bI | exact bC (π := []) (hs := by first | exact hc _ _ | fail) | fail)) ?_
            | refine oD (id := 6) W87_6 [21, 23] O87_6 [_, _, _, _, _, _, _, _, _, _, _, _, _, _, _, _, _, _, _, _, _, _, _, _] [_, _, _] rfl (by repeat' (first | exact trivial | refine And.intro ?_ ?_ | exact bS | exact bX | exact bZ | exact bI | exact bC (π := []) (hs := by first | exact hc _ _ | fail) | fail)) ?_
            | fail)
          refine ⟨(sw M (f + r) (f + (2 * r + 1)), 2 * r + 1), ⟨hp.trans (.sw (by omega) (by omega) (by omega) (by omega) (by omega)), Dn.step oc hs hr (.inl rfl) h1 (by omega) (decide_eq_true h4) (fun d hd hd2 => ?_), by omega, .inl h1⟩, by simp only; omega, lP [0]⟩
          rcases hd with rfl | rfl
          · exact oc.irr _
          · exact decide_eq_false h3
        · repeat' (first
            | refine IOps_nil ?_
            | refine oS ?_
            | refine IOps_s rfl rfl ?_
            | refine oT ?_
            | refine IOps_s0 rfl ?_
            | refine oC (π := []) (hs := by first | exact hc _ _ | fail) (hx := ?_)
            | refine oZ ?_
            | refine oI ?_
            | refine thenI_n ?_
            | refine IWP_seq ?_
            | refine IWP_region ?_
            | refine IWP_ct rfl ?_
            | refine IWP_cf rfl ?_
            | refine IWP_skip ?_
            | refine IWP_ret ?_
            | refine IWP_block ?_
            | refine inB_n ?_
            | refine thenI_r ?_
            | refine thenI_e ?_
            | refine inB_r ?_
            | refine inB_hit ?_
            | refine inB_miss rfl ?_
            | refine IWP_exit ?_
            | refine IWP_scope ?_
            | refine IWP_label ?_
            | refine noG_n ?_
            | refine noG_r ?_
            | refine noG_e ?_
            | refine jmp_n ?_
            | refine jmp_r ?_
            | refine jmp_e ?_
            | refine jmp_g ?_
            | refine thenI_g ?_
            | refine inB_g ?_
            | refine IWP_goto ?_
            | refine Loop_n ?_
            | refine oD (id := 3) W87_3 [] O87_3 [_, _, _, _, _, _, _, _, _, _, _, _, _, _, _, _, _, _, _, _, _, _] [_] rfl (by repeat' (first | exact trivial | refine And.intro ?_ ?_ | exact bS | exact bX | exact bZ | exact bI | exact bC (π := []) (hs := by first | exact hc _ _ | fail) | fail)) ?_
            | refine oD (id := 5) W87_5 [] O87_5 [_, _, _, _, _, _, _, _, _, _, _, _, _, _, _, _] [_] rfl (by repeat' (first | exact trivial | refine And.intro ?_ ?_ | exact bS | exact bX | exact bZ | exact bI | exact bC (π := []) (hs := by first | exact hc _ _ | fail) | fail)) ?_
            | refine oD (id := 6) W87_6 [21, 23] O87_6 [_, _, _, _, _, _, _, _, _, _, _, _, _, _, _, _, _, _, _, _, _, _, _, _] [_, _, _] rfl (by repeat' (first | exact trivial | refine And.intro ?_ ?_ | exact bS | exact bX | exact bZ | exact bI | exact bC (π := []) (hs := by first | exact hc _ _ | fail) | fail)) ?_
            | fail)
          exact pX [0] M ⟨hp, Dn.stop hs (decide_eq_false h4) (fun _ => oc.trans _ _ _ (decide_eq_false h4) (decide_eq_false h3))⟩ rfl
    · by_cases h4 : c (gd M (f + r)) (gd M (f + (2 * r + 1))) < 0
      · repeat' (first
          | refine IOps_nil ?_
          | refine oS ?_
          | refine IOps_s rfl rfl ?_
          | refine oT ?_
          | refine IOps_s0 rfl ?_
          | refine oC (π := []) (hs := by first | exact hc _ _ | fail) (hx := ?_)
          | refine oZ ?_
          | refine oI ?_
          | refine thenI_n ?_
          | refine IWP_seq ?_
          | refine IWP_region ?_
          | refine IWP_ct rfl ?_
          | refine IWP_cf rfl ?_
          | refine IWP_skip ?_
          | refine IWP_ret ?_
          | refine IWP_block ?_
          | refine inB_n ?_
          | refine thenI_r ?_
          | refine thenI_e ?_
          | refine inB_r ?_
          | refine inB_hit ?_
          | refine inB_miss rfl ?_
          | refine IWP_exit ?_
          | refine IWP_scope ?_
          | refine IWP_label ?_
          | refine noG_n ?_
          | refine noG_r ?_
          | refine noG_e ?_
          | refine jmp_n ?_
          | refine jmp_r ?_
          | refine jmp_e ?_
          | refine jmp_g ?_
          | refine thenI_g ?_
          | refine inB_g ?_
          | refine IWP_goto ?_
          | refine Loop_n ?_
          | refine oD (id := 3) W87_3 [] O87_3 [_, _, _, _, _, _, _, _, _, _, _, _, _, _, _, _, _, _, _, _, _, _] [_] rfl (by repeat' (first | exact trivial | refine And.intro ?_ ?_ | exact bS | exact bX | exact bZ | exact bI | exact bC (π := []) (hs := by first | exact hc _ _ | fail) | fail)) ?_
          | refine oD (id := 5) W87_5 [] O87_5 [_, _, _, _, _, _, _, _, _, _, _, _, _, _, _, _] [_] rfl (by repeat' (first | exact trivial | refine And.intro ?_ ?_ | exact bS | exact bX | exact bZ | exact bI | exact bC (π := []) (hs := by first | exact hc _ _ | fail) | fail)) ?_
          | refine oD (id := 6) W87_6 [21, 23] O87_6 [_, _, _, _, _, _, _, _, _, _, _, _, _, _, _, _, _, _, _, _, _, _, _, _] [_, _, _] rfl (by repeat' (first | exact trivial | refine And.intro ?_ ?_ | exact bS | exact bX | exact bZ | exact bI | exact bC (π := []) (hs := by first | exact hc _ _ | fail) | fail)) ?_
          | fail)
        refine ⟨(sw M (f + r) (f + (2 * r + 1)), 2 * r + 1), ⟨hp.trans (.sw (by omega) (by omega) (by omega) (by omega) (by omega)), Dn.step oc hs hr (.inl rfl) h1 (by omega) (decide_eq_true h4) (fun d hd hd2 => ?_), by omega, .inl h1⟩, by simp only; omega, lP [0]⟩
        rcases hd with rfl | rfl
        · exact oc.irr _
        · omega
      · repeat' (first
          | refine IOps_nil ?_
          | refine oS ?_
          | refine IOps_s rfl rfl ?_
          | refine oT ?_
          | refine IOps_s0 rfl ?_
          | refine oC (π := []) (hs := by first | exact hc _ _ | fail) (hx := ?_)
          | refine oZ ?_
          | refine oI ?_
          | refine thenI_n ?_
          | refine IWP_seq ?_
          | refine IWP_region ?_
          | refine IWP_ct rfl ?_
          | refine IWP_cf rfl ?_
          | refine IWP_skip ?_
          | refine IWP_ret ?_
          | refine IWP_block ?_
          | refine inB_n ?_
          | refine thenI_r ?_
          | refine thenI_e ?_
          | refine inB_r ?_
          | refine inB_hit ?_
          | refine inB_miss rfl ?_
          | refine IWP_exit ?_
          | refine IWP_scope ?_
          | refine IWP_label ?_
          | refine noG_n ?_
          | refine noG_r ?_
          | refine noG_e ?_
          | refine jmp_n ?_
          | refine jmp_r ?_
          | refine jmp_e ?_
          | refine jmp_g ?_
          | refine thenI_g ?_
          | refine inB_g ?_
          | refine IWP_goto ?_
          | refine Loop_n ?_
          | refine oD (id := 3) W87_3 [] O87_3 [_, _, _, _, _, _, _, _, _, _, _, _, _, _, _, _, _, _, _, _, _, _] [_] rfl (by repeat' (first | exact trivial | refine And.intro ?_ ?_ | exact bS | exact bX | exact bZ | exact bI | exact bC (π := []) (hs := by first | exact hc _ _ | fail) | fail)) ?_
          | refine oD (id := 5) W87_5 [] O87_5 [_, _, _, _, _, _, _, _, _, _, _, _, _, _, _, _] [_] rfl (by repeat' (first | exact trivial | refine And.intro ?_ ?_ | exact bS | exact bX | exact bZ | exact bI | exact bC (π := []) (hs := by first | exact hc _ _ | fail) | fail)) ?_
          | refine oD (id := 6) W87_6 [21, 23] O87_6 [_, _, _, _, _, _, _, _, _, _, _, _, _, _, _, _, _, _, _, _, _, _, _, _] [_, _, _] rfl (by repeat' (first | exact trivial | refine And.intro ?_ ?_ | exact bS | exact bX | exact bZ | exact bI | exact bC (π := []) (hs := by first | exact hc _ _ | fail) | fail)) ?_
          | fail)
        exact pX [0] M ⟨hp, Dn.stop hs (decide_eq_false h4) (fun _ => by omega)⟩ rfl
  · repeat' (first
      | refine IOps_nil ?_
      | refine oS ?_
      | refine IOps_s rfl rfl ?_
      | refine oT ?_
      | refine IOps_s0 rfl ?_
      | refine oC (π := []) (hs := by first | exact hc _ _ | fail) (hx := ?_)
      | refine oZ ?_
      | refine oI ?_
      | refine thenI_n ?_
      | refine IWP_seq ?_
      | refine IWP_region ?_
      | refine IWP_ct rfl ?_
      | refine IWP_cf rfl ?_
      | refine IWP_skip ?_
      | refine IWP_ret ?_
      | refine IWP_block ?_
      | refine inB_n ?_
      | refine thenI_r ?_
      | refine thenI_e ?_
      | refine inB_r ?_
      | refine inB_hit ?_
      | refine inB_miss rfl ?_
      | refine IWP_exit ?_
      | refine IWP_scope ?_
      | refine IWP_label ?_
      | refine noG_n ?_
      | refine noG_r ?_
      | refine noG_e ?_
      | refine jmp_n ?_
      | refine jmp_r ?_
      | refine jmp_e ?_
      | refine jmp_g ?_
      | refine thenI_g ?_
      | refine inB_g ?_
      | refine IWP_goto ?_
      | refine Loop_n ?_
      | refine oD (id := 3) W87_3 [] O87_3 [_, _, _, _, _, _, _, _, _, _, _, _, _, _, _, _, _, _, _, _, _, _] [_] rfl (by repeat' (first | exact trivial | refine And.intro ?_ ?_ | exact bS | exact bX | exact bZ | exact bI | exact bC (π := []) (hs := by first | exact hc _ _ | fail) | fail)) ?_
      | refine oD (id := 5) W87_5 [] O87_5 [_, _, _, _, _, _, _, _, _, _, _, _, _, _, _, _] [_] rfl (by repeat' (first | exact trivial | refine And.intro ?_ ?_ | exact bS | exact bX | exact bZ | exact bI | exact bC (π := []) (hs := by first | exact hc _ _ | fail) | fail)) ?_
      | refine oD (id := 6) W87_6 [21, 23] O87_6 [_, _, _, _, _, _, _, _, _, _, _, _, _, _, _, _, _, _, _, _, _, _, _, _] [_, _, _] rfl (by repeat' (first | exact trivial | refine And.intro ?_ ?_ | exact bS | exact bX | exact bZ | exact bI | exact bC (π := []) (hs := by first | exact hc _ _ | fail) | fail)) ?_
      | fail)
    exact pX [0] M ⟨hp, Dn.leaf hs (by omega)⟩ rfl

theorem rev_spec (L : List It) (a b cap : Nat) (hab : a ≤ b) (hb : b ≤ L.length) (hL : L.length ≤ 1000000000) :
    Idl.Spec Try.prog 72 [.sl 0 0 L.length cap 3, .i64 a, .i64 b, .fn (.func kc) [] []] [.arr false (items L)]
      (Ex (fun M : List It => PS a b L M) (fun _ => .tup []) (fun M => [.arr false (items M)])) := by
  refine sE Try.func72 Try.ntmps72 ?_
  repeat' (first
    | refine IOps_nil ?_
    | refine oS ?_
    | refine IOps_s rfl rfl ?_
    | refine oT ?_
    | refine IOps_s0 rfl ?_
    | refine oC (π := []) (hs := by first | exact hc _ _ | fail) (hx := ?_)
    | refine oZ ?_
    | refine oI ?_
    | refine thenI_n ?_
    | refine IWP_seq ?_
    | refine IWP_region ?_
    | refine IWP_ct rfl ?_
    | refine IWP_cf rfl ?_
    | refine IWP_skip ?_
    | refine IWP_ret ?_
    | refine IWP_block ?_
    | refine inB_n ?_
    | refine thenI_r ?_
    | refine thenI_e ?_
    | refine inB_r ?_
    | refine inB_hit ?_
    | refine inB_miss rfl ?_
    | refine IWP_exit ?_
    | refine IWP_scope ?_
    | refine IWP_label ?_
    | refine noG_n ?_
    | refine noG_r ?_
    | refine noG_e ?_
    | refine jmp_n ?_
    | refine jmp_r ?_
    | refine jmp_e ?_
    | refine jmp_g ?_
    | refine thenI_g ?_
    | refine inB_g ?_
    | refine IWP_goto ?_
    | refine Loop_n ?_
    | refine oD (id := 3) W72_3 [13, 15] O72_3 [_, _, _, _, _, _, _, _, _, _, _, _, _, _, _, _] [_, _, _] rfl (by repeat' (first | exact trivial | refine And.intro ?_ ?_ | exact bS | exact bX | exact bZ | exact bI | exact bC (π := []) (hs := by first | exact hc _ _ | fail) | fail)) ?_
    | fail)
  refine IWP_loop (fun x : List It × Nat => ⟨34, [(0, .sl 0 0 L.length cap 3), (8, .i64 ((a : Int) + x.2)), (9, .i64 ((b : Int) - 1 - x.2))], [.arr false (items x.1)]⟩)
    (fun x => PS a b L x.1 ∧ x.2 ≤ b) (fun x => b - x.2) (L, 0) (lP [0]) ⟨.refl _ _ _, Nat.zero_le _⟩ ?_
  rintro ⟨M, t⟩ ⟨hp, ht⟩
  replace hp : PS a b L M := hp
  have hl := hp.len
  simp only at ht ⊢
  by_cases h1 : a + t + 1 + t < b
  · obtain ⟨u, hu⟩ : ∃ u : Nat, (b : Int) - 1 - t = u := ⟨b - 1 - t, by omega⟩
    rw [hu]
    repeat' (first
      | refine IOps_nil ?_
      | refine oS ?_
      | refine IOps_s rfl rfl ?_
      | refine oT ?_
      | refine IOps_s0 rfl ?_
      | refine oC (π := []) (hs := by first | exact hc _ _ | fail) (hx := ?_)
      | refine oZ ?_
      | refine oI ?_
      | refine thenI_n ?_
      | refine IWP_seq ?_
      | refine IWP_region ?_
      | refine IWP_ct rfl ?_
      | refine IWP_cf rfl ?_
      | refine IWP_skip ?_
      | refine IWP_ret ?_
      | refine IWP_block ?_
      | refine inB_n ?_
      | refine thenI_r ?_
      | refine thenI_e ?_
      | refine inB_r ?_
      | refine inB_hit ?_
      | refine inB_miss rfl ?_
      | refine IWP_exit ?_
      | refine IWP_scope ?_
      | refine IWP_label ?_
      | refine noG_n ?_
      | refine noG_r ?_
      | refine noG_e ?_
      | refine jmp_n ?_
      | refine jmp_r ?_
      | refine jmp_e ?_
      | refine jmp_g ?_
      | refine thenI_g ?_
      | refine inB_g ?_
      | refine IWP_goto ?_
      | refine Loop_n ?_
      | refine oD (id := 3) W72_3 [13, 15] O72_3 [_, _, _, _, _, _, _, _, _, _, _, _, _, _, _, _] [_, _, _] rfl (by repeat' (first | exact trivial | refine And.intro ?_ ?_ | exact bS | exact bX | exact bZ | exact bI | exact bC (π := []) (hs := by first | exact hc _ _ | fail) | fail)) ?_
      | fail)
    exact ⟨(sw M (a + t) u, t + 1), ⟨hp.trans (.sw (by omega) (by omega) (by omega) (by omega) (by omega)), by omega⟩, by simp only; omega, lP [0]⟩
  · repeat' (first
      | refine IOps_nil ?_
      | refine oS ?_
      | refine IOps_s rfl rfl ?_
      | refine oT ?_
      | refine IOps_s0 rfl ?_
      | refine oC (π := []) (hs := by first | exact hc _ _ | fail) (hx := ?_)
      | refine oZ ?_
      | refine oI ?_
      | refine thenI_n ?_
      | refine IWP_seq ?_
      | refine IWP_region ?_
      | refine IWP_ct rfl ?_
      | refine IWP_cf rfl ?_
      | refine IWP_skip ?_
      | refine IWP_ret ?_
      | refine IWP_block ?_
      | refine inB_n ?_
      | refine thenI_r ?_
      | refine thenI_e ?_
      | refine inB_r ?_
      | refine inB_hit ?_
      | refine inB_miss rfl ?_
      | refine IWP_exit ?_
      | refine IWP_scope ?_
      | refine IWP_label ?_
      | refine noG_n ?_
      | refine noG_r ?_
      | refine noG_e ?_
      | refine jmp_n ?_
      | refine jmp_r ?_
      | refine jmp_e ?_
      | refine jmp_g ?_
      | refine thenI_g ?_
      | refine inB_g ?_
      | refine IWP_goto ?_
      | refine Loop_n ?_
      | refine oD (id := 3) W72_3 [13, 15] O72_3 [_, _, _, _, _, _, _, _, _, _, _, _, _, _, _, _] [_, _, _] rfl (by repeat' (first | exact trivial | refine And.intro ?_ ?_ | exact bS | exact bX | exact bZ | exact bI | exact bC (π := []) (hs := by first | exact hc _ _ | fail) | fail)) ?_
      | fail)
    exact pX [0] M hp rfl
end
end Go.Proofs.Ytnlelckfhlcbgaa
