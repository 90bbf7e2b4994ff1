/-
  Sorting, at texts: choosing who parts.
-/
import Derived.Test.YtmgcoopmbohkoaaStM
namespace Go.Proofs.Ytmgcoopmbohkoaa
open Go Go.Idl
set_option linter.unusedSimpArgs false
set_option linter.unusedVariables false
set_option maxRecDepth 100000
set_option maxHeartbeats 1000000
attribute [local irreducible] Go.Idl.IWP Go.Idl.IOps Go.Idl.Obl Go.Idl.OpG Go.Idl.thenI Go.Idl.inBlockI Go.Idl.LoopU Go.Idl.noGotoI Go.Idl.jumpI
attribute [local go_sem] List.length_set
theorem order2_spec (L : List Ks) (x y cap s : Nat) (hx : x < L.length) (hy : y < L.length) (hL : L.length ≤ 1000000000) (hs : s ≤ 1000) :
    Idl.Spec Try.prog 81 [.sl 0 0 L.length cap 1, .i64 x, .i64 y, .ptr 1 0] [.arr false (strs L), .box [.i64 s]]
      (Ex (fun r : Nat × Nat × Nat => ((r.1 = x ∧ r.2.1 = y) ∨ (r.1 = y ∧ r.2.1 = x)) ∧ s ≤ r.2.2 ∧ r.2.2 ≤ s + 1) (fun r => .tup [.i64 r.1, .i64 r.2.1]) (fun r => [.arr false (strs L), .box [.i64 r.2.2]])) := by
  by_cases h : cS (gd L y) (gd L x) < 0
  · refine sE Try.func81 Try.ntmps81 ?_
    repeat' (first
      | refine IOps_nil ?_
      | refine oS ?_
      | refine IOps_s rfl rfl ?_
      | refine oT ?_
      | refine IOps_s0 rfl ?_
      | refine oC (π := []) (hs := by first | exact less_spec _ _ | fail) (hx := ?_)
      | refine oZ ?_
      | refine oI ?_
      | refine thenI_n ?_
      | refine IWP_seq ?_
      | refine IWP_region ?_
      | refine IWP_ct rfl ?_
      | refine IWP_cf rfl ?_
      | refine IWP_skip ?_
      | refine IWP_ret ?_
      | refine IWP_block ?_
      | refine inB_n ?_
      | refine thenI_r ?_
      | refine thenI_e ?_
      | refine inB_r ?_
      | refine inB_hit ?_
      | refine inB_miss rfl ?_
      | refine IWP_exit ?_
      | refine IWP_scope ?_
      | refine IWP_label ?_
      | refine noG_n ?_
      | refine noG_r ?_
      | refine noG_e ?_
      | refine jmp_n ?_
      | refine jmp_r ?_
      | refine jmp_e ?_
      | refine jmp_g ?_
      | refine thenI_g ?_
      | refine inB_g ?_
      | refine IWP_goto ?_
      | refine Loop_n ?_
      | refine oD (id := 1) W81_1 [] O81_1 [_, _, _, _, _, _, _, _, _] [_] rfl (by repeat' (first | exact trivial | refine And.intro ?_ ?_ | exact bS | exact bX | exact bZ | exact bI | exact bC (π := []) (hs := by first | exact less_spec _ _ | fail) | fail)) ?_
      | fail)
    exact pX [0, 1] (y, x, s + 1) ⟨.inr ⟨rfl, rfl⟩, by simp, by simp⟩ rfl
  · refine sE Try.func81 Try.ntmps81 ?_
    repeat' (first
      | refine IOps_nil ?_
      | refine oS ?_
      | refine IOps_s rfl rfl ?_
      | refine oT ?_
      | refine IOps_s0 rfl ?_
      | refine oC (π := []) (hs := by first | exact less_spec _ _ | fail) (hx := ?_)
      | refine oZ ?_
      | refine oI ?_
      | refine thenI_n ?_
      | refine IWP_seq ?_
      | refine IWP_region ?_
      | refine IWP_ct rfl ?_
      | refine IWP_cf rfl ?_
      | refine IWP_skip ?_
      | refine IWP_ret ?_
      | refine IWP_block ?_
      | refine inB_n ?_
      | refine thenI_r ?_
      | refine thenI_e ?_
      | refine inB_r ?_
      | refine inB_hit ?_
      | refine inB_miss rfl ?_
      | refine IWP_exit ?_
      | refine IWP_scope ?_
      | refine IWP_label ?_
      | refine noG_n ?_
      | refine noG_r ?_
      | refine noG_e ?_
      | refine jmp_n ?_
      | refine jmp_r ?_
      | refine jmp_e ?_
      | refine jmp_g ?_
      | refine thenI_g ?_
      | refine inB_g ?_
      | refine IWP_goto ?_
      | refine Loop_n ?_
      | refine oD (id := 1) W81_1 [] O81_1 [_, _, _, _, _, _, _, _, _] [_] rfl (by repeat' (first | exact trivial | refine And.intro ?_ ?_ | exact bS | exact bX | exact bZ | exact bI | exact bC (π := []) (hs := by first | exact less_spec _ _ | fail) | fail)) ?_
      | fail)
    exact pX [0, 1] (x, y, s) ⟨.inl ⟨rfl, rfl⟩, by simp, by simp⟩ rfl

theorem median_spec (L : List Ks) (x y z cap s : Nat) (hx : x < L.length) (hy : y < L.length) (hz : z < L.length) (hL : L.length ≤ 1000000000) (hs : s ≤ 900) :
    Idl.Spec Try.prog 72 [.sl 0 0 L.length cap 1, .i64 x, .i64 y, .i64 z, .ptr 1 0] [.arr false (strs L), .box [.i64 s]]
      (Ex (fun r : Nat × Nat => (r.1 = x ∨ r.1 = y ∨ r.1 = z) ∧ s ≤ r.2 ∧ r.2 ≤ s + 3) (fun r => .i64 r.1) (fun r => [.arr false (strs L), .box [.i64 r.2]])) := by
  refine sE Try.func72 Try.ntmps72 ?_
  repeat' (first
    | refine IOps_nil ?_
    | refine oS ?_
    | refine IOps_s rfl rfl ?_
    | refine oT ?_
    | refine IOps_s0 rfl ?_
    | refine oC (π := []) (hs := by first | exact less_spec _ _ | fail) (hx := ?_)
    | refine oZ ?_
    | refine oI ?_
    | refine thenI_n ?_
    | refine IWP_seq ?_
    | refine IWP_region ?_
    | refine IWP_ct rfl ?_
    | refine IWP_cf rfl ?_
    | refine IWP_skip ?_
    | refine IWP_ret ?_
    | refine IWP_block ?_
    | refine inB_n ?_
    | refine thenI_r ?_
    | refine thenI_e ?_
    | refine inB_r ?_
    | refine inB_hit ?_
    | refine inB_miss rfl ?_
    | refine IWP_exit ?_
    | refine IWP_scope ?_
    | refine IWP_label ?_
    | refine noG_n ?_
    | refine noG_r ?_
    | refine noG_e ?_
    | refine jmp_n ?_
    | refine jmp_r ?_
    | refine jmp_e ?_
    | refine jmp_g ?_
    | refine thenI_g ?_
    | refine inB_g ?_
    | refine IWP_goto ?_
    | refine Loop_n ?_
    | fail)
  refine oE [0, 1] (hs := order2_spec L x y cap s hx hy hL (by omega)) (hx := ?_)
  rintro ⟨x1, y1, s1⟩ ⟨hr, hs1, hs2⟩
  simp only at hr hs1 hs2
  repeat' (first
    | refine IOps_nil ?_
    | refine oS ?_
    | refine IOps_s rfl rfl ?_
    | refine oT ?_
    | refine IOps_s0 rfl ?_
    | refine oC (π := []) (hs := by first | exact less_spec _ _ | fail) (hx := ?_)
    | refine oZ ?_
    | refine oI ?_
    | refine thenI_n ?_
    | refine IWP_seq ?_
    | refine IWP_region ?_
    | refine IWP_ct rfl ?_
    | refine IWP_cf rfl ?_
    | refine IWP_skip ?_
    | refine IWP_ret ?_
    | refine IWP_block ?_
    | refine inB_n ?_
    | refine thenI_r ?_
    | refine thenI_e ?_
    | refine inB_r ?_
    | refine inB_hit ?_
    | refine inB_miss rfl ?_
    | refine IWP_exit ?_
    | refine IWP_scope ?_
    | refine IWP_label ?_
    | refine noG_n ?_
    | refine noG_r ?_
    | refine noG_e ?_
    | refine jmp_n ?_
    | refine jmp_r ?_
    | refine jmp_e ?_
    | refine jmp_g ?_
    | refine thenI_g ?_
    | refine inB_g ?_
    | refine IWP_goto ?_
    | refine Loop_n ?_
    | fail)
  refine oE [0, 1] (hs := order2_spec L y1 z cap s1 (by omega) hz hL (by omega)) (hx := ?_)
  rintro ⟨y2, z2, s2⟩ ⟨hr2, hs3, hs4⟩
  simp only at hr2 hs3 hs4
  repeat' (first
    | refine IOps_nil ?_
    | refine oS ?_
    | refine IOps_s rfl rfl ?_
    | refine oT ?_
    | refine IOps_s0 rfl ?_
    | refine oC (π := []) (hs := by first | exact less_spec _ _ | fail) (hx := ?_)
    | refine oZ ?_
    | refine oI ?_
    | refine thenI_n ?_
    | refine IWP_seq ?_
    | refine IWP_region ?_
    | refine IWP_ct rfl ?_
    | refine IWP_cf rfl ?_
    | refine IWP_skip ?_
    | refine IWP_ret ?_
    | refine IWP_block ?_
    | refine inB_n ?_
    | refine thenI_r ?_
    | refine thenI_e ?_
    | refine inB_r ?_
    | refine inB_hit ?_
    | refine inB_miss rfl ?_
    | refine IWP_exit ?_
    | refine IWP_scope ?_
    | refine IWP_label ?_
    | refine noG_n ?_
    | refine noG_r ?_
    | refine noG_e ?_
    | refine jmp_n ?_
    | refine jmp_r ?_
    | refine jmp_e ?_
    | refine jmp_g ?_
    | refine thenI_g ?_
    | refine inB_g ?_
    | refine IWP_goto ?_
    | refine Loop_n ?_
    | fail)
  refine oE [0, 1] (hs := order2_spec L x1 y2 cap s2 (by omega) (by omega) hL (by omega)) (hx := ?_)
  rintro ⟨x3, y3, s3⟩ ⟨hr3, hs5, hs6⟩
  simp only at hr3 hs5 hs6
  repeat' (first
    | refine IOps_nil ?_
    | refine oS ?_
    | refine IOps_s rfl rfl ?_
    | refine oT ?_
    | refine IOps_s0 rfl ?_
    | refine oC (π := []) (hs := by first | exact less_spec _ _ | fail) (hx := ?_)
    | refine oZ ?_
    | refine oI ?_
    | refine thenI_n ?_
    | refine IWP_seq ?_
    | refine IWP_region ?_
    | refine IWP_ct rfl ?_
    | refine IWP_cf rfl ?_
    | refine IWP_skip ?_
    | refine IWP_ret ?_
    | refine IWP_block ?_
    | refine inB_n ?_
    | refine thenI_r ?_
    | refine thenI_e ?_
    | refine inB_r ?_
    | refine inB_hit ?_
    | refine inB_miss rfl ?_
    | refine IWP_exit ?_
    | refine IWP_scope ?_
    | refine IWP_label ?_
    | refine noG_n ?_
    | refine noG_r ?_
    | refine noG_e ?_
    | refine jmp_n ?_
    | refine jmp_r ?_
    | refine jmp_e ?_
    | refine jmp_g ?_
    | refine thenI_g ?_
    | refine inB_g ?_
    | refine IWP_goto ?_
    | refine Loop_n ?_
    | fail)
  exact pX [0, 1] (y3, s3) ⟨by simp only; omega, by simp only; omega, by simp only; omega⟩ rfl

theorem adjacent_spec (L : List Ks) (x cap s : Nat) (hx0 : 0 < x) (hx : x + 1 < L.length) (hL : L.length ≤ 1000000000) (hs : s ≤ 900) :
    Idl.Spec Try.prog 71 [.sl 0 0 L.length cap 1, .i64 x, .ptr 1 0] [.arr false (strs L), .box [.i64 s]]
      (Ex (fun r : Nat × Nat => (r.1 = x - 1 ∨ r.1 = x ∨ r.1 = x + 1) ∧ s ≤ r.2 ∧ r.2 ≤ s + 3) (fun r => .i64 r.1) (fun r => [.arr false (strs L), .box [.i64 r.2]])) := by
  refine sE Try.func71 Try.ntmps71 ?_
  repeat' (first
    | refine IOps_nil ?_
    | refine oS ?_
    | refine IOps_s rfl rfl ?_
    | refine oT ?_
    | refine IOps_s0 rfl ?_
    | refine oC (π := []) (hs := by first | exact less_spec _ _ | fail) (hx := ?_)
    | refine oZ ?_
    | refine oI ?_
    | refine thenI_n ?_
    | refine IWP_seq ?_
    | refine IWP_region ?_
    | refine IWP_ct rfl ?_
    | refine IWP_cf rfl ?_
    | refine IWP_skip ?_
    | refine IWP_ret ?_
    | refine IWP_block ?_
    | refine inB_n ?_
    | refine thenI_r ?_
    | refine thenI_e ?_
    | refine inB_r ?_
    | refine inB_hit ?_
    | refine inB_miss rfl ?_
    | refine IWP_exit ?_
    | refine IWP_scope ?_
    | refine IWP_label ?_
    | refine noG_n ?_
    | refine noG_r ?_
    | refine noG_e ?_
    | refine jmp_n ?_
    | refine jmp_r ?_
    | refine jmp_e ?_
    | refine jmp_g ?_
    | refine thenI_g ?_
    | refine inB_g ?_
    | refine IWP_goto ?_
    | refine Loop_n ?_
    | fail)
  have hsp := median_spec L (x - 1) x (x + 1) cap s (by omega) (by omega) (by omega) hL (by omega)
  rw [show ((x - 1 : Nat) : Int) = (x : Int) - 1 by omega, show ((x + 1 : Nat) : Int) = (x : Int) + 1 by omega] at hsp
  refine oE [0, 1] (hs := hsp) (hx := ?_)
  rintro ⟨y, t⟩ ⟨hr, hs1, hs2⟩
  repeat' (first
    | refine IOps_nil ?_
    | refine oS ?_
    | refine IOps_s rfl rfl ?_
    | refine oT ?_
    | refine IOps_s0 rfl ?_
    | refine oC (π := []) (hs := by first | exact less_spec _ _ | fail) (hx := ?_)
    | refine oZ ?_
    | refine oI ?_
    | refine thenI_n ?_
    | refine IWP_seq ?_
    | refine IWP_region ?_
    | refine IWP_ct rfl ?_
    | refine IWP_cf rfl ?_
    | refine IWP_skip ?_
    | refine IWP_ret ?_
    | refine IWP_block ?_
    | refine inB_n ?_
    | refine thenI_r ?_
    | refine thenI_e ?_
    | refine inB_r ?_
    | refine inB_hit ?_
    | refine inB_miss rfl ?_
    | refine IWP_exit ?_
    | refine IWP_scope ?_
    | refine IWP_label ?_
    | refine noG_n ?_
    | refine noG_r ?_
    | refine noG_e ?_
    | refine jmp_n ?_
    | refine jmp_r ?_
    | refine jmp_e ?_
    | refine jmp_g ?_
    | refine thenI_g ?_
    | refine inB_g ?_
    | refine IWP_goto ?_
    | refine Loop_n ?_
    | fail)
  exact pX [0, 1] (y, t) ⟨hr, hs1, hs2⟩ rfl

theorem choose_spec (L : List Ks) (a b cap : Nat) (hab : a < b) (hb : b ≤ L.length) (hL : L.length ≤ 1000000000) :
    Idl.Spec Try.prog 57 [.sl 0 0 L.length cap 1, .i64 a, .i64 b] [.arr false (strs L)]
      (Ex (fun r : Nat × Int => a ≤ r.1 ∧ r.1 < b) (fun r => .tup [.i64 r.1, .i64 r.2]) (fun _ => [.arr false (strs L)])) := by
  refine sE Try.func57 Try.ntmps57 ?_
  by_cases h8 : 8 ≤ (b : Int) - a
  · by_cases h50 : 50 ≤ (b : Int) - a
    · repeat' (first
        | refine IOps_nil ?_
        | refine oS ?_
        | refine IOps_s rfl rfl ?_
        | refine oT ?_
        | refine IOps_s0 rfl ?_
        | refine oC (π := []) (hs := by first | exact less_spec _ _ | fail) (hx := ?_)
        | refine oZ ?_
        | refine oI ?_
        | refine thenI_n ?_
        | refine IWP_seq ?_
        | refine IWP_region ?_
        | refine IWP_ct rfl ?_
        | refine IWP_cf rfl ?_
        | refine IWP_skip ?_
        | refine IWP_ret ?_
        | refine IWP_block ?_
        | refine inB_n ?_
        | refine thenI_r ?_
        | refine thenI_e ?_
        | refine inB_r ?_
        | refine inB_hit ?_
        | refine inB_miss rfl ?_
        | refine IWP_exit ?_
        | refine IWP_scope ?_
        | refine IWP_label ?_
        | refine noG_n ?_
        | refine noG_r ?_
        | refine noG_e ?_
        | refine jmp_n ?_
        | refine jmp_r ?_
        | refine jmp_e ?_
        | refine jmp_g ?_
        | refine thenI_g ?_
        | refine inB_g ?_
        | refine IWP_goto ?_
        | refine Loop_n ?_
        | fail)
      have hsp := adjacent_spec L (a + (b - a) / 4 * 1) cap 0 (by omega) (by omega) hL (by omega)
      rw [show ((a + (b - a) / 4 * 1 : Nat) : Int) = (a : Int) + ((b : Int) - a) / 4 * 1 by omega] at hsp
      refine oE [0, 1] (hs := hsp) (hx := ?_)
      rintro ⟨i0, s1⟩ ⟨hr1, ha1, hb1⟩
      simp only at hr1 ha1 hb1
      repeat' (first
        | refine IOps_nil ?_
        | refine oS ?_
        | refine IOps_s rfl rfl ?_
        | refine oT ?_
        | refine IOps_s0 rfl ?_
        | refine oC (π := []) (hs := by first | exact less_spec _ _ | fail) (hx := ?_)
        | refine oZ ?_
        | refine oI ?_
        | refine thenI_n ?_
        | refine IWP_seq ?_
        | refine IWP_region ?_
        | refine IWP_ct rfl ?_
        | refine IWP_cf rfl ?_
        | refine IWP_skip ?_
        | refine IWP_ret ?_
        | refine IWP_block ?_
        | refine inB_n ?_
        | refine thenI_r ?_
        | refine thenI_e ?_
        | refine inB_r ?_
        | refine inB_hit ?_
        | refine inB_miss rfl ?_
        | refine IWP_exit ?_
        | refine IWP_scope ?_
        | refine IWP_label ?_
        | refine noG_n ?_
        | refine noG_r ?_
        | refine noG_e ?_
        | refine jmp_n ?_
        | refine jmp_r ?_
        | refine jmp_e ?_
        | refine jmp_g ?_
        | refine thenI_g ?_
        | refine inB_g ?_
        | refine IWP_goto ?_
        | refine Loop_n ?_
        | fail)
      have hsp := adjacent_spec L (a + (b - a) / 4 * 2) cap s1 (by omega) (by omega) hL (by omega)
      rw [show ((a + (b - a) / 4 * 2 : Nat) : Int) = (a : Int) + ((b : Int) - a) / 4 * 2 by omega] at hsp
      refine oE [0, 1] (hs := hsp) (hx := ?_)
      rintro ⟨j0, s2⟩ ⟨hr2, ha2, hb2⟩
      simp only at hr2 ha2 hb2
      repeat' (first
        | refine IOps_nil ?_
        | refine oS ?_
        | refine IOps_s rfl rfl ?_
        | refine oT ?_
        | refine IOps_s0 rfl ?_
        | refine oC (π := []) (hs := by first | exact less_spec _ _ | fail) (hx := ?_)
        | refine oZ ?_
        | refine oI ?_
        | refine thenI_n ?_
        | refine IWP_seq ?_
        | refine IWP_region ?_
        | refine IWP_ct rfl ?_
        | refine IWP_cf rfl ?_
        | refine IWP_skip ?_
        | refine IWP_ret ?_
        | refine IWP_block ?_
        | refine inB_n ?_
        | refine thenI_r ?_
        | refine thenI_e ?_
        | refine inB_r ?_
        | refine inB_hit ?_
        | refine inB_miss rfl ?_
        | refine IWP_exit ?_
        | refine IWP_scope ?_
        | refine IWP_label ?_
        | refine noG_n ?_
        | refine noG_r ?_
        | refine noG_e ?_
        | refine jmp_n ?_
        | refine jmp_r ?_
        | refine jmp_e ?_
        | refine jmp_g ?_
        | refine thenI_g ?_
        | refine inB_g ?_
        | refine IWP_goto ?_
        | refine Loop_n ?_
        | fail)
      have hsp := adjacent_spec L (a + (b - a) / 4 * 3) cap s2 (by omega) (by omega) hL (by omega)
      rw [show ((a + (b - a) / 4 * 3 : Nat) : Int) = (a : Int) + ((b : Int) - a) / 4 * 3 by omega] at hsp
      refine oE [0, 1] (hs := hsp) (hx := ?_)
      rintro ⟨k0, s3⟩ ⟨hr3, ha3, hb3⟩
      simp only at hr3 ha3 hb3
      repeat' (first
        | refine IOps_nil ?_
        | refine oS ?_
        | refine IOps_s rfl rfl ?_
        | refine oT ?_
        | refine IOps_s0 rfl ?_
        | refine oC (π := []) (hs := by first | exact less_spec _ _ | fail) (hx := ?_)
        | refine oZ ?_
        | refine oI ?_
        | refine thenI_n ?_
        | refine IWP_seq ?_
        | refine IWP_region ?_
        | refine IWP_ct rfl ?_
        | refine IWP_cf rfl ?_
        | refine IWP_skip ?_
        | refine IWP_ret ?_
        | refine IWP_block ?_
        | refine inB_n ?_
        | refine thenI_r ?_
        | refine thenI_e ?_
        | refine inB_r ?_
        | refine inB_hit ?_
        | refine inB_miss rfl ?_
        | refine IWP_exit ?_
        | refine IWP_scope ?_
        | refine IWP_label ?_
        | refine noG_n ?_
        | refine noG_r ?_
        | refine noG_e ?_
        | refine jmp_n ?_
        | refine jmp_r ?_
        | refine jmp_e ?_
        | refine jmp_g ?_
        | refine thenI_g ?_
        | refine inB_g ?_
        | refine IWP_goto ?_
        | refine Loop_n ?_
        | fail)
      have hsp := median_spec L (i0) (j0) (k0) cap s3 (by omega) (by omega) (by omega) hL (by omega)
      refine oE [0, 1] (hs := hsp) (hx := ?_)
      rintro ⟨j, t⟩ ⟨hr, hs1, hs2⟩
      simp only at hr hs1 hs2
      have hj : a ≤ j ∧ j < b := by omega
      by_cases ht0 : t = 0
      · subst ht0
        repeat' (first
          | refine IOps_nil ?_
          | refine oS ?_
          | refine IOps_s rfl rfl ?_
          | refine oT ?_
          | refine IOps_s0 rfl ?_
          | refine oC (π := []) (hs := by first | exact less_spec _ _ | fail) (hx := ?_)
          | refine oZ ?_
          | refine oI ?_
          | refine thenI_n ?_
          | refine IWP_seq ?_
          | refine IWP_region ?_
          | refine IWP_ct rfl ?_
          | refine IWP_cf rfl ?_
          | refine IWP_skip ?_
          | refine IWP_ret ?_
          | refine IWP_block ?_
          | refine inB_n ?_
          | refine thenI_r ?_
          | refine thenI_e ?_
          | refine inB_r ?_
          | refine inB_hit ?_
          | refine inB_miss rfl ?_
          | refine IWP_exit ?_
          | refine IWP_scope ?_
          | refine IWP_label ?_
          | refine noG_n ?_
          | refine noG_r ?_
          | refine noG_e ?_
          | refine jmp_n ?_
          | refine jmp_r ?_
          | refine jmp_e ?_
          | refine jmp_g ?_
          | refine thenI_g ?_
          | refine inB_g ?_
          | refine IWP_goto ?_
          | refine Loop_n ?_
          | fail)
        exact pX [0] (j, 1) hj rfl
      · by_cases ht : t = 12
        · subst ht
          repeat' (first
            | refine IOps_nil ?_
            | refine oS ?_
            | refine IOps_s rfl rfl ?_
            | refine oT ?_
            | refine IOps_s0 rfl ?_
            | refine oC (π := []) (hs := by first | exact less_spec _ _ | fail) (hx := ?_)
            | refine oZ ?_
            | refine oI ?_
            | refine thenI_n ?_
            | refine IWP_seq ?_
            | refine IWP_region ?_
            | refine IWP_ct rfl ?_
            | refine IWP_cf rfl ?_
            | refine IWP_skip ?_
            | refine IWP_ret ?_
            | refine IWP_block ?_
            | refine inB_n ?_
            | refine thenI_r ?_
            | refine thenI_e ?_
            | refine inB_r ?_
            | refine inB_hit ?_
            | refine inB_miss rfl ?_
            | refine IWP_exit ?_
            | refine IWP_scope ?_
            | refine IWP_label ?_
            | refine noG_n ?_
            | refine noG_r ?_
            | refine noG_e ?_
            | refine jmp_n ?_
            | refine jmp_r ?_
            | refine jmp_e ?_
            | refine jmp_g ?_
            | refine thenI_g ?_
            | refine inB_g ?_
            | refine IWP_goto ?_
            | refine Loop_n ?_
            | fail)
          exact pX [0] (j, 2) hj rfl
        · repeat' (first
            | refine IOps_nil ?_
            | refine oS ?_
            | refine IOps_s rfl rfl ?_
            | refine oT ?_
            | refine IOps_s0 rfl ?_
            | refine oC (π := []) (hs := by first | exact less_spec _ _ | fail) (hx := ?_)
            | refine oZ ?_
            | refine oI ?_
            | refine thenI_n ?_
            | refine IWP_seq ?_
            | refine IWP_region ?_
            | refine IWP_ct rfl ?_
            | refine IWP_cf rfl ?_
            | refine IWP_skip ?_
            | refine IWP_ret ?_
            | refine IWP_block ?_
            | refine inB_n ?_
            | refine thenI_r ?_
            | refine thenI_e ?_
            | refine inB_r ?_
            | refine inB_hit ?_
            | refine inB_miss rfl ?_
            | refine IWP_exit ?_
            | refine IWP_scope ?_
            | refine IWP_label ?_
            | refine noG_n ?_
            | refine noG_r ?_
            | refine noG_e ?_
            | refine jmp_n ?_
            | refine jmp_r ?_
            | refine jmp_e ?_
            | refine jmp_g ?_
            | refine thenI_g ?_
            | refine inB_g ?_
            | refine IWP_goto ?_
            | refine Loop_n ?_
            | fail)
          exact pX [0] (j, 0) hj rfl
    · repeat' (first
        | refine IOps_nil ?_
        | refine oS ?_
        | refine IOps_s rfl rfl ?_
        | refine oT ?_
        | refine IOps_s0 rfl ?_
        | refine oC (π := []) (hs := by first | exact less_spec _ _ | fail) (hx := ?_)
        | refine oZ ?_
        | refine oI ?_
        | refine thenI_n ?_
        | refine IWP_seq ?_
        | refine IWP_region ?_
        | refine IWP_ct rfl ?_
        | refine IWP_cf rfl ?_
        | refine IWP_skip ?_
        | refine IWP_ret ?_
        | refine IWP_block ?_
        | refine inB_n ?_
        | refine thenI_r ?_
        | refine thenI_e ?_
        | refine inB_r ?_
        | refine inB_hit ?_
        | refine inB_miss rfl ?_
        | refine IWP_exit ?_
        | refine IWP_scope ?_
        | refine IWP_label ?_
        | refine noG_n ?_
        | refine noG_r ?_
        | refine noG_e ?_
        | refine jmp_n ?_
        | refine jmp_r ?_
        | refine jmp_e ?_
        | refine jmp_g ?_
        | refine thenI_g ?_
        | refine inB_g ?_
        | refine IWP_goto ?_
        | refine Loop_n ?_
        | fail)
      have hsp := median_spec L (a + (b - a) / 4 * 1) (a + (b - a) / 4 * 2) (a + (b - a) / 4 * 3) cap 0 (by omega) (by omega) (by omega) hL (by omega)
      rw [show ((a + (b - a) / 4 * 1 : Nat) : Int) = (a : Int) + ((b : Int) - a) / 4 * 1 by omega, show ((a + (b - a) / 4 * 2 : Nat) : Int) = (a : Int) + ((b : Int) - a) / 4 * 2 by omega, show ((a + (b - a) / 4 * 3 : Nat) : Int) = (a : Int) + ((b : Int) - a) / 4 * 3 by omega] at hsp
      refine oE [0, 1] (hs := hsp) (hx := ?_)
      rintro ⟨j, t⟩ ⟨hr, hs1, hs2⟩
      simp only at hr hs1 hs2
      have hj : a ≤ j ∧ j < b := by omega
      by_cases ht0 : t = 0
      · subst ht0
        repeat' (first
          | refine IOps_nil ?_
          | refine oS ?_
          | refine IOps_s rfl rfl ?_
          | refine oT ?_
          | refine IOps_s0 rfl ?_
          | refine oC (π := []) (hs := by first | exact less_spec _ _ | fail) (hx := ?_)
          | refine oZ ?_
          | refine oI ?_
          | refine thenI_n ?_
          | refine IWP_seq ?_
          | refine IWP_region ?_
          | refine IWP_ct rfl ?_
          | refine IWP_cf rfl ?_
          | refine IWP_skip ?_
          | refine IWP_ret ?_
          | refine IWP_block ?_
          | refine inB_n ?_
          | refine thenI_r ?_
          | refine thenI_e ?_
          | refine inB_r ?_
          | refine inB_hit ?_
          | refine inB_miss rfl ?_
          | refine IWP_exit ?_
          | refine IWP_scope ?_
          | refine IWP_label ?_
          | refine noG_n ?_
          | refine noG_r ?_
          | refine noG_e ?_
          | refine jmp_n ?_
          | refine jmp_r ?_
          | refine jmp_e ?_
          | refine jmp_g ?_
          | refine thenI_g ?_
          | refine inB_g ?_
          | refine IWP_goto ?_
          | refine Loop_n ?_
          | fail)
        exact pX [0] (j, 1) hj rfl
      · have ht : t ≠ 12 := by omega
        repeat' (first
          | refine IOps_nil ?_
          | refine oS ?_
          | refine IOps_s rfl rfl ?_
          | refine oT ?_
          | refine IOps_s0 rfl ?_
          | refine oC (π := []) (hs := by first | exact less_spec _ _ | fail) (hx := ?_)
          | refine oZ ?_
          | refine oI ?_
          | refine thenI_n ?_
          | refine IWP_seq ?_
          | refine IWP_region ?_
          | refine IWP_ct rfl ?_
          | refine IWP_cf rfl ?_
          | refine IWP_skip ?_
          | refine IWP_ret ?_
          | refine IWP_block ?_
          | refine inB_n ?_
          | refine thenI_r ?_
          | refine thenI_e ?_
          | refine inB_r ?_
          | refine inB_hit ?_
          | refine inB_miss rfl ?_
          | refine IWP_exit ?_
          | refine IWP_scope ?_
          | refine IWP_label ?_
          | refine noG_n ?_
          | refine noG_r ?_
          | refine noG_e ?_
          | refine jmp_n ?_
          | refine jmp_r ?_
          | refine jmp_e ?_
          | refine jmp_g ?_
          | refine thenI_g ?_
          | refine inB_g ?_
          | refine IWP_goto ?_
          | refine Loop_n ?_
          | fail)
        exact pX [0] (j, 0) hj rfl
  · repeat' (first
      | refine IOps_nil ?_
      | refine oS ?_
      | refine IOps_s rfl rfl ?_
      | refine oT ?_
      | refine IOps_s0 rfl ?_
      | refine oC (π := []) (hs := by first | exact less_spec _ _ | fail) (hx := ?_)
      | refine oZ ?_
      | refine oI ?_
      | refine thenI_n ?_
      | refine IWP_seq ?_
      | refine IWP_region ?_
      | refine IWP_ct rfl ?_
      | refine IWP_cf rfl ?_
      | refine IWP_skip ?_
      | refine IWP_ret ?_
      | refine IWP_block ?_
      | refine inB_n ?_
      | refine thenI_r ?_
      | refine thenI_e ?_
      | refine inB_r ?_
      | refine inB_hit ?_
      | refine inB_miss rfl ?_
      | refine IWP_exit ?_
      | refine IWP_scope ?_
      | refine IWP_label ?_
      | refine noG_n ?_
      | refine noG_r ?_
      | refine noG_e ?_
      | refine jmp_n ?_
      | refine jmp_r ?_
      | refine jmp_e ?_
      | refine jmp_g ?_
      | refine thenI_g ?_
      | refine inB_g ?_
      | refine IWP_goto ?_
      | refine Loop_n ?_
      | fail)
    exact pX [0] (a + (b - a) / 4 * 2, 1) ⟨by simp only; omega, by simp only; omega⟩ (congrArg (fun z : Int => IV.tup [.i64 z, .i64 1]) (show (a : Int) + ((b : Int) - a) / 4 * 2 = ((a + (b - a) / 4 * 2 : Nat) : Int) by omega))
end Go.Proofs.Ytmgcoopmbohkoaa
