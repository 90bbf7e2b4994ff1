import Derived.Test.YtpmgocnapdhabaaTapW
namespace Go.Proofs.Ytpmgocnapdhabaa
open Go Go.Idl
set_option linter.unusedSimpArgs false
set_option linter.unusedVariables false
set_option maxRecDepth 100000
set_option maxHeartbeats 1000000
attribute [local irreducible] Go.Idl.IWP Go.Idl.IOps Go.Idl.Obl Go.Idl.OpG Go.Idl.thenI Go.Idl.inBlockI Go.Idl.LoopU

theorem someGo_len (l : List UInt8) : ∀ (k : Nat) (left told : List Int) (p : Int), (someGo l k left told p).1.length = told.length + k
  | 0, _, told, _ => by simp [someGo]
  | k + 1, left, told, p => by unfold someGo; rw [someGo_len l k]; simp; omega
theorem someR_len (l : List UInt8) (p n asked : Int) : (someR l p n asked).1.length ≤ 1000 := by
  unfold someR; split
  · rw [someGo_len]; simp; omega
  · simp

theorem tells_spec (l : List UInt8) (p n asked : Int) (hl : l.length ≤ 9223372036854775807) (hp1 : -9223372036854775808 ≤ p) (hp2 : p ≤ 9223372036854775807) (hn1 : -9223372036854775808 ≤ n) (hn2 : n ≤ 9223372036854775807)
    (ha1 : -9223372036854775808 ≤ asked) (ha2 : asked ≤ 9223372036854775807) : Idl.Spec Try.prog 3 [tape l p, .i64 n, .i64 asked] [] (Only (.sc (.bool true)) []) := by
  refine sB Try.func3 Try.ntmps3 ?_
  by_cases h : l.length > 1000
  · repeat' (first
      | refine IOps_nil ?_
      | refine oS ?_
      | refine IOps_s rfl rfl ?_
      | refine oT ?_
      | refine IOps_s0 rfl ?_
      | refine oC (π := []) (hs := by first | exact awake_spec | fail) (hx := ?_)
      | refine oZ ?_
      | refine oI ?_
      | refine thenI_n ?_
      | refine IWP_seq ?_
      | refine IWP_region ?_
      | refine IWP_ct rfl ?_
      | refine IWP_cf rfl ?_
      | refine IWP_skip ?_
      | refine IWP_ret ?_
      | refine IWP_block ?_
      | refine inB_n ?_
      | refine thenI_r ?_
      | refine thenI_e ?_
      | refine inB_r ?_
      | refine inB_hit ?_
      | refine inB_miss rfl ?_
      | refine IWP_exit ?_
      | refine Loop_n ?_
      | refine oD (id := 10) W3_10 [24, 33, 35] O3_10 [_, _, _, _, _, _, _, _, _, _, _, _, _, _, _, _, _, _, _, _, _, _, _, _, _, _, _, _, _, _, _, _, _, _, _, _, _, _, _] [_, _, _, _] rfl (by repeat' (first | exact trivial | refine And.intro ?_ ?_ | exact bS | exact bX | exact bZ | exact bI | exact bC (π := []) (hs := by first | exact awake_spec | fail) | fail)) ?_
      | fail)
    exact pD [] ⟨rfl, rfl⟩
  · have hs := someR_len l p n asked
    repeat' (first
      | refine IOps_nil ?_
      | refine oS ?_
      | refine IOps_s rfl rfl ?_
      | refine oT ?_
      | refine IOps_s0 rfl ?_
      | refine oC (π := []) (hs := by first | exact awake_spec | fail) (hx := ?_)
      | refine oC (π := []) (hs := by first | exact (draw_spec _ _ (by omega) (by omega) (by omega)) | fail) (hx := ?_)
      | refine oC (π := []) (hs := by first | exact (rdraw_spec _ _ (by omega) (by omega) (by omega)) | fail) (hx := ?_)
      | refine oC (π := []) (hs := by first | exact (pick_spec _ _ _ (by omega) (by omega) (by omega)) | fail) (hx := ?_)
      | refine oC (π := []) (hs := by first | exact (rpick_spec _ _ _ (by omega) (by omega) (by omega)) | fail) (hx := ?_)
      | refine oC (π := []) (hs := by first | exact (some_spec _ _ _ _ (by omega) (by omega) (by omega)) | fail) (hx := ?_)
      | refine oC (π := []) (hs := by first | exact (rsome_spec _ _ _ _ (by omega) (by omega) (by omega)) | fail) (hx := ?_)
      | refine oC (π := []) (hs := by first | exact (left_spec _ _ (by omega) (by omega) (by omega)) | fail) (hx := ?_)
      | refine oC (π := []) (hs := by first | exact (rleft_spec _ _ (by omega) (by omega) (by omega)) | fail) (hx := ?_)
      | refine oC (π := []) (hs := by first | exact (same_spec _ _ (by omega) (by omega)) | fail) (hx := ?_)
      | refine oZ ?_
      | refine oI ?_
      | refine thenI_n ?_
      | refine IWP_seq ?_
      | refine IWP_region ?_
      | refine IWP_ct rfl ?_
      | refine IWP_cf rfl ?_
      | refine IWP_skip ?_
      | refine IWP_ret ?_
      | refine IWP_block ?_
      | refine inB_n ?_
      | refine thenI_r ?_
      | refine thenI_e ?_
      | refine inB_r ?_
      | refine inB_hit ?_
      | refine inB_miss rfl ?_
      | refine IWP_exit ?_
      | refine Loop_n ?_
      | refine oD (id := 10) W3_10 [24, 33, 35] O3_10 [_, _, _, _, _, _, _, _, _, _, _, _, _, _, _, _, _, _, _, _, _, _, _, _, _, _, _, _, _, _, _, _, _, _, _, _, _, _, _] [_, _, _, _] rfl (by repeat' (first | exact trivial | refine And.intro ?_ ?_ | exact bS | exact bX | exact bZ | exact bI | exact bC (π := []) (hs := by first | exact awake_spec | fail) | exact bC (π := []) (hs := by first | exact (draw_spec _ _ (by omega) (by omega) (by omega)) | fail) | exact bC (π := []) (hs := by first | exact (rdraw_spec _ _ (by omega) (by omega) (by omega)) | fail) | exact bC (π := []) (hs := by first | exact (pick_spec _ _ _ (by omega) (by omega) (by omega)) | fail) | exact bC (π := []) (hs := by first | exact (rpick_spec _ _ _ (by omega) (by omega) (by omega)) | fail) | exact bC (π := []) (hs := by first | exact (some_spec _ _ _ _ (by omega) (by omega) (by omega)) | fail) | exact bC (π := []) (hs := by first | exact (rsome_spec _ _ _ _ (by omega) (by omega) (by omega)) | fail) | exact bC (π := []) (hs := by first | exact (left_spec _ _ (by omega) (by omega) (by omega)) | fail) | exact bC (π := []) (hs := by first | exact (rleft_spec _ _ (by omega) (by omega) (by omega)) | fail) | exact bC (π := []) (hs := by first | exact (same_spec _ _ (by omega) (by omega)) | fail) | fail)) ?_
      | fail)
    exact pD [] ⟨rfl, rfl⟩
end Go.Proofs.Ytpmgocnapdhabaa
