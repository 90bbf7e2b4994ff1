import Derived.Test.YtpmgocnapdhabaaTapL2
namespace Go.Proofs.Ytpmgocnapdhabaa
open Go Go.Idl
set_option linter.unusedSimpArgs false
set_option linter.unusedVariables false
set_option maxRecDepth 100000
set_option maxHeartbeats 1000000
attribute [local irreducible] Go.Idl.IWP Go.Idl.IOps Go.Idl.Obl Go.Idl.OpG Go.Idl.thenI Go.Idl.inBlockI Go.Idl.LoopU

theorem word32_mid (A B : List UInt8) (n : Int) : word32 (A ++ of4 n ++ B) A.length = word32 (of4 n) 0 := by
  have g : ∀ j, j < 4 → (A ++ of4 n ++ B).getD (A.length + j) 0 = (of4 n).getD j 0 := fun j hj => by
    rw [List.append_assoc, List.getD_eq_getElem?_getD, List.getElem?_append_right (by omega), show A.length + j - A.length = j by omega, List.getElem?_append_left (by rw [of4_length]; omega), ← List.getD_eq_getElem?_getD]
  unfold word32 byteAt
  rw [show A.length = A.length + 0 by rfl, g 0 (by omega), show A.length + 0 + 1 = A.length + 1 by rfl, g 1 (by omega), show A.length + 0 + 2 = A.length + 2 by rfl, g 2 (by omega), show A.length + 0 + 3 = A.length + 3 by rfl, g 3 (by omega)]

attribute [local go_sem] of4_length
theorem bytes_spec (a : List UInt8) (n : Int) (b : List UInt8) (ha : a.length ≤ 9223372036854775807) (hn1 : 0 ≤ n) (hn2 : n ≤ 4294967295) (hb : b.length ≤ 9223372036854775807) :
    Idl.Spec Try.prog 8 [.str a, .sc (.int .u32 n), .str b] [] (Only (.sc (.bool true)) []) := by
  refine sB Try.func8 Try.ntmps8 ?_
  by_cases h1 : a.length > 300
  · repeat' (first
      | refine IOps_nil ?_
      | refine oS ?_
      | refine IOps_s rfl rfl ?_
      | refine oT ?_
      | refine IOps_s0 rfl ?_
      | refine oC (π := []) (hs := by first | exact awake_spec | fail) (hx := ?_)
      | refine oZ ?_
      | refine oI ?_
      | refine thenI_n ?_
      | refine IWP_seq ?_
      | refine IWP_region ?_
      | refine IWP_ct rfl ?_
      | refine IWP_cf rfl ?_
      | refine IWP_skip ?_
      | refine IWP_ret ?_
      | refine IWP_block ?_
      | refine inB_n ?_
      | refine thenI_r ?_
      | refine thenI_e ?_
      | refine inB_r ?_
      | refine inB_hit ?_
      | refine inB_miss rfl ?_
      | refine IWP_exit ?_
      | refine Loop_n ?_
      | refine oD (id := 5) W8_5 [5] O8_5 [_, _, _, _, _, _, _, _, _, _, _] [_, _] rfl (by repeat' (first | exact trivial | refine And.intro ?_ ?_ | exact bS | exact bX | exact bZ | exact bI | exact bC (π := []) (hs := by first | exact awake_spec | fail) | fail)) ?_
      | fail)
    exact pD [] ⟨rfl, rfl⟩
  · by_cases h2 : b.length > 300
    · repeat' (first
        | refine IOps_nil ?_
        | refine oS ?_
        | refine IOps_s rfl rfl ?_
        | refine oT ?_
        | refine IOps_s0 rfl ?_
        | refine oC (π := []) (hs := by first | exact awake_spec | fail) (hx := ?_)
        | refine oZ ?_
        | refine oI ?_
        | refine thenI_n ?_
        | refine IWP_seq ?_
        | refine IWP_region ?_
        | refine IWP_ct rfl ?_
        | refine IWP_cf rfl ?_
        | refine IWP_skip ?_
        | refine IWP_ret ?_
        | refine IWP_block ?_
        | refine inB_n ?_
        | refine thenI_r ?_
        | refine thenI_e ?_
        | refine inB_r ?_
        | refine inB_hit ?_
        | refine inB_miss rfl ?_
        | refine IWP_exit ?_
        | refine Loop_n ?_
        | refine oD (id := 5) W8_5 [5] O8_5 [_, _, _, _, _, _, _, _, _, _, _] [_, _] rfl (by repeat' (first | exact trivial | refine And.intro ?_ ?_ | exact bS | exact bX | exact bZ | exact bI | exact bC (π := []) (hs := by first | exact awake_spec | fail) | fail)) ?_
        | fail)
      exact pD [] ⟨rfl, rfl⟩
    · have hA : (List.take (4 * ((a.length : Int) / 4)).toNat a).length = 4 * (a.length / 4) := by simp; omega
      have hAi : (((List.take (4 * ((a.length : Int) / 4)).toNat a).length : Nat) : Int) = 4 * ((a.length : Int) / 4) := by rw [hA]; omega
      have hdr := draw_spec (List.take (4 * ((a.length : Int) / 4)).toNat a ++ of4 n ++ b) ((a.length : Int) / 4) (by simp [of4_length]; omega) (by omega) (by omega)
      have hlt : 0 ≤ (a.length : Int) / 4 ∧ (a.length : Int) / 4 < ((List.take (4 * ((a.length : Int) / 4)).toNat a ++ of4 n ++ b).length : Int) / 4 := by
        simp only [List.length_append, of4_length]; omega
      have hle := left_spec (List.take (4 * ((a.length : Int) / 4)).toNat a ++ of4 n ++ b) ((a.length : Int) / 4 + 1) (by simp [of4_length]; omega) (by omega) (by omega)
      rw [show max 0 (((List.take (4 * ((a.length : Int) / 4)).toNat a ++ of4 n ++ b).length : Int) / 4 - max 0 ((a.length : Int) / 4 + 1)) = (b.length : Int) / 4 from by
        simp only [List.length_append, of4_length]; omega] at hle
      rw [show drawP (List.take (4 * ((a.length : Int) / 4)).toNat a ++ of4 n ++ b) ((a.length : Int) / 4) = (a.length : Int) / 4 + 1 from if_pos hlt,
        show drawV (List.take (4 * ((a.length : Int) / 4)).toNat a ++ of4 n ++ b) ((a.length : Int) / 4) = n from by
          rw [show drawV (List.take (4 * ((a.length : Int) / 4)).toNat a ++ of4 n ++ b) ((a.length : Int) / 4) = word32 (List.take (4 * ((a.length : Int) / 4)).toNat a ++ of4 n ++ b) (4 * ((a.length : Int) / 4)).toNat from if_pos hlt]
          rw [show (4 * ((a.length : Int) / 4)).toNat = (List.take (4 * ((a.length : Int) / 4)).toNat a).length from by omega]
          have := word32_mid (List.take (4 * ((a.length : Int) / 4)).toNat a) b n
          rw [hA] at this ⊢
          have e : (4 * ((a.length : Int) / 4)).toNat = 4 * (a.length / 4) := by omega
          rw [e] at this
          rw [this, of4_word hn1 (by omega)]] at hdr
      repeat' (first
        | refine IOps_nil ?_
        | refine oS ?_
        | refine IOps_s rfl rfl ?_
        | refine oT ?_
        | refine IOps_s0 rfl ?_
        | refine oC (π := []) (hs := by first | exact awake_spec | fail) (hx := ?_)
        | refine oC (π := []) (hs := by first | exact (of_spec _ (by omega) (by omega)) | fail) (hx := ?_)
        | refine oC (π := []) (hs := by first | exact hdr | fail) (hx := ?_)
        | refine oC (π := []) (hs := by first | exact hle | fail) (hx := ?_)
        | refine oZ ?_
        | refine oI ?_
        | refine thenI_n ?_
        | refine IWP_seq ?_
        | refine IWP_region ?_
        | refine IWP_ct rfl ?_
        | refine IWP_cf rfl ?_
        | refine IWP_skip ?_
        | refine IWP_ret ?_
        | refine IWP_block ?_
        | refine inB_n ?_
        | refine thenI_r ?_
        | refine thenI_e ?_
        | refine inB_r ?_
        | refine inB_hit ?_
        | refine inB_miss rfl ?_
        | refine IWP_exit ?_
        | refine Loop_n ?_
        | refine oD (id := 5) W8_5 [5] O8_5 [_, _, _, _, _, _, _, _, _, _, _] [_, _] rfl (by repeat' (first | exact trivial | refine And.intro ?_ ?_ | exact bS | exact bX | exact bZ | exact bI | exact bC (π := []) (hs := by first | exact awake_spec | fail) | exact bC (π := []) (hs := by first | exact (of_spec _ (by omega) (by omega)) | fail) | exact bC (π := []) (hs := by first | exact hdr | fail) | exact bC (π := []) (hs := by first | exact hle | fail) | fail)) ?_
        | fail)
      exact pD [] ⟨rfl, rfl⟩
end Go.Proofs.Ytpmgocnapdhabaa
