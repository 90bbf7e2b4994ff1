import Derived.Test.YtpmgocnapdhabaaTapL1
namespace Go.Proofs.Ytpmgocnapdhabaa
open Go Go.Idl
set_option linter.unusedSimpArgs false
set_option linter.unusedVariables false
set_option maxRecDepth 100000
set_option maxHeartbeats 1000000
attribute [local irreducible] Go.Idl.IWP Go.Idl.IOps Go.Idl.Obl Go.Idl.OpG Go.Idl.thenI Go.Idl.inBlockI Go.Idl.LoopU

theorem u8_of (n : Int) (h0 : 0 ≤ n) (h : n < 256) : ((UInt8.ofNat n.toNat).toNat : Int) = n := by
  rw [UInt8.toNat_ofNat']
  omega
theorem of4_word {n : Int} (h0 : 0 ≤ n) (h1 : n < 4294967296) : word32 (of4 n) 0 = n := by
  unfold word32 byteAt of4
  simp only [List.getD_cons_zero, List.getD_cons_succ, Nat.zero_add]
  rw [u8_of _ (by omega) (by omega), u8_of _ (by omega) (by omega), u8_of _ (by omega) (by omega), u8_of _ (by omega) (by omega)]
  omega
theorem of4_length (n : Int) : (of4 n).length = 4 := rfl
theorem drawV_of {n : Int} (h0 : 0 ≤ n) (h1 : n < 4294967296) : drawV (of4 n) 0 = n := by
  unfold drawV
  rw [if_pos ⟨by omega, by rw [of4_length]; omega⟩]
  exact of4_word h0 h1
theorem drawP_of (n : Int) : drawP (of4 n) 0 = 1 := by
  unfold drawP
  rw [if_pos ⟨by omega, by rw [of4_length]; omega⟩]; rfl

theorem mul_mono {a b n : Int} (h : a ≤ b) (hn : 0 ≤ n) : a * n / 4294967296 ≤ b * n / 4294967296 := by
  have : a * n ≤ b * n := Int.mul_le_mul_of_nonneg_right h hn
  omega
theorem pick_top {n : Int} (h1 : 1 ≤ n) (h2 : n ≤ 2147483647) : 4294967295 * n / 4294967296 = n - 1 := by omega

theorem picks_spec (a b n : Int) (ha1 : 0 ≤ a) (ha2 : a ≤ 4294967295) (hb1 : 0 ≤ b) (hb2 : b ≤ 4294967295) (hn1 : -9223372036854775808 ≤ n) (hn2 : n ≤ 9223372036854775807) :
    Idl.Spec Try.prog 5 [.sc (.int .u32 a), .sc (.int .u32 b), .i64 n] [] (Only (.sc (.bool true)) []) := by
  refine sB Try.func5 Try.ntmps5 ?_
  have hx : ∀ c : Int, 0 ≤ c → c ≤ 4294967295 → Idl.Spec Try.prog 12 [tape (of4 c) 0, .i64 1] [] (Only (.tup [.sc (.int .i64 0), tape (of4 c) 1]) []) := fun c h1 h2 => by
    have := pick_spec (of4 c) 0 1 (by rw [of4_length]; omega) (by omega) (by omega)
    rw [show pickV (of4 c) 0 1 = 0 from by rw [show pickV (of4 c) 0 1 = drawV (of4 c) 0 * 1 / 4294967296 from if_pos (by omega), drawV_of h1 (by omega)]; omega,
      show pickP (of4 c) 0 1 = 1 from by rw [show pickP (of4 c) 0 1 = drawP (of4 c) 0 from if_pos (by omega), drawP_of]] at this
    exact this
  by_cases hn : 1 ≤ n ∧ n ≤ 2147483647
  · have hx2 : ∀ c : Int, 0 ≤ c → c ≤ 4294967295 → Idl.Spec Try.prog 12 [tape (of4 c) 0, .i64 n] [] (Only (.tup [.sc (.int .i64 (c * n / 4294967296)), tape (of4 c) 1]) []) := fun c h1 h2 => by
      have := pick_spec (of4 c) 0 n (by rw [of4_length]; omega) (by omega) (by omega)
      rw [show pickV (of4 c) 0 n = c * n / 4294967296 from by rw [show pickV (of4 c) 0 n = drawV (of4 c) 0 * n / 4294967296 from if_pos hn, drawV_of h1 (by omega)],
        show pickP (of4 c) 0 n = 1 from by rw [show pickP (of4 c) 0 n = drawP (of4 c) 0 from if_pos hn, drawP_of]] at this
      exact this
    obtain ⟨hn3, hn4⟩ := hn
    have m1 := mul_bd ha1 (by omega) hn3 hn4
    have m2 := mul_bd hb1 (by omega) hn3 hn4
    have q1 : a * n / 4294967296 < n := by
      have : a * n ≤ 4294967295 * n := Int.mul_le_mul_of_nonneg_right (by omega) (by omega)
      omega
    have q2 : b * n / 4294967296 < n := by
      have : b * n ≤ 4294967295 * n := Int.mul_le_mul_of_nonneg_right (by omega) (by omega)
      omega
    by_cases hab : a ≤ b
    · have hm := mul_mono (n := n) hab (by omega)
      rcases (by omega : a = 0 ∨ 0 < a) with rfl | h1 <;> rcases (by omega : b = 4294967295 ∨ b < 4294967295) with rfl | h2
      all_goals
        repeat' (first
          | refine IOps_nil ?_
          | refine oS ?_
          | refine IOps_s rfl rfl ?_
          | refine oT ?_
          | refine IOps_s0 rfl ?_
          | refine oC (π := []) (hs := by first | exact awake_spec | fail) (hx := ?_)
          | refine oC (π := []) (hs := by first | exact (of_spec _ (by omega) (by omega)) | fail) (hx := ?_)
          | refine oC (π := []) (hs := by first | exact (hx2 _ (by omega) (by omega)) | fail) (hx := ?_)
          | refine oC (π := []) (hs := by first | exact (hx _ (by omega) (by omega)) | fail) (hx := ?_)
          | refine oZ ?_
          | refine oI ?_
          | refine thenI_n ?_
          | refine IWP_seq ?_
          | refine IWP_region ?_
          | refine IWP_ct rfl ?_
          | refine IWP_cf rfl ?_
          | refine IWP_skip ?_
          | refine IWP_ret ?_
          | refine IWP_block ?_
          | refine inB_n ?_
          | refine thenI_r ?_
          | refine thenI_e ?_
          | refine inB_r ?_
          | refine inB_hit ?_
          | refine inB_miss rfl ?_
          | refine IWP_exit ?_
          | refine Loop_n ?_
          | refine oD (id := 8) W5_8 [12] O5_8 [_, _, _, _, _, _, _, _, _, _, _, _, _, _, _, _, _, _, _, _] [_, _] rfl (by repeat' (first | exact trivial | refine And.intro ?_ ?_ | exact bS | exact bX | exact bZ | exact bI | exact bC (π := []) (hs := by first | exact awake_spec | fail) | exact bC (π := []) (hs := by first | exact (of_spec _ (by omega) (by omega)) | fail) | exact bC (π := []) (hs := by first | exact (hx2 _ (by omega) (by omega)) | fail) | exact bC (π := []) (hs := by first | exact (hx _ (by omega) (by omega)) | fail) | fail)) ?_
          | fail)
        exact pD [] ⟨rfl, rfl⟩
    · have hm := mul_mono (a := b) (b := a) (n := n) (by omega) (by omega)
      rcases (by omega : b = 0 ∨ 0 < b) with rfl | h1 <;> rcases (by omega : a = 4294967295 ∨ a < 4294967295) with rfl | h2
      all_goals
        repeat' (first
          | refine IOps_nil ?_
          | refine oS ?_
          | refine IOps_s rfl rfl ?_
          | refine oT ?_
          | refine IOps_s0 rfl ?_
          | refine oC (π := []) (hs := by first | exact awake_spec | fail) (hx := ?_)
          | refine oC (π := []) (hs := by first | exact (of_spec _ (by omega) (by omega)) | fail) (hx := ?_)
          | refine oC (π := []) (hs := by first | exact (hx2 _ (by omega) (by omega)) | fail) (hx := ?_)
          | refine oC (π := []) (hs := by first | exact (hx _ (by omega) (by omega)) | fail) (hx := ?_)
          | refine oZ ?_
          | refine oI ?_
          | refine thenI_n ?_
          | refine IWP_seq ?_
          | refine IWP_region ?_
          | refine IWP_ct rfl ?_
          | refine IWP_cf rfl ?_
          | refine IWP_skip ?_
          | refine IWP_ret ?_
          | refine IWP_block ?_
          | refine inB_n ?_
          | refine thenI_r ?_
          | refine thenI_e ?_
          | refine inB_r ?_
          | refine inB_hit ?_
          | refine inB_miss rfl ?_
          | refine IWP_exit ?_
          | refine Loop_n ?_
          | refine oD (id := 8) W5_8 [12] O5_8 [_, _, _, _, _, _, _, _, _, _, _, _, _, _, _, _, _, _, _, _] [_, _] rfl (by repeat' (first | exact trivial | refine And.intro ?_ ?_ | exact bS | exact bX | exact bZ | exact bI | exact bC (π := []) (hs := by first | exact awake_spec | fail) | exact bC (π := []) (hs := by first | exact (of_spec _ (by omega) (by omega)) | fail) | exact bC (π := []) (hs := by first | exact (hx2 _ (by omega) (by omega)) | fail) | exact bC (π := []) (hs := by first | exact (hx _ (by omega) (by omega)) | fail) | fail)) ?_
          | fail)
        exact pD [] ⟨rfl, rfl⟩
  · have hx2 : ∀ c : Int, Idl.Spec Try.prog 12 [tape (of4 c) 0, .i64 n] [] (Only (.tup [.sc (.int .i64 0), tape (of4 c) 0]) []) := fun c => by
      have := pick_spec (of4 c) 0 n (by rw [of4_length]; omega) (by omega) (by omega)
      rw [show pickV (of4 c) 0 n = 0 from if_neg hn, show pickP (of4 c) 0 n = 0 from if_neg hn] at this
      exact this
    by_cases hab : a ≤ b <;> by_cases hn1 : n < 1
    all_goals
      repeat' (first
        | refine IOps_nil ?_
        | refine oS ?_
        | refine IOps_s rfl rfl ?_
        | refine oT ?_
        | refine IOps_s0 rfl ?_
        | refine oC (π := []) (hs := by first | exact awake_spec | fail) (hx := ?_)
        | refine oC (π := []) (hs := by first | exact (of_spec _ (by omega) (by omega)) | fail) (hx := ?_)
        | refine oC (π := []) (hs := by first | exact (hx2 _) | fail) (hx := ?_)
        | refine oC (π := []) (hs := by first | exact (hx _ (by omega) (by omega)) | fail) (hx := ?_)
        | refine oZ ?_
        | refine oI ?_
        | refine thenI_n ?_
        | refine IWP_seq ?_
        | refine IWP_region ?_
        | refine IWP_ct rfl ?_
        | refine IWP_cf rfl ?_
        | refine IWP_skip ?_
        | refine IWP_ret ?_
        | refine IWP_block ?_
        | refine inB_n ?_
        | refine thenI_r ?_
        | refine thenI_e ?_
        | refine inB_r ?_
        | refine inB_hit ?_
        | refine inB_miss rfl ?_
        | refine IWP_exit ?_
        | refine Loop_n ?_
        | refine oD (id := 8) W5_8 [12] O5_8 [_, _, _, _, _, _, _, _, _, _, _, _, _, _, _, _, _, _, _, _] [_, _] rfl (by repeat' (first | exact trivial | refine And.intro ?_ ?_ | exact bS | exact bX | exact bZ | exact bI | exact bC (π := []) (hs := by first | exact awake_spec | fail) | exact bC (π := []) (hs := by first | exact (of_spec _ (by omega) (by omega)) | fail) | exact bC (π := []) (hs := by first | exact (hx2 _) | fail) | exact bC (π := []) (hs := by first | exact (hx _ (by omega) (by omega)) | fail) | fail)) ?_
        | fail)
      exact pD [] ⟨rfl, rfl⟩
end Go.Proofs.Ytpmgocnapdhabaa
