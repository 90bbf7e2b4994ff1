import Derived.Test.YtpmgocnapdhabaaTapA
namespace Go.Proofs.Ytpmgocnapdhabaa
open Go Go.Idl
set_option linter.unusedSimpArgs false
set_option linter.unusedVariables false
set_option maxRecDepth 100000
set_option maxHeartbeats 1000000
attribute [local irreducible] Go.Idl.IWP Go.Idl.IOps Go.Idl.Obl Go.Idl.OpG Go.Idl.thenI Go.Idl.inBlockI Go.Idl.LoopU

def pickV (l : List UInt8) (p n : Int) : Int := if 1 ≤ n ∧ n ≤ 2147483647 then drawV l p * n / 4294967296 else 0
def pickP (l : List UInt8) (p n : Int) : Int := if 1 ≤ n ∧ n ≤ 2147483647 then drawP l p else p
theorem mul_bd {a n : Int} (h0 : 0 ≤ a) (h1 : a < 4294967296) (h2 : 1 ≤ n) (h3 : n ≤ 2147483647) : 0 ≤ a * n ∧ a * n ≤ 4294967295 * 2147483647 :=
  ⟨Int.mul_nonneg h0 (by omega), Int.mul_le_mul (by omega) h3 (by omega) (by omega)⟩

theorem rpick_spec (l : List UInt8) (p n : Int) (hl : l.length ≤ 1000000) (hp1 : -9223372036854775808 ≤ p) (hp2 : p ≤ 9223372036854775807) :
    Idl.Spec Try.prog 13 [tape l p, .i64 n] [] (Only (.tup [.sc (.int .i64 (pickV l p n)), tape l (pickP l p n)]) []) := by
  by_cases hb : 1 ≤ n ∧ n ≤ 2147483647
  · rw [show pickV l p n = drawV l p * n / 4294967296 from if_pos hb, show pickP l p n = drawP l p from if_pos hb]
    obtain ⟨hb1, hb2⟩ := hb
    have hd := mul_bd (drawV_lo l p) (drawV_hi l p) hb1 hb2
    have hd1 := drawV_lo l p
    have hd2 := drawV_hi l p
    refine sB Try.func13 Try.ntmps13 ?_
    repeat' (first
      | refine IOps_nil ?_
      | refine oS ?_
      | refine IOps_s rfl rfl ?_
      | refine oT ?_
      | refine IOps_s0 rfl ?_
      | refine oC (π := []) (hs := by first | exact (rdraw_spec _ _ (by omega) (by omega) (by omega)) | fail) (hx := ?_)
      | refine oZ ?_
      | refine oI ?_
      | refine thenI_n ?_
      | refine IWP_seq ?_
      | refine IWP_region ?_
      | refine IWP_ct rfl ?_
      | refine IWP_cf rfl ?_
      | refine IWP_skip ?_
      | refine IWP_ret ?_
      | refine IWP_block ?_
      | refine inB_n ?_
      | refine thenI_r ?_
      | refine thenI_e ?_
      | refine inB_r ?_
      | refine inB_hit ?_
      | refine inB_miss rfl ?_
      | refine IWP_exit ?_
      | refine Loop_n ?_
      | refine oD (id := 2) W13_2 [2] O13_2 [_, _, _] [_, _] rfl (by repeat' (first | exact trivial | refine And.intro ?_ ?_ | exact bS | exact bX | exact bZ | exact bI | exact bC (π := []) (hs := by first | exact (rdraw_spec _ _ (by omega) (by omega) (by omega)) | fail) | fail)) ?_
      | refine oD (id := 4) W13_4 [9] O13_4 [_, _, _, _, _, _, _, _, _, _] [_, _] rfl (by repeat' (first | exact trivial | refine And.intro ?_ ?_ | exact bS | exact bX | exact bZ | exact bI | exact bC (π := []) (hs := by first | exact (rdraw_spec _ _ (by omega) (by omega) (by omega)) | fail) | fail)) ?_
      | fail)
    exact pD [] ⟨rfl, rfl⟩
  · rw [show pickV l p n = 0 from if_neg hb, show pickP l p n = p from if_neg hb]
    refine sB Try.func13 Try.ntmps13 ?_
    by_cases h0 : n < 1
    · repeat' (first
        | refine IOps_nil ?_
        | refine oS ?_
        | refine IOps_s rfl rfl ?_
        | refine oT ?_
        | refine IOps_s0 rfl ?_
        | refine oZ ?_
        | refine oI ?_
        | refine thenI_n ?_
        | refine IWP_seq ?_
        | refine IWP_region ?_
        | refine IWP_ct rfl ?_
        | refine IWP_cf rfl ?_
        | refine IWP_skip ?_
        | refine IWP_ret ?_
        | refine IWP_block ?_
        | refine inB_n ?_
        | refine thenI_r ?_
        | refine thenI_e ?_
        | refine inB_r ?_
        | refine inB_hit ?_
        | refine inB_miss rfl ?_
        | refine IWP_exit ?_
        | refine Loop_n ?_
        | refine oD (id := 2) W13_2 [2] O13_2 [_, _, _] [_, _] rfl (by repeat' (first | exact trivial | refine And.intro ?_ ?_ | exact bS | exact bX | exact bZ | exact bI | fail)) ?_
        | refine oD (id := 4) W13_4 [9] O13_4 [_, _, _, _, _, _, _, _, _, _] [_, _] rfl (by repeat' (first | exact trivial | refine And.intro ?_ ?_ | exact bS | exact bX | exact bZ | exact bI | fail)) ?_
        | fail)
      exact pD [] ⟨rfl, rfl⟩
    · repeat' (first
        | refine IOps_nil ?_
        | refine oS ?_
        | refine IOps_s rfl rfl ?_
        | refine oT ?_
        | refine IOps_s0 rfl ?_
        | refine oZ ?_
        | refine oI ?_
        | refine thenI_n ?_
        | refine IWP_seq ?_
        | refine IWP_region ?_
        | refine IWP_ct rfl ?_
        | refine IWP_cf rfl ?_
        | refine IWP_skip ?_
        | refine IWP_ret ?_
        | refine IWP_block ?_
        | refine inB_n ?_
        | refine thenI_r ?_
        | refine thenI_e ?_
        | refine inB_r ?_
        | refine inB_hit ?_
        | refine inB_miss rfl ?_
        | refine IWP_exit ?_
        | refine Loop_n ?_
        | refine oD (id := 2) W13_2 [2] O13_2 [_, _, _] [_, _] rfl (by repeat' (first | exact trivial | refine And.intro ?_ ?_ | exact bS | exact bX | exact bZ | exact bI | fail)) ?_
        | refine oD (id := 4) W13_4 [9] O13_4 [_, _, _, _, _, _, _, _, _, _] [_, _] rfl (by repeat' (first | exact trivial | refine And.intro ?_ ?_ | exact bS | exact bX | exact bZ | exact bI | fail)) ?_
        | fail)
      exact pD [] ⟨rfl, rfl⟩

theorem pick_spec (l : List UInt8) (p n : Int) (hl : l.length ≤ 1000000) (hp1 : -9223372036854775808 ≤ p) (hp2 : p ≤ 9223372036854775807) :
    Idl.Spec Try.prog 12 [tape l p, .i64 n] [] (Only (.tup [.sc (.int .i64 (pickV l p n)), tape l (pickP l p n)]) []) := by
  by_cases hb : 1 ≤ n ∧ n ≤ 2147483647
  · rw [show pickV l p n = drawV l p * n / 4294967296 from if_pos hb, show pickP l p n = drawP l p from if_pos hb]
    obtain ⟨hb1, hb2⟩ := hb
    have hd := mul_bd (drawV_lo l p) (drawV_hi l p) hb1 hb2
    have hd1 := drawV_lo l p
    have hd2 := drawV_hi l p
    refine sB Try.func12 Try.ntmps12 ?_
    repeat' (first
      | refine IOps_nil ?_
      | refine oS ?_
      | refine IOps_s rfl rfl ?_
      | refine oT ?_
      | refine IOps_s0 rfl ?_
      | refine oC (π := []) (hs := by first | exact (draw_spec _ _ (by omega) (by omega) (by omega)) | fail) (hx := ?_)
      | refine oZ ?_
      | refine oI ?_
      | refine thenI_n ?_
      | refine IWP_seq ?_
      | refine IWP_region ?_
      | refine IWP_ct rfl ?_
      | refine IWP_cf rfl ?_
      | refine IWP_skip ?_
      | refine IWP_ret ?_
      | refine IWP_block ?_
      | refine inB_n ?_
      | refine thenI_r ?_
      | refine thenI_e ?_
      | refine inB_r ?_
      | refine inB_hit ?_
      | refine inB_miss rfl ?_
      | refine IWP_exit ?_
      | refine Loop_n ?_
      | refine oD (id := 2) W12_2 [2] O12_2 [_, _, _] [_, _] rfl (by repeat' (first | exact trivial | refine And.intro ?_ ?_ | exact bS | exact bX | exact bZ | exact bI | exact bC (π := []) (hs := by first | exact (draw_spec _ _ (by omega) (by omega) (by omega)) | fail) | fail)) ?_
      | refine oD (id := 4) W12_4 [9] O12_4 [_, _, _, _, _, _, _, _, _, _] [_, _] rfl (by repeat' (first | exact trivial | refine And.intro ?_ ?_ | exact bS | exact bX | exact bZ | exact bI | exact bC (π := []) (hs := by first | exact (draw_spec _ _ (by omega) (by omega) (by omega)) | fail) | fail)) ?_
      | fail)
    exact pD [] ⟨rfl, rfl⟩
  · rw [show pickV l p n = 0 from if_neg hb, show pickP l p n = p from if_neg hb]
    refine sB Try.func12 Try.ntmps12 ?_
    by_cases h0 : n < 1
    · repeat' (first
        | refine IOps_nil ?_
        | refine oS ?_
        | refine IOps_s rfl rfl ?_
        | refine oT ?_
        | refine IOps_s0 rfl ?_
        | refine oZ ?_
        | refine oI ?_
        | refine thenI_n ?_
        | refine IWP_seq ?_
        | refine IWP_region ?_
        | refine IWP_ct rfl ?_
        | refine IWP_cf rfl ?_
        | refine IWP_skip ?_
        | refine IWP_ret ?_
        | refine IWP_block ?_
        | refine inB_n ?_
        | refine thenI_r ?_
        | refine thenI_e ?_
        | refine inB_r ?_
        | refine inB_hit ?_
        | refine inB_miss rfl ?_
        | refine IWP_exit ?_
        | refine Loop_n ?_
        | refine oD (id := 2) W12_2 [2] O12_2 [_, _, _] [_, _] rfl (by repeat' (first | exact trivial | refine And.intro ?_ ?_ | exact bS | exact bX | exact bZ | exact bI | fail)) ?_
        | refine oD (id := 4) W12_4 [9] O12_4 [_, _, _, _, _, _, _, _, _, _] [_, _] rfl (by repeat' (first | exact trivial | refine And.intro ?_ ?_ | exact bS | exact bX | exact bZ | exact bI | fail)) ?_
        | fail)
      exact pD [] ⟨rfl, rfl⟩
    · repeat' (first
        | refine IOps_nil ?_
        | refine oS ?_
        | refine IOps_s rfl rfl ?_
        | refine oT ?_
        | refine IOps_s0 rfl ?_
        | refine oZ ?_
        | refine oI ?_
        | refine thenI_n ?_
        | refine IWP_seq ?_
        | refine IWP_region ?_
        | refine IWP_ct rfl ?_
        | refine IWP_cf rfl ?_
        | refine IWP_skip ?_
        | refine IWP_ret ?_
        | refine IWP_block ?_
        | refine inB_n ?_
        | refine thenI_r ?_
        | refine thenI_e ?_
        | refine inB_r ?_
        | refine inB_hit ?_
        | refine inB_miss rfl ?_
        | refine IWP_exit ?_
        | refine Loop_n ?_
        | refine oD (id := 2) W12_2 [2] O12_2 [_, _, _] [_, _] rfl (by repeat' (first | exact trivial | refine And.intro ?_ ?_ | exact bS | exact bX | exact bZ | exact bI | fail)) ?_
        | refine oD (id := 4) W12_4 [9] O12_4 [_, _, _, _, _, _, _, _, _, _] [_, _] rfl (by repeat' (first | exact trivial | refine And.intro ?_ ?_ | exact bS | exact bX | exact bZ | exact bI | fail)) ?_
        | fail)
      exact pD [] ⟨rfl, rfl⟩
end Go.Proofs.Ytpmgocnapdhabaa
