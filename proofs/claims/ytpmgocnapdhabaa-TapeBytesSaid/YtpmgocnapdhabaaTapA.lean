import Derived.Test.YtpmgocnapdhabaaTapO
namespace Go.Proofs.Ytpmgocnapdhabaa
open Go Go.Idl
set_option linter.unusedSimpArgs false
set_option linter.unusedVariables false
set_option maxRecDepth 100000
attribute [local irreducible] Go.Idl.IWP Go.Idl.IOps Go.Idl.Obl Go.Idl.OpG Go.Idl.thenI Go.Idl.inBlockI Go.Idl.LoopU
set_option maxHeartbeats 1000000

theorem rdraw_spec (l : List UInt8) (p : Int) (hl : l.length ≤ 1000000) (hp1 : -9223372036854775808 ≤ p) (hp2 : p ≤ 9223372036854775807) : Idl.Spec Try.prog 11 [tape l p] [] (Only (.tup [.sc (.int .u32 (drawV l p)), tape l (drawP l p)]) []) := by
  by_cases hb : 0 ≤ p ∧ p < (l.length : Int) / 4
  · rw [show drawV l p = word32 l (4 * p).toNat from if_pos hb, show drawP l p = p + 1 from if_pos hb]
    obtain ⟨hp, hb⟩ := hb
    refine sB Try.func11 Try.ntmps11 ?_
    repeat' (first
      | refine IOps_nil ?_
      | refine oS ?_
      | refine IOps_s rfl rfl ?_
      | refine oT ?_
      | refine IOps_s0 rfl ?_
      | refine oZ ?_
      | refine oI ?_
      | refine thenI_n ?_
      | refine IWP_seq ?_
      | refine IWP_region ?_
      | refine IWP_ct rfl ?_
      | refine IWP_cf rfl ?_
      | refine IWP_skip ?_
      | refine IWP_ret ?_
      | refine IWP_block ?_
      | refine inB_n ?_
      | refine thenI_r ?_
      | refine thenI_e ?_
      | refine inB_r ?_
      | refine inB_hit ?_
      | refine inB_miss rfl ?_
      | refine IWP_exit ?_
      | refine Loop_n ?_
      | refine oD (id := 2) W11_2 [2] O11_2 [_, _, _] [_, _] rfl (by repeat' (first | exact trivial | refine And.intro ?_ ?_ | exact bS | exact bX | exact bZ | exact bI | fail)) ?_
      | refine oD (id := 4) W11_4 [] O11_4 [_, _, _, _, _, _, _, _, _, _, _, _, _, _, _, _, _, _, _] [_] rfl (by repeat' (first | exact trivial | refine And.intro ?_ ?_ | exact bS | exact bX | exact bZ | exact bI | fail)) ?_
      | refine oD (id := 5) W11_5 [8] O11_5 [_, _, _, _, _, _, _, _, _] [_, _] rfl (by repeat' (first | exact trivial | refine And.intro ?_ ?_ | exact bS | exact bX | exact bZ | exact bI | fail)) ?_
      | fail)
    rw [sum_word]
    exact pD [] ⟨rfl, rfl⟩
  · rw [show drawV l p = 0 from if_neg hb, show drawP l p = p from if_neg hb]
    refine sB Try.func11 Try.ntmps11 ?_
    by_cases h0 : p < 0
    · repeat' (first
        | refine IOps_nil ?_
        | refine oS ?_
        | refine IOps_s rfl rfl ?_
        | refine oT ?_
        | refine IOps_s0 rfl ?_
        | refine oZ ?_
        | refine oI ?_
        | refine thenI_n ?_
        | refine IWP_seq ?_
        | refine IWP_region ?_
        | refine IWP_ct rfl ?_
        | refine IWP_cf rfl ?_
        | refine IWP_skip ?_
        | refine IWP_ret ?_
        | refine IWP_block ?_
        | refine inB_n ?_
        | refine thenI_r ?_
        | refine thenI_e ?_
        | refine inB_r ?_
        | refine inB_hit ?_
        | refine inB_miss rfl ?_
        | refine IWP_exit ?_
        | refine Loop_n ?_
        | refine oD (id := 2) W11_2 [2] O11_2 [_, _, _] [_, _] rfl (by repeat' (first | exact trivial | refine And.intro ?_ ?_ | exact bS | exact bX | exact bZ | exact bI | fail)) ?_
        | refine oD (id := 4) W11_4 [] O11_4 [_, _, _, _, _, _, _, _, _, _, _, _, _, _, _, _, _, _, _] [_] rfl (by repeat' (first | exact trivial | refine And.intro ?_ ?_ | exact bS | exact bX | exact bZ | exact bI | fail)) ?_
        | refine oD (id := 5) W11_5 [8] O11_5 [_, _, _, _, _, _, _, _, _] [_, _] rfl (by repeat' (first | exact trivial | refine And.intro ?_ ?_ | exact bS | exact bX | exact bZ | exact bI | fail)) ?_
        | fail)
      exact pD [] ⟨rfl, rfl⟩
    · repeat' (first
        | refine IOps_nil ?_
        | refine oS ?_
        | refine IOps_s rfl rfl ?_
        | refine oT ?_
        | refine IOps_s0 rfl ?_
        | refine oZ ?_
        | refine oI ?_
        | refine thenI_n ?_
        | refine IWP_seq ?_
        | refine IWP_region ?_
        | refine IWP_ct rfl ?_
        | refine IWP_cf rfl ?_
        | refine IWP_skip ?_
        | refine IWP_ret ?_
        | refine IWP_block ?_
        | refine inB_n ?_
        | refine thenI_r ?_
        | refine thenI_e ?_
        | refine inB_r ?_
        | refine inB_hit ?_
        | refine inB_miss rfl ?_
        | refine IWP_exit ?_
        | refine Loop_n ?_
        | refine oD (id := 2) W11_2 [2] O11_2 [_, _, _] [_, _] rfl (by repeat' (first | exact trivial | refine And.intro ?_ ?_ | exact bS | exact bX | exact bZ | exact bI | fail)) ?_
        | refine oD (id := 4) W11_4 [] O11_4 [_, _, _, _, _, _, _, _, _, _, _, _, _, _, _, _, _, _, _] [_] rfl (by repeat' (first | exact trivial | refine And.intro ?_ ?_ | exact bS | exact bX | exact bZ | exact bI | fail)) ?_
        | refine oD (id := 5) W11_5 [8] O11_5 [_, _, _, _, _, _, _, _, _] [_, _] rfl (by repeat' (first | exact trivial | refine And.intro ?_ ?_ | exact bS | exact bX | exact bZ | exact bI | fail)) ?_
        | fail)
      exact pD [] ⟨rfl, rfl⟩

theorem left_spec (l : List UInt8) (p : Int) (hl : l.length ≤ 1000000) (hp1 : -9223372036854775808 ≤ p) (hp2 : p ≤ 9223372036854775807) : Idl.Spec Try.prog 17 [tape l p] [] (Only (.i64 (max 0 ((l.length : Int) / 4 - max 0 p))) []) := by
  refine sB Try.func17 Try.ntmps17 ?_
  repeat' (first
    | refine IOps_nil ?_
    | refine oS ?_
    | refine IOps_s rfl rfl ?_
    | refine oT ?_
    | refine IOps_s0 rfl ?_
    | refine oZ ?_
    | refine oI ?_
    | refine thenI_n ?_
    | refine IWP_seq ?_
    | refine IWP_region ?_
    | refine IWP_ct rfl ?_
    | refine IWP_cf rfl ?_
    | refine IWP_skip ?_
    | refine IWP_ret ?_
    | refine IWP_block ?_
    | refine inB_n ?_
    | refine thenI_r ?_
    | refine thenI_e ?_
    | refine inB_r ?_
    | refine inB_hit ?_
    | refine inB_miss rfl ?_
    | refine IWP_exit ?_
    | refine Loop_n ?_
    | fail)
  refine pE [] ?_
  exact congrArg (fun z => IV.sc (Value.int .i64 z)) (by first | rfl | omega | (split <;> omega) | (split <;> split <;> omega))

theorem rleft_spec (l : List UInt8) (p : Int) (hl : l.length ≤ 1000000) (hp1 : -9223372036854775808 ≤ p) (hp2 : p ≤ 9223372036854775807) : Idl.Spec Try.prog 18 [tape l p] [] (Only (.i64 (max 0 ((l.length : Int) / 4 - max 0 p))) []) := by
  refine sB Try.func18 Try.ntmps18 ?_
  repeat' (first
    | refine IOps_nil ?_
    | refine oS ?_
    | refine IOps_s rfl rfl ?_
    | refine oT ?_
    | refine IOps_s0 rfl ?_
    | refine oZ ?_
    | refine oI ?_
    | refine thenI_n ?_
    | refine IWP_seq ?_
    | refine IWP_region ?_
    | refine IWP_ct rfl ?_
    | refine IWP_cf rfl ?_
    | refine IWP_skip ?_
    | refine IWP_ret ?_
    | refine IWP_block ?_
    | refine inB_n ?_
    | refine thenI_r ?_
    | refine thenI_e ?_
    | refine inB_r ?_
    | refine inB_hit ?_
    | refine inB_miss rfl ?_
    | refine IWP_exit ?_
    | refine Loop_n ?_
    | refine oP rfl rfl (fun _ => ?_) (fun _ => ?_)
    | refine IWP_cp rfl (fun _ => ?_) (fun _ => ?_)
    | fail)
  all_goals
    refine pE [] ?_
    exact congrArg (fun z => IV.sc (Value.int .i64 z)) (by first | rfl | omega | (split <;> omega) | (split <;> split <;> omega))

theorem draw_spec (l : List UInt8) (p : Int) (hl : l.length ≤ 1000000) (hp1 : -9223372036854775808 ≤ p) (hp2 : p ≤ 9223372036854775807) : Idl.Spec Try.prog 10 [tape l p] [] (Only (.tup [.sc (.int .u32 (drawV l p)), tape l (drawP l p)]) []) := by
  by_cases hb : 0 ≤ p ∧ p < (l.length : Int) / 4
  · rw [show drawV l p = word32 l (4 * p).toNat from if_pos hb, show drawP l p = p + 1 from if_pos hb]
    obtain ⟨hp, hb⟩ := hb
    refine sB Try.func10 Try.ntmps10 ?_
    repeat' (first
      | refine IOps_nil ?_
      | refine oS ?_
      | refine IOps_s rfl rfl ?_
      | refine oT ?_
      | refine IOps_s0 rfl ?_
      | refine oZ ?_
      | refine oI ?_
      | refine thenI_n ?_
      | refine IWP_seq ?_
      | refine IWP_region ?_
      | refine IWP_ct rfl ?_
      | refine IWP_cf rfl ?_
      | refine IWP_skip ?_
      | refine IWP_ret ?_
      | refine IWP_block ?_
      | refine inB_n ?_
      | refine thenI_r ?_
      | refine thenI_e ?_
      | refine inB_r ?_
      | refine inB_hit ?_
      | refine inB_miss rfl ?_
      | refine IWP_exit ?_
      | refine Loop_n ?_
      | refine oD (id := 2) W10_2 [2] O10_2 [_, _, _] [_, _] rfl (by repeat' (first | exact trivial | refine And.intro ?_ ?_ | exact bS | exact bX | exact bZ | exact bI | fail)) ?_
      | refine oD (id := 4) W10_4 [7] O10_4 [_, _, _, _, _, _, _, _] [_, _] rfl (by repeat' (first | exact trivial | refine And.intro ?_ ?_ | exact bS | exact bX | exact bZ | exact bI | fail)) ?_
      | refine oD (id := 12) W10_12 [3] O10_12 [_, _, _, _] [_, _] rfl (by repeat' (first | exact trivial | refine And.intro ?_ ?_ | exact bS | exact bX | exact bZ | exact bI | fail)) ?_
      | fail)
    rw [take4 _ l (p * 4).toNat (by omega)]
    refine IWP_unroll 5 ?_
    repeat' (first
      | refine IOps_nil ?_
      | refine oS ?_
      | refine IOps_s rfl rfl ?_
      | refine oT ?_
      | refine IOps_s0 rfl ?_
      | refine oZ ?_
      | refine oI ?_
      | refine thenI_n ?_
      | refine IWP_seq ?_
      | refine IWP_region ?_
      | refine IWP_ct rfl ?_
      | refine IWP_cf rfl ?_
      | refine IWP_skip ?_
      | refine IWP_ret ?_
      | refine IWP_block ?_
      | refine inB_n ?_
      | refine thenI_r ?_
      | refine thenI_e ?_
      | refine inB_r ?_
      | refine inB_hit ?_
      | refine inB_miss rfl ?_
      | refine IWP_exit ?_
      | refine Loop_n ?_
      | refine oD (id := 2) W10_2 [2] O10_2 [_, _, _] [_, _] rfl (by repeat' (first | exact trivial | refine And.intro ?_ ?_ | exact bS | exact bX | exact bZ | exact bI | fail)) ?_
      | refine oD (id := 4) W10_4 [7] O10_4 [_, _, _, _, _, _, _, _] [_, _] rfl (by repeat' (first | exact trivial | refine And.intro ?_ ?_ | exact bS | exact bX | exact bZ | exact bI | fail)) ?_
      | refine oD (id := 12) W10_12 [3] O10_12 [_, _, _, _] [_, _] rfl (by repeat' (first | exact trivial | refine And.intro ?_ ?_ | exact bS | exact bX | exact bZ | exact bI | fail)) ?_
      | fail)
    refine pE [] ?_
    rw [or_word, show (p * 4).toNat = (4 * p).toNat from by rw [Int.mul_comm]]
    rfl
  · rw [show drawV l p = 0 from if_neg hb, show drawP l p = p from if_neg hb]
    refine sB Try.func10 Try.ntmps10 ?_
    by_cases h0 : p < 0
    · repeat' (first
        | refine IOps_nil ?_
        | refine oS ?_
        | refine IOps_s rfl rfl ?_
        | refine oT ?_
        | refine IOps_s0 rfl ?_
        | refine oZ ?_
        | refine oI ?_
        | refine thenI_n ?_
        | refine IWP_seq ?_
        | refine IWP_region ?_
        | refine IWP_ct rfl ?_
        | refine IWP_cf rfl ?_
        | refine IWP_skip ?_
        | refine IWP_ret ?_
        | refine IWP_block ?_
        | refine inB_n ?_
        | refine thenI_r ?_
        | refine thenI_e ?_
        | refine inB_r ?_
        | refine inB_hit ?_
        | refine inB_miss rfl ?_
        | refine IWP_exit ?_
        | refine Loop_n ?_
        | refine oD (id := 2) W10_2 [2] O10_2 [_, _, _] [_, _] rfl (by repeat' (first | exact trivial | refine And.intro ?_ ?_ | exact bS | exact bX | exact bZ | exact bI | fail)) ?_
        | refine oD (id := 4) W10_4 [7] O10_4 [_, _, _, _, _, _, _, _] [_, _] rfl (by repeat' (first | exact trivial | refine And.intro ?_ ?_ | exact bS | exact bX | exact bZ | exact bI | fail)) ?_
        | refine oD (id := 12) W10_12 [3] O10_12 [_, _, _, _] [_, _] rfl (by repeat' (first | exact trivial | refine And.intro ?_ ?_ | exact bS | exact bX | exact bZ | exact bI | fail)) ?_
        | fail)
      exact pD [] ⟨rfl, rfl⟩
    · repeat' (first
        | refine IOps_nil ?_
        | refine oS ?_
        | refine IOps_s rfl rfl ?_
        | refine oT ?_
        | refine IOps_s0 rfl ?_
        | refine oZ ?_
        | refine oI ?_
        | refine thenI_n ?_
        | refine IWP_seq ?_
        | refine IWP_region ?_
        | refine IWP_ct rfl ?_
        | refine IWP_cf rfl ?_
        | refine IWP_skip ?_
        | refine IWP_ret ?_
        | refine IWP_block ?_
        | refine inB_n ?_
        | refine thenI_r ?_
        | refine thenI_e ?_
        | refine inB_r ?_
        | refine inB_hit ?_
        | refine inB_miss rfl ?_
        | refine IWP_exit ?_
        | refine Loop_n ?_
        | refine oD (id := 2) W10_2 [2] O10_2 [_, _, _] [_, _] rfl (by repeat' (first | exact trivial | refine And.intro ?_ ?_ | exact bS | exact bX | exact bZ | exact bI | fail)) ?_
        | refine oD (id := 4) W10_4 [7] O10_4 [_, _, _, _, _, _, _, _] [_, _] rfl (by repeat' (first | exact trivial | refine And.intro ?_ ?_ | exact bS | exact bX | exact bZ | exact bI | fail)) ?_
        | refine oD (id := 12) W10_12 [3] O10_12 [_, _, _, _] [_, _] rfl (by repeat' (first | exact trivial | refine And.intro ?_ ?_ | exact bS | exact bX | exact bZ | exact bI | fail)) ?_
        | fail)
      exact pD [] ⟨rfl, rfl⟩
end Go.Proofs.Ytpmgocnapdhabaa
