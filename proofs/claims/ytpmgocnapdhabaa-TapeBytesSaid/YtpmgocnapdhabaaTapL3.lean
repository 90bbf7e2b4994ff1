import Derived.Test.YtpmgocnapdhabaaTapL1
namespace Go.Proofs.Ytpmgocnapdhabaa
open Go Go.Idl
set_option linter.unusedSimpArgs false
set_option linter.unusedVariables false
set_option maxRecDepth 100000
set_option maxHeartbeats 1000000
attribute [local irreducible] Go.Idl.IWP Go.Idl.IOps Go.Idl.Obl Go.Idl.OpG Go.Idl.thenI Go.Idl.inBlockI Go.Idl.LoopU

theorem byte_u8 (l : List UInt8) (i : Nat) : ((l.getD i 0).toNat : Int) = byteAt l i := rfl
theorem ord_core {l : List UInt8} {i : Int} (h0 : 0 ≤ i) (h1 : i < (l.length : Int) / 4) : drawV l i = word32 l (4 * i).toNat := if_pos ⟨h0, h1⟩
theorem ord_0 {l : List UInt8} {i : Int} (h0 : 0 ≤ i) (h1 : i < (l.length : Int) / 4) : IntKind.u8.wrap (drawV l i) = ((l.getD (4 * i).toNat 0).toNat : Int) := by
  rw [wrap_u8_mod, ord_core h0 h1, byte_u8]; unfold word32
  have := byteAt_lo l (4 * i).toNat; have := byteAt_hi l (4 * i).toNat; omega
theorem ord_1 {l : List UInt8} {i : Int} (h0 : 0 ≤ i) (h1 : i < (l.length : Int) / 4) : IntKind.u8.wrap (drawV l i / 256) = ((l.getD (4 * i + 1).toNat 0).toNat : Int) := by
  rw [wrap_u8_mod, ord_core h0 h1, byte_u8, show (4 * i + 1).toNat = (4 * i).toNat + 1 by omega]; unfold word32
  have := byteAt_lo l (4 * i).toNat; have := byteAt_hi l (4 * i).toNat; have := byteAt_lo l ((4 * i).toNat + 1); have := byteAt_hi l ((4 * i).toNat + 1); omega
theorem ord_2 {l : List UInt8} {i : Int} (h0 : 0 ≤ i) (h1 : i < (l.length : Int) / 4) : IntKind.u8.wrap (drawV l i / 65536) = ((l.getD (4 * i + 2).toNat 0).toNat : Int) := by
  rw [wrap_u8_mod, ord_core h0 h1, byte_u8, show (4 * i + 2).toNat = (4 * i).toNat + 2 by omega]; unfold word32
  have := byteAt_lo l (4 * i).toNat; have := byteAt_hi l (4 * i).toNat; have := byteAt_lo l ((4 * i).toNat + 1); have := byteAt_hi l ((4 * i).toNat + 1)
  have := byteAt_lo l ((4 * i).toNat + 2); have := byteAt_hi l ((4 * i).toNat + 2); omega
theorem ord_3 {l : List UInt8} {i : Int} (h0 : 0 ≤ i) (h1 : i < (l.length : Int) / 4) : IntKind.u8.wrap (drawV l i / 16777216) = ((l.getD (4 * i + 3).toNat 0).toNat : Int) := by
  rw [wrap_u8_mod, ord_core h0 h1, byte_u8, show (4 * i + 3).toNat = (4 * i).toNat + 3 by omega]; unfold word32
  have := byteAt_lo l (4 * i).toNat; have := byteAt_hi l (4 * i).toNat; have := byteAt_lo l ((4 * i).toNat + 1); have := byteAt_hi l ((4 * i).toNat + 1)
  have := byteAt_lo l ((4 * i).toNat + 2); have := byteAt_hi l ((4 * i).toNat + 2); have := byteAt_lo l ((4 * i).toNat + 3); have := byteAt_hi l ((4 * i).toNat + 3); omega
attribute [local go_sem] ord_0 ord_1 ord_2 ord_3

theorem order_spec (l : List UInt8) (hl : l.length ≤ 9223372036854775807) : Idl.Spec Try.prog 4 [.str l] [] (Only (.sc (.bool true)) []) := by
  refine sB Try.func4 Try.ntmps4 ?_
  by_cases h : l.length > 1000
  · repeat' (first
      | refine IOps_nil ?_
      | refine oS ?_
      | refine IOps_s rfl rfl ?_
      | refine oT ?_
      | refine IOps_s0 rfl ?_
      | refine oC (π := []) (hs := by first | exact awake_spec | fail) (hx := ?_)
      | refine oZ ?_
      | refine oI ?_
      | refine thenI_n ?_
      | refine IWP_seq ?_
      | refine IWP_region ?_
      | refine IWP_ct rfl ?_
      | refine IWP_cf rfl ?_
      | refine IWP_skip ?_
      | refine IWP_ret ?_
      | refine IWP_block ?_
      | refine inB_n ?_
      | refine thenI_r ?_
      | refine thenI_e ?_
      | refine inB_r ?_
      | refine inB_hit ?_
      | refine inB_miss rfl ?_
      | refine IWP_exit ?_
      | refine Loop_n ?_
      | fail)
    exact pD [] ⟨rfl, rfl⟩
  · have hL : ∀ p : Int, 0 ≤ p → p ≤ (l.length : Int) / 4 → Idl.Spec Try.prog 17 [tape l p] [] (Only (.i64 ((l.length : Int) / 4 - p)) []) := fun p h0 h1 => by
      have := left_spec l p (by omega) (by omega) (by omega)
      rwa [show max 0 ((l.length : Int) / 4 - max 0 p) = (l.length : Int) / 4 - p by omega] at this
    have hD : ∀ p : Int, 0 ≤ p → p < (l.length : Int) / 4 → Idl.Spec Try.prog 10 [tape l p] [] (Only (.tup [.sc (.int .u32 (drawV l p)), tape l (p + 1)]) []) := fun p h0 h1 => by
      have := draw_spec l p (by omega) (by omega) (by omega)
      rwa [show drawP l p = p + 1 from if_pos ⟨h0, h1⟩] at this
    have hE := draw_spec l ((l.length : Int) / 4) (by omega) (by omega) (by omega)
    rw [show drawV l ((l.length : Int) / 4) = 0 from if_neg (by omega), show drawP l ((l.length : Int) / 4) = (l.length : Int) / 4 from if_neg (by omega)] at hE
    repeat' (first
      | refine IOps_nil ?_
      | refine oS ?_
      | refine IOps_s rfl rfl ?_
      | refine oT ?_
      | refine IOps_s0 rfl ?_
      | refine oC (π := []) (hs := by first | exact awake_spec | fail) (hx := ?_)
      | refine oC (π := []) (hs := by first | exact (hL _ (by omega) (by omega)) | fail) (hx := ?_)
      | refine oZ ?_
      | refine oI ?_
      | refine thenI_n ?_
      | refine IWP_seq ?_
      | refine IWP_region ?_
      | refine IWP_ct rfl ?_
      | refine IWP_cf rfl ?_
      | refine IWP_skip ?_
      | refine IWP_ret ?_
      | refine IWP_block ?_
      | refine inB_n ?_
      | refine thenI_r ?_
      | refine thenI_e ?_
      | refine inB_r ?_
      | refine inB_hit ?_
      | refine inB_miss rfl ?_
      | refine IWP_exit ?_
      | refine Loop_n ?_
      | fail)
    refine IWP_loop (fun i : Nat => ⟨121, [(0, .str l), (3, .sc (.bool true)), (4, .ptr 0 0), (5, .i64 ((l.length : Int) / 4)), (6, .i64 i)], [.box [.str l, .i64 i]]⟩)
      (fun i => (i : Int) ≤ (l.length : Int) / 4) (fun i => l.length - i) 0 (lP [0]) (by omega) ?_
    intro i hi
    by_cases hin : (i : Int) < (l.length : Int) / 4
    · repeat' (first
        | refine IOps_nil ?_
        | refine oS ?_
        | refine IOps_s rfl rfl ?_
        | refine oT ?_
        | refine IOps_s0 rfl ?_
        | refine oC (π := []) (hs := by first | exact (hL _ (by omega) (by omega)) | fail) (hx := ?_)
        | refine oC (π := []) (hs := by first | exact (hD _ (by omega) (by omega)) | fail) (hx := ?_)
        | refine oZ ?_
        | refine oI ?_
        | refine thenI_n ?_
        | refine IWP_seq ?_
        | refine IWP_region ?_
        | refine IWP_ct rfl ?_
        | refine IWP_cf rfl ?_
        | refine IWP_skip ?_
        | refine IWP_ret ?_
        | refine IWP_block ?_
        | refine inB_n ?_
        | refine thenI_r ?_
        | refine thenI_e ?_
        | refine inB_r ?_
        | refine inB_hit ?_
        | refine inB_miss rfl ?_
        | refine IWP_exit ?_
        | refine Loop_n ?_
        | fail)
      exact ⟨i + 1, by omega, by omega, lP [0]⟩
    · have e : (l.length : Int) / 4 = i := by omega
      rw [e] at hE
      rw [e]
      repeat' (first
        | refine IOps_nil ?_
        | refine oS ?_
        | refine IOps_s rfl rfl ?_
        | refine oT ?_
        | refine IOps_s0 rfl ?_
        | refine oC (π := []) (hs := by first | exact (hL _ (by omega) (by omega)) | fail) (hx := ?_)
        | refine oC (π := []) (hs := by first | exact hE | fail) (hx := ?_)
        | refine oZ ?_
        | refine oI ?_
        | refine thenI_n ?_
        | refine IWP_seq ?_
        | refine IWP_region ?_
        | refine IWP_ct rfl ?_
        | refine IWP_cf rfl ?_
        | refine IWP_skip ?_
        | refine IWP_ret ?_
        | refine IWP_block ?_
        | refine inB_n ?_
        | refine thenI_r ?_
        | refine thenI_e ?_
        | refine inB_r ?_
        | refine inB_hit ?_
        | refine inB_miss rfl ?_
        | refine IWP_exit ?_
        | refine Loop_n ?_
        | fail)
      exact pD [] ⟨rfl, rfl⟩

theorem drawV_nil (p : Int) : drawV [] p = 0 := if_neg (by simp)
theorem drawP_nil (p : Int) : drawP [] p = p := if_neg (by simp)
theorem someGo_nil : ∀ (k : Nat) (left told : List Int) (p : Int), k ≤ left.length → left.length ≤ 1000 → someGo [] k left told p = (told ++ left.take k, p)
  | 0, left, told, p, _, _ => by simp [someGo]
  | k + 1, [], told, p, h, _ => by simp at h
  | k + 1, x :: left, told, p, h, h2 => by
    have hn : 1 ≤ ((x :: left).length : Int) ∧ ((x :: left).length : Int) ≤ 2147483647 := by simp at h2 ⊢; omega
    have e1 : pickV [] p ((x :: left).length : Int) = 0 := by rw [show pickV [] p ((x :: left).length : Int) = drawV [] p * ((x :: left).length : Int) / 4294967296 from if_pos hn, drawV_nil]; omega
    have e2 : pickP [] p ((x :: left).length : Int) = p := by rw [show pickP [] p ((x :: left).length : Int) = drawP [] p from if_pos hn, drawP_nil]
    unfold someGo
    rw [e1, e2]
    show someGo [] k left (told ++ [x]) p = _
    rw [someGo_nil k left _ p (by simpa using h) (by simp at h2; omega)]
    simp

theorem upto_getD {k i : Nat} (h : i < k) : (upto k).getD i 0 = (i : Int) := by simp [upto, List.getD_eq_getElem?_getD, h]
theorem uptoTake_getD {k m i : Nat} (h : i < m) (h2 : m ≤ k) : ((upto k).take m).getD i 0 = (i : Int) := by
  rw [List.getD_eq_getElem?_getD, List.getElem?_take, if_pos h, ← List.getD_eq_getElem?_getD, upto_getD (by omega)]
theorem end_some {n many : Int} (hn0 : 0 ≤ n) (hm0 : 0 ≤ many) : someR [] 0 (1 + n % 50) many = ((upto (1 + n % 50).toNat).take (min (1 + n % 50) many).toNat, 0) := by
  unfold someR
  split
  · rw [someGo_nil _ _ _ _ (by rw [upto_length]; omega) (by rw [upto_length]; omega)]; rfl
  · rename_i h
    have : many = 0 := by omega
    subst this
    rw [show (min (1 + n % 50) 0).toNat = 0 by omega]; rfl

theorem end_spec (n many : Int) (hn1 : 0 ≤ n) (hn2 : n ≤ 255) (hm1 : 0 ≤ many) (hm2 : many ≤ 255) : Idl.Spec Try.prog 7 [.sc (.int .u8 n), .sc (.int .u8 many)] [] (Only (.sc (.bool true)) []) := by
  have hp := pick_spec [] 0 (1 + n % 50) (by simp) (by omega) (by omega)
  rw [show pickV [] 0 (1 + n % 50) = 0 from by rw [show pickV [] 0 (1 + n % 50) = drawV [] 0 * (1 + n % 50) / 4294967296 from if_pos (by omega), drawV_nil]; omega,
    show pickP [] 0 (1 + n % 50) = 0 from by rw [show pickP [] 0 (1 + n % 50) = drawP [] 0 from if_pos (by omega), drawP_nil]] at hp
  have hs := some_spec [] 0 (1 + n % 50) many (by simp) (by omega) (by omega)
  rw [end_some hn1 hm1] at hs
  obtain ⟨k, hk⟩ := Int.eq_ofNat_of_zero_le (a := 1 + n % 50) (by omega)
  obtain ⟨m, hm⟩ := Int.eq_ofNat_of_zero_le (a := min (1 + n % 50) many) (by omega)
  have hlen : ((upto k).take m).length = m := by rw [List.length_take, upto_length]; omega
  have hel : ∀ i : Nat, i < m → ((upto k).take m).getD i 0 = (i : Int) := fun i hi => uptoTake_getD hi (by omega)
  rw [hm, hk, Int.toNat_natCast, Int.toNat_natCast] at hs
  rw [hk] at hp hm
  generalize (upto k).take m = L at hs hlen hel
  refine sB Try.func7 Try.ntmps7 ?_
  have hk2 : n % 50 = (k : Int) - 1 := by omega
  repeat' (first
    | refine IOps_nil ?_
    | refine oS ?_
    | refine IOps_s rfl rfl ?_
    | refine oT ?_
    | refine IOps_s0 rfl ?_
    | refine oC (π := []) (hs := by first | exact awake_spec | fail) (hx := ?_)
    | refine oZ ?_
    | refine oI ?_
    | refine thenI_n ?_
    | refine IWP_seq ?_
    | refine IWP_region ?_
    | refine IWP_ct rfl ?_
    | refine IWP_cf rfl ?_
    | refine IWP_skip ?_
    | refine IWP_ret ?_
    | refine IWP_block ?_
    | refine inB_n ?_
    | refine thenI_r ?_
    | refine thenI_e ?_
    | refine inB_r ?_
    | refine inB_hit ?_
    | refine inB_miss rfl ?_
    | refine IWP_exit ?_
    | refine Loop_n ?_
    | fail)
  rw [hk]
  repeat' (first
    | refine IOps_nil ?_
    | refine oS ?_
    | refine IOps_s rfl rfl ?_
    | refine oT ?_
    | refine IOps_s0 rfl ?_
    | refine oC (π := []) (hs := by first | exact hp | fail) (hx := ?_)
    | refine oC (π := []) (hs := by first | exact hs | fail) (hx := ?_)
    | refine oZ ?_
    | refine oI ?_
    | refine thenI_n ?_
    | refine IWP_seq ?_
    | refine IWP_region ?_
    | refine IWP_ct rfl ?_
    | refine IWP_cf rfl ?_
    | refine IWP_skip ?_
    | refine IWP_ret ?_
    | refine IWP_block ?_
    | refine inB_n ?_
    | refine thenI_r ?_
    | refine thenI_e ?_
    | refine inB_r ?_
    | refine inB_hit ?_
    | refine inB_miss rfl ?_
    | refine IWP_exit ?_
    | refine Loop_n ?_
    | fail)
  refine IWP_loop (fun i : Nat => ⟨67, [(1, .sc (.int .u8 many)), (5, .sc (.bool true)), (6, .i64 k), (7, .i64 0), (8, .ptr 0 0), (9, isl L), (10, .ptr 1 0), (11, .i64 i)], [.box [.str [], .i64 0], .box [.str [], .i64 0]]⟩)
    (fun i => i ≤ m) (fun i => m - i) 0 (lP [0, 1]) (Nat.zero_le _) ?_
  intro i hi
  by_cases him : i < m
  · have hi2 := hel i him
    repeat' (first
      | refine IOps_nil ?_
      | refine oS ?_
      | refine IOps_s rfl rfl ?_
      | refine oT ?_
      | refine IOps_s0 rfl ?_
      | refine oZ ?_
      | refine oI ?_
      | refine thenI_n ?_
      | refine IWP_seq ?_
      | refine IWP_region ?_
      | refine IWP_ct rfl ?_
      | refine IWP_cf rfl ?_
      | refine IWP_skip ?_
      | refine IWP_ret ?_
      | refine IWP_block ?_
      | refine inB_n ?_
      | refine thenI_r ?_
      | refine thenI_e ?_
      | refine inB_r ?_
      | refine inB_hit ?_
      | refine inB_miss rfl ?_
      | refine IWP_exit ?_
      | refine Loop_n ?_
      | fail)
    rw [hi2]
    repeat' (first
      | refine IOps_nil ?_
      | refine oS ?_
      | refine IOps_s rfl rfl ?_
      | refine oT ?_
      | refine IOps_s0 rfl ?_
      | refine oZ ?_
      | refine oI ?_
      | refine thenI_n ?_
      | refine IWP_seq ?_
      | refine IWP_region ?_
      | refine IWP_ct rfl ?_
      | refine IWP_cf rfl ?_
      | refine IWP_skip ?_
      | refine IWP_ret ?_
      | refine IWP_block ?_
      | refine inB_n ?_
      | refine thenI_r ?_
      | refine thenI_e ?_
      | refine inB_r ?_
      | refine inB_hit ?_
      | refine inB_miss rfl ?_
      | refine IWP_exit ?_
      | refine Loop_n ?_
      | fail)
    exact ⟨i + 1, by omega, by omega, lP [0, 1]⟩
  · repeat' (first
      | refine IOps_nil ?_
      | refine oS ?_
      | refine IOps_s rfl rfl ?_
      | refine oT ?_
      | refine IOps_s0 rfl ?_
      | refine oZ ?_
      | refine oI ?_
      | refine thenI_n ?_
      | refine IWP_seq ?_
      | refine IWP_region ?_
      | refine IWP_ct rfl ?_
      | refine IWP_cf rfl ?_
      | refine IWP_skip ?_
      | refine IWP_ret ?_
      | refine IWP_block ?_
      | refine inB_n ?_
      | refine thenI_r ?_
      | refine thenI_e ?_
      | refine inB_r ?_
      | refine inB_hit ?_
      | refine inB_miss rfl ?_
      | refine IWP_exit ?_
      | refine Loop_n ?_
      | fail)
    exact pD [] ⟨rfl, rfl⟩
end Go.Proofs.Ytpmgocnapdhabaa
