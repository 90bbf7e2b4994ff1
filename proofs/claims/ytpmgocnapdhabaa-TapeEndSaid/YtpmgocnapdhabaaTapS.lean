import Derived.Test.YtpmgocnapdhabaaTapB
import Derived.Test.YtpmgocnapdhabaaTapC
namespace Go.Proofs.Ytpmgocnapdhabaa
open Go Go.Idl
set_option linter.unusedSimpArgs false
set_option linter.unusedVariables false
set_option maxRecDepth 100000
set_option maxHeartbeats 1000000
attribute [local irreducible] Go.Idl.IWP Go.Idl.IOps Go.Idl.Obl Go.Idl.OpG Go.Idl.thenI Go.Idl.inBlockI Go.Idl.LoopU


theorem pickV_bd {l : List UInt8} {p n : Int} (h1 : 1 ≤ n) (h2 : n ≤ 2147483647) : 0 ≤ pickV l p n ∧ pickV l p n < n := by
  have hd1 := drawV_lo l p
  have hd2 := drawV_hi l p
  rw [show pickV l p n = drawV l p * n / 4294967296 from if_pos ⟨h1, h2⟩]
  have hm : drawV l p * n ≤ 4294967295 * n := Int.mul_le_mul_of_nonneg_right (by omega) (by omega)
  have hm0 := (mul_bd hd1 hd2 h1 h2).1
  omega
theorem drawP_bd {l : List UInt8} {p : Int} (hl : l.length ≤ 1000000) (h1 : -9223372036854775808 ≤ p) (h2 : p ≤ 9223372036854775807) : -9223372036854775808 ≤ drawP l p ∧ drawP l p ≤ 9223372036854775807 := by
  unfold drawP; split <;> omega
theorem pickP_bd {l : List UInt8} {p n : Int} (hl : l.length ≤ 1000000) (h1 : -9223372036854775808 ≤ p) (h2 : p ≤ 9223372036854775807) : -9223372036854775808 ≤ pickP l p n ∧ pickP l p n ≤ 9223372036854775807 := by
  unfold pickP; split
  · exact drawP_bd hl h1 h2
  · omega

/-- Picks one by one. -/
def someGo (l : List UInt8) : Nat → List Int → List Int → Int → List Int × Int
  | 0, _, told, p => (told, p)
  | k + 1, left, told, p => someGo l k (left.eraseIdx (pickV l p left.length).toNat) (told ++ [left.getD (pickV l p left.length).toNat 0]) (pickP l p left.length)
def upto (n : Nat) : List Int := (List.range n).map Int.ofNat
theorem upto_length (n : Nat) : (upto n).length = n := by simp [upto]
attribute [local go_sem] upto_length
def someR (l : List UInt8) (p n asked : Int) : List Int × Int := if 1 ≤ n ∧ n ≤ 1000 ∧ 1 ≤ asked then someGo l (min n asked).toNat (upto n.toNat) [] p else ([], p)
theorem upto_set {n i : Nat} (h : i < n) : (upto i ++ List.replicate (n - i) 0).set i (i : Int) = upto (i + 1) ++ List.replicate (n - (i + 1)) 0 := by
  obtain ⟨k, rfl⟩ : ∃ k, n = i + (k + 1) := ⟨n - i - 1, by omega⟩
  rw [show i + (k + 1) - i = k + 1 by omega, show i + (k + 1) - (i + 1) = k by omega, List.replicate_succ]
  have : (upto i).length = i := upto_length i
  rw [List.set_append_right _ _ (by omega), this, Nat.sub_self, List.set_cons_zero]
  simp [upto, List.range_succ]

theorem some_spec1 (l : List UInt8) (p : Int) (n : Nat) (asked : Int) (hl : l.length ≤ 1000000) (hp1 : -9223372036854775808 ≤ p) (hp2 : p ≤ 9223372036854775807) (hn1 : 1 ≤ n) (hn2 : n ≤ 1000) (ha : 1 ≤ asked) :
    Idl.Spec Try.prog 14 [tape l p, .i64 n, .i64 asked] [] (Only (.tup [isl (someGo l (min (n : Int) asked).toNat (upto n) [] p).1, tape l (someGo l (min (n : Int) asked).toNat (upto n) [] p).2]) []) := by
  refine sB Try.func14 Try.ntmps14 ?_
  repeat' (first
    | refine IOps_nil ?_
    | refine oS ?_
    | refine IOps_s rfl rfl ?_
    | refine oT ?_
    | refine IOps_s0 rfl ?_
    | refine oZ ?_
    | refine oI ?_
    | refine thenI_n ?_
    | refine IWP_seq ?_
    | refine IWP_region ?_
    | refine IWP_ct rfl ?_
    | refine IWP_cf rfl ?_
    | refine IWP_skip ?_
    | refine IWP_ret ?_
    | refine IWP_block ?_
    | refine inB_n ?_
    | refine thenI_r ?_
    | refine thenI_e ?_
    | refine inB_r ?_
    | refine inB_hit ?_
    | refine inB_miss rfl ?_
    | refine IWP_exit ?_
    | refine Loop_n ?_
    | refine oD (id := 2) W14_2 [2] O14_2 [_, _, _] [_, _] rfl (by repeat' (first | exact trivial | refine And.intro ?_ ?_ | exact bS | exact bX | exact bZ | exact bI | fail)) ?_
    | refine oD (id := 17) W14_17 [3] O14_17 [_, _, _, _] [_, _] rfl (by repeat' (first | exact trivial | refine And.intro ?_ ?_ | exact bS | exact bX | exact bZ | exact bI | fail)) ?_
    | fail)
  refine IWP_loop (fun i : Nat => ⟨62, [(3, .ptr 0 0), (7, .ptr 1 0), (1, .i64 n), (2, .i64 asked), (8, .sl 2 0 n n 1), (26, .i64 n), (27, .i64 i)], [.box [.str l, .i64 p], .box [.str [], .i64 0], .arr true (ints (upto i ++ List.replicate (n - i) 0))]⟩)
    (fun i => i ≤ n) (fun i => n - i) 0 (lP [0, 1, 2] (h3 := rfl)) (Nat.zero_le _) ?_
  rintro i hi
  by_cases hin : i < n
  · repeat' (first
      | refine IOps_nil ?_
      | refine oS ?_
      | refine IOps_s rfl rfl ?_
      | refine oT ?_
      | refine IOps_s0 rfl ?_
      | refine oZ ?_
      | refine oI ?_
      | refine thenI_n ?_
      | refine IWP_seq ?_
      | refine IWP_region ?_
      | refine IWP_ct rfl ?_
      | refine IWP_cf rfl ?_
      | refine IWP_skip ?_
      | refine IWP_ret ?_
      | refine IWP_block ?_
      | refine inB_n ?_
      | refine thenI_r ?_
      | refine thenI_e ?_
      | refine inB_r ?_
      | refine inB_hit ?_
      | refine inB_miss rfl ?_
      | refine IWP_exit ?_
      | refine Loop_n ?_
      | refine oD (id := 2) W14_2 [2] O14_2 [_, _, _] [_, _] rfl (by repeat' (first | exact trivial | refine And.intro ?_ ?_ | exact bS | exact bX | exact bZ | exact bI | fail)) ?_
      | refine oD (id := 17) W14_17 [3] O14_17 [_, _, _, _] [_, _] rfl (by repeat' (first | exact trivial | refine And.intro ?_ ?_ | exact bS | exact bX | exact bZ | exact bI | fail)) ?_
      | fail)
    refine ⟨i + 1, hin, by omega, lP [0, 1, 2] (h3 := by rw [← upto_set hin]; rfl)⟩
  · obtain rfl : i = n := by omega
    repeat' (first
      | refine IOps_nil ?_
      | refine oS ?_
      | refine IOps_s rfl rfl ?_
      | refine oT ?_
      | refine IOps_s0 rfl ?_
      | refine oZ ?_
      | refine oI ?_
      | refine thenI_n ?_
      | refine IWP_seq ?_
      | refine IWP_region ?_
      | refine IWP_ct rfl ?_
      | refine IWP_cf rfl ?_
      | refine IWP_skip ?_
      | refine IWP_ret ?_
      | refine IWP_block ?_
      | refine inB_n ?_
      | refine thenI_r ?_
      | refine thenI_e ?_
      | refine inB_r ?_
      | refine inB_hit ?_
      | refine inB_miss rfl ?_
      | refine IWP_exit ?_
      | refine Loop_n ?_
      | refine oD (id := 2) W14_2 [2] O14_2 [_, _, _] [_, _] rfl (by repeat' (first | exact trivial | refine And.intro ?_ ?_ | exact bS | exact bX | exact bZ | exact bI | fail)) ?_
      | refine oD (id := 17) W14_17 [3] O14_17 [_, _, _, _] [_, _] rfl (by repeat' (first | exact trivial | refine And.intro ?_ ?_ | exact bS | exact bX | exact bZ | exact bI | fail)) ?_
      | fail)
    obtain ⟨m, hm⟩ := Int.eq_ofNat_of_zero_le (a := min (i : Int) asked) (by omega)
    have hmi : m ≤ i := by omega
    rw [show (if asked < (i : Int) then asked else (i : Int)) = (m : Int) from by rw [← hm]; split <;> omega, hm, Int.toNat_natCast]
    clear hm
    refine wV 10 1 ?_
    refine IWP_loop (fun x : Nat × List Int × List Int × Int × List Int => ⟨62, [(3, .ptr 0 0), (7, .ptr 1 0), (37, .i64 m), (38, .i64 x.1), (10, .sl 3 0 x.1 x.1 1), (8, .sl 2 0 (i - x.1) i 1)],
        [.box [.str l, .i64 x.2.2.2.1], .box [.str [], .i64 0], .arr true (ints (x.2.1 ++ x.2.2.2.2)), .arr true (ints x.2.2.1)]⟩)
      (fun x => x.1 ≤ m ∧ x.2.1.length = i - x.1 ∧ x.2.2.1.length = x.1 ∧ x.2.2.2.2.length = x.1 ∧ -9223372036854775808 ≤ x.2.2.2.1 ∧ x.2.2.2.1 ≤ 9223372036854775807 ∧ someGo l (m - x.1) x.2.1 x.2.2.1 x.2.2.2.1 = someGo l m (upto i) [] p)
      (fun x => m - x.1) (0, upto i, [], p, []) (lP [0, 1, 2, 3] (h3 := by rw [Nat.sub_self]; rfl)) ⟨Nat.zero_le _, upto_length i, rfl, rfl, hp1, hp2, rfl⟩ ?_
    rintro ⟨j, left, told, q, junk⟩ ⟨hj, hll, htl, hjl, hq1, hq2, hgo⟩
    simp only at hj hll htl hjl hq1 hq2 hgo ⊢
    by_cases hjm : j < m
    · have hb := pickV_bd (l := l) (p := q) (n := ((i - j : Nat) : Int)) (by omega) (by omega)
      have hb2 := pickP_bd (l := l) (p := q) (n := ((i - j : Nat) : Int)) hl hq1 hq2
      have hs := pick_spec l q ((i - j : Nat) : Int) hl hq1 hq2
      obtain ⟨a, ha⟩ := Int.eq_ofNat_of_zero_le hb.1
      rw [ha] at hs hb
      have hgo' : someGo l (m - (j + 1)) (left.eraseIdx a) (told ++ [left.getD a 0]) (pickP l q ((i - j : Nat) : Int)) = someGo l m (upto i) [] p := by
        rw [← hgo, show m - j = (m - (j + 1)) + 1 by omega]
        unfold someGo
        rw [hll, ha, Int.toNat_natCast]
        cases m - (j + 1) <;> rfl
      clear hgo ha
      repeat' (first
        | refine IOps_nil ?_
        | refine oS ?_
        | refine IOps_s rfl rfl ?_
        | refine oT ?_
        | refine IOps_s0 rfl ?_
        | refine oC (π := []) (hs := by first | exact hs | fail) (hx := ?_)
        | refine oC (π := [2]) (hs := by first | exact (del_spec' _ _ _ _ _ (by omega) (by omega) (by omega) (by omega)) | fail) (hx := ?_)
        | refine oZ ?_
        | refine oI ?_
        | refine thenI_n ?_
        | refine IWP_seq ?_
        | refine IWP_region ?_
        | refine IWP_ct rfl ?_
        | refine IWP_cf rfl ?_
        | refine IWP_skip ?_
        | refine IWP_ret ?_
        | refine IWP_block ?_
        | refine inB_n ?_
        | refine thenI_r ?_
        | refine thenI_e ?_
        | refine inB_r ?_
        | refine inB_hit ?_
        | refine inB_miss rfl ?_
        | refine IWP_exit ?_
        | refine Loop_n ?_
        | refine oD (id := 2) W14_2 [2] O14_2 [_, _, _] [_, _] rfl (by repeat' (first | exact trivial | refine And.intro ?_ ?_ | exact bS | exact bX | exact bZ | exact bI | exact bC (π := []) (hs := by first | exact hs | fail) | exact bC (π := [2]) (hs := by first | exact (del_spec' _ _ _ _ _ (by omega) (by omega) (by omega) (by omega)) | fail) | fail)) ?_
        | refine oD (id := 17) W14_17 [3] O14_17 [_, _, _, _] [_, _] rfl (by repeat' (first | exact trivial | refine And.intro ?_ ?_ | exact bS | exact bX | exact bZ | exact bI | exact bC (π := []) (hs := by first | exact hs | fail) | exact bC (π := [2]) (hs := by first | exact (del_spec' _ _ _ _ _ (by omega) (by omega) (by omega) (by omega)) | fail) | fail)) ?_
        | fail)
      refine ⟨(j + 1, left.eraseIdx a, told ++ [left.getD a 0], pickP l q ((i - j : Nat) : Int), 0 :: junk), ⟨by omega, ?_, ?_, ?_, hb2.1, hb2.2, hgo'⟩, by simp only; omega, lP [0, 1, 2, 5]⟩
      · rw [List.length_eraseIdx_of_lt (by omega)]; simp only; omega
      · simp; omega
      · simp; omega
    · obtain rfl : j = m := by omega
      rw [Nat.sub_self] at hgo
      rw [← hgo]
      refine wF 10 ?_
      repeat' (first
        | refine IOps_nil ?_
        | refine oS ?_
        | refine IOps_s rfl rfl ?_
        | refine oT ?_
        | refine IOps_s0 rfl ?_
        | refine oZ ?_
        | refine oI ?_
        | refine thenI_n ?_
        | refine IWP_seq ?_
        | refine IWP_region ?_
        | refine IWP_ct rfl ?_
        | refine IWP_cf rfl ?_
        | refine IWP_skip ?_
        | refine IWP_ret ?_
        | refine IWP_block ?_
        | refine inB_n ?_
        | refine thenI_r ?_
        | refine thenI_e ?_
        | refine inB_r ?_
        | refine inB_hit ?_
        | refine inB_miss rfl ?_
        | refine IWP_exit ?_
        | refine Loop_n ?_
        | refine oD (id := 2) W14_2 [2] O14_2 [_, _, _] [_, _] rfl (by repeat' (first | exact trivial | refine And.intro ?_ ?_ | exact bS | exact bX | exact bZ | exact bI | fail)) ?_
        | refine oD (id := 17) W14_17 [3] O14_17 [_, _, _, _] [_, _] rfl (by repeat' (first | exact trivial | refine And.intro ?_ ?_ | exact bS | exact bX | exact bZ | exact bI | fail)) ?_
        | fail)
      refine pE [] ?_
      subst htl
      rfl
end Go.Proofs.Ytpmgocnapdhabaa
