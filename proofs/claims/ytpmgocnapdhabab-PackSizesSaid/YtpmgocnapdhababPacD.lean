/-
  Numbers, texts and lists are taken.
-/
import Derived.Test.YtpmgocnapdhababPacC
namespace Go.Proofs.Ytpmgocnapdhabab
open Go Go.Idl
set_option linter.unusedSimpArgs false
set_option linter.unusedVariables false
set_option maxRecDepth 100000
set_option maxHeartbeats 1000000
attribute [local irreducible] Go.Idl.IWP Go.Idl.IOps Go.Idl.Obl Go.Idl.OpG Go.Idl.thenI Go.Idl.inBlockI Go.Idl.LoopU Go.Idl.noGotoI Go.Idl.jumpI
attribute [local go_sem] List.append_assoc
theorem or_u64 (x y : Nat) (hx : x < 2 ^ 64) (hy : y < 2 ^ 64) : ibits .or .u64 x y = ((x ||| y : Nat) : Int) := by
  have h : x ||| y < 2 ^ 64 := Nat.or_lt_two_pow hx hy
  show IntKind.u64.wrap _ = _
  have e1 : BitVec.ofInt IntKind.u64.bits (x : Int) = BitVec.ofNat 64 x := by
    show BitVec.ofInt 64 (x : Int) = _
    simp
  have e2 : BitVec.ofInt IntKind.u64.bits (y : Int) = BitVec.ofNat 64 y := by
    show BitVec.ofInt 64 (y : Int) = _
    simp
  rw [e1, e2]
  have : (BitVec.ofNat 64 x ||| BitVec.ofNat 64 y).toNat = x ||| y := by
    simp only [BitVec.toNat_or, BitVec.toNat_ofNat]
    rw [Nat.mod_eq_of_lt hx, Nat.mod_eq_of_lt hy]
  show IntKind.u64.wrap ((BitVec.ofNat 64 x ||| BitVec.ofNat 64 y).toNat : Int) = _
  rw [this]
  exact wrap_u64 (by omega) (by omega)
/-- A digit laid above what is there. -/
theorem or_digit {n : Int} {d i : Nat} (h0 : 0 ≤ n) (h1 : n < 128 ^ i) (hi : i ≤ 9) (hd : d < 128) (h9 : i = 9 → d ≤ 1) :
    ibits .or .u64 n (IntKind.u64.wrap ((d : Int) * 2 ^ (7 * (i : Int)).toNat)) = n + (d : Int) * 128 ^ i := by
  obtain ⟨x, rfl⟩ := Int.eq_ofNat_of_zero_le h0
  have hp : (2 : Nat) ^ (7 * i) = 128 ^ i := by rw [Nat.pow_mul]
  have hx : x < 2 ^ (7 * i) := by rw [hp]; exact_mod_cast h1
  have hm : d * 2 ^ (7 * i) < 2 ^ 64 := by
    rcases Nat.lt_or_ge i 9 with h | h
    · have : (2 : Nat) ^ (7 * i) ≤ 2 ^ 56 := Nat.pow_le_pow_right (by omega) (by omega)
      have := Nat.mul_le_mul (show d ≤ 127 by omega) this
      omega
    · obtain rfl : i = 9 := by omega
      have := h9 rfl
      have h2 : d * 2 ^ (7 * 9) ≤ 1 * 2 ^ (7 * 9) := Nat.mul_le_mul_right _ this
      omega
  have hx2 : x < 2 ^ 64 := Nat.lt_of_lt_of_le hx (Nat.pow_le_pow_right (by omega) (by omega))
  have e0 : (7 * (i : Int)).toNat = 7 * i := by omega
  have e : (d : Int) * 2 ^ (7 * i) = ((d * 2 ^ (7 * i) : Nat) : Int) := by simp
  rw [e0, e, wrap_u64 (by omega) (by omega), or_u64 _ _ hx2 hm]
  have := Nat.two_pow_add_eq_or_of_lt hx d
  have h2 : x ||| d * 2 ^ (7 * i) = x + d * 2 ^ (7 * i) := by
    rw [Nat.or_comm, Nat.mul_comm, ← this]; omega
  rw [h2, hp]; simp

theorem drop_cons {b : List UInt8} {i : Nat} (h : i < b.length) : b.drop i = b.getD i 0 :: b.drop (i + 1) := by
  rw [List.getD_eq_getElem?_getD, List.getElem?_eq_getElem h, Option.getD_some, List.getElem_cons_drop]
theorem acc_lt {n : Int} {d i : Nat} (h : n < 128 ^ i) (hd : d < 128) : n + (d : Int) * 128 ^ i < 128 ^ (i + 1) := by
  have hp : (0 : Int) < 128 ^ i := Int.pow_pos (by omega)
  have : (d : Int) * 128 ^ i ≤ 127 * 128 ^ i := Int.mul_le_mul_of_nonneg_right (by omega) (by omega)
  rw [pow_succ']; omega

def takeR (b : List UInt8) : IV :=
  match takeV b with
  | none => .tup [.sc (.int .u64 0), .str [], .i64 70]
  | some (n, r) => .tup [.sc (.int .u64 n), .str r, .i64 0]
theorem takeR_fresh (b : List UInt8) : (takeR b).fresh = true := by unfold takeR; split <;> rfl
attribute [go_sem] takeR_fresh

theorem take_spec (b : List UInt8) (hb : b.length ≤ 1000000000) : Idl.Spec Try.prog 11 [.str b] [] (Only (takeR b) []) := by
  refine sB Try.func11 Try.ntmps11 ?_
  repeat' (first
    | refine IOps_nil ?_
    | refine oS ?_
    | refine IOps_s rfl rfl ?_
    | refine oT ?_
    | refine IOps_s0 rfl ?_
    | refine oZ ?_
    | refine oI ?_
    | refine thenI_n ?_
    | refine IWP_seq ?_
    | refine IWP_region ?_
    | refine IWP_ct rfl ?_
    | refine IWP_cf rfl ?_
    | refine IWP_skip ?_
    | refine IWP_ret ?_
    | refine IWP_block ?_
    | refine inB_n ?_
    | refine thenI_r ?_
    | refine thenI_e ?_
    | refine inB_r ?_
    | refine inB_hit ?_
    | refine inB_miss rfl ?_
    | refine IWP_exit ?_
    | refine IWP_scope ?_
    | refine IWP_label ?_
    | refine noG_n ?_
    | refine noG_r ?_
    | refine noG_e ?_
    | refine jmp_n ?_
    | refine jmp_r ?_
    | refine jmp_e ?_
    | refine jmp_g ?_
    | refine thenI_g ?_
    | refine inB_g ?_
    | refine IWP_goto ?_
    | refine Loop_n ?_
    | refine oD (id := 11) W11_11 [] O11_11 [_, _, _, _, _, _, _, _] [_] rfl (by repeat' (first | exact trivial | refine And.intro ?_ ?_ | exact bS | exact bX | exact bZ | exact bI | fail)) ?_
    | fail)
  refine IWP_loop (fun x : Nat × Int => ⟨50, [(0, .str b), (5, .fn (.func 26) [] []), (6, .sc (.int .u64 x.2)), (10, .i64 b.length), (11, .i64 x.1)], []⟩)
    (fun x => x.1 ≤ 9 ∧ x.1 ≤ b.length ∧ 0 ≤ x.2 ∧ x.2 < 128 ^ x.1 ∧ takeF (10 - x.1) x.1 x.2 (b.drop x.1) = takeV b) (fun x => 10 - x.1) (0, 0) (lP []) ⟨by simp, by simp, by simp, by simp, by simp [takeV]⟩ ?_
  rintro ⟨i, n⟩ ⟨q0, q1, q2, q3, q4⟩
  simp only at q0 q1 q2 q3 q4 ⊢
  by_cases hib : i < b.length
  · obtain ⟨f, hf⟩ : ∃ f, 10 - i = f + 1 := ⟨9 - i, by omega⟩
    rw [hf, drop_cons hib] at q4
    unfold takeF at q4
    have hd := (b.getD i 0).toNat_lt
    by_cases h9 : i = 9 ∧ (b.getD i 0).toNat > 1
    · rw [if_pos h9] at q4
      unfold takeR
      rw [← q4]
      obtain ⟨h9, h9'⟩ := h9
      repeat' (first
        | refine IOps_nil ?_
        | refine oS ?_
        | refine IOps_s rfl rfl ?_
        | refine oT ?_
        | refine IOps_s0 rfl ?_
        | refine oC (π := []) (hs := by first | exact none_spec | fail) (hx := ?_)
        | refine oZ ?_
        | refine oI ?_
        | refine thenI_n ?_
        | refine IWP_seq ?_
        | refine IWP_region ?_
        | refine IWP_ct rfl ?_
        | refine IWP_cf rfl ?_
        | refine IWP_skip ?_
        | refine IWP_ret ?_
        | refine IWP_block ?_
        | refine inB_n ?_
        | refine thenI_r ?_
        | refine thenI_e ?_
        | refine inB_r ?_
        | refine inB_hit ?_
        | refine inB_miss rfl ?_
        | refine IWP_exit ?_
        | refine IWP_scope ?_
        | refine IWP_label ?_
        | refine noG_n ?_
        | refine noG_r ?_
        | refine noG_e ?_
        | refine jmp_n ?_
        | refine jmp_r ?_
        | refine jmp_e ?_
        | refine jmp_g ?_
        | refine thenI_g ?_
        | refine inB_g ?_
        | refine IWP_goto ?_
        | refine Loop_n ?_
        | refine oD (id := 11) W11_11 [] O11_11 [_, _, _, _, _, _, _, _] [_] rfl (by repeat' (first | exact trivial | refine And.intro ?_ ?_ | exact bS | exact bX | exact bZ | exact bI | exact bC (π := []) (hs := by first | exact none_spec | fail) | fail)) ?_
        | fail)
      exact pD [] ⟨rfl, rfl⟩
    · rw [if_neg h9] at q4
      have hor := fun h => or_digit (d := (b.getD i 0).toNat % 128) q2 q3 q0 (by omega) h
      by_cases h8 : (b.getD i 0).toNat ≥ 128
      · rw [if_pos h8] at q4
        have hi9 : i < 9 := by omega
        have hor := hor (by omega)
        have hlt := acc_lt (d := (b.getD i 0).toNat % 128) q3 (by omega)
        have hge : 0 ≤ (((b.getD i 0).toNat % 128 : Nat) : Int) * 128 ^ i := Int.mul_nonneg (by omega) (Int.le_of_lt (Int.pow_pos (by omega)))
        rw [show (((b.getD i 0).toNat % 128 : Nat) : Int) = ((b.getD i 0).toNat : Int) % 128 from by omega] at hor hlt hge
        repeat' (first
          | refine IOps_nil ?_
          | refine oS ?_
          | refine IOps_s rfl rfl ?_
          | refine oT ?_
          | refine IOps_s0 rfl ?_
          | refine oC (π := []) (hs := by first | exact none_spec | fail) (hx := ?_)
          | refine oZ ?_
          | refine oI ?_
          | refine thenI_n ?_
          | refine IWP_seq ?_
          | refine IWP_region ?_
          | refine IWP_ct rfl ?_
          | refine IWP_cf rfl ?_
          | refine IWP_skip ?_
          | refine IWP_ret ?_
          | refine IWP_block ?_
          | refine inB_n ?_
          | refine thenI_r ?_
          | refine thenI_e ?_
          | refine inB_r ?_
          | refine inB_hit ?_
          | refine inB_miss rfl ?_
          | refine IWP_exit ?_
          | refine IWP_scope ?_
          | refine IWP_label ?_
          | refine noG_n ?_
          | refine noG_r ?_
          | refine noG_e ?_
          | refine jmp_n ?_
          | refine jmp_r ?_
          | refine jmp_e ?_
          | refine jmp_g ?_
          | refine thenI_g ?_
          | refine inB_g ?_
          | refine IWP_goto ?_
          | refine Loop_n ?_
          | refine oD (id := 11) W11_11 [] O11_11 [_, _, _, _, _, _, _, _] [_] rfl (by repeat' (first | exact trivial | refine And.intro ?_ ?_ | exact bS | exact bX | exact bZ | exact bI | exact bC (π := []) (hs := by first | exact none_spec | fail) | fail)) ?_
          | fail)
        refine ⟨(i + 1, n + ((b.getD i 0).toNat : Int) % 128 * 128 ^ i), ⟨by simp only; omega, by simp only; omega, by simp only; omega, hlt, ?_⟩, by simp only; omega, lP [] (h2 := by rw [hor]; exact ⟨rfl, rfl, rfl, rfl, rfl, trivial⟩)⟩
        simp only
        rw [← q4]; congr 1; omega
      · rw [if_neg h8] at q4
        by_cases h7 : (b.getD i 0).toNat = 0 ∧ i > 0
        · rw [if_pos h7] at q4
          unfold takeR
          rw [← q4]
          obtain ⟨h7, h7'⟩ := h7
          by_cases hi9 : i = 9
          all_goals
            repeat' (first
              | refine IOps_nil ?_
              | refine oS ?_
              | refine IOps_s rfl rfl ?_
              | refine oT ?_
              | refine IOps_s0 rfl ?_
              | refine oC (π := []) (hs := by first | exact none_spec | fail) (hx := ?_)
              | refine oZ ?_
              | refine oI ?_
              | refine thenI_n ?_
              | refine IWP_seq ?_
              | refine IWP_region ?_
              | refine IWP_ct rfl ?_
              | refine IWP_cf rfl ?_
              | refine IWP_skip ?_
              | refine IWP_ret ?_
              | refine IWP_block ?_
              | refine inB_n ?_
              | refine thenI_r ?_
              | refine thenI_e ?_
              | refine inB_r ?_
              | refine inB_hit ?_
              | refine inB_miss rfl ?_
              | refine IWP_exit ?_
              | refine IWP_scope ?_
              | refine IWP_label ?_
              | refine noG_n ?_
              | refine noG_r ?_
              | refine noG_e ?_
              | refine jmp_n ?_
              | refine jmp_r ?_
              | refine jmp_e ?_
              | refine jmp_g ?_
              | refine thenI_g ?_
              | refine inB_g ?_
              | refine IWP_goto ?_
              | refine Loop_n ?_
              | refine oD (id := 11) W11_11 [] O11_11 [_, _, _, _, _, _, _, _] [_] rfl (by repeat' (first | exact trivial | refine And.intro ?_ ?_ | exact bS | exact bX | exact bZ | exact bI | exact bC (π := []) (hs := by first | exact none_spec | fail) | fail)) ?_
              | fail)
            exact pD [] ⟨rfl, rfl⟩
        · rw [if_neg h7] at q4
          unfold takeR
          rw [← q4]
          have hor := hor (by omega)
          rw [show (((b.getD i 0).toNat % 128 : Nat) : Int) = ((b.getD i 0).toNat : Int) % 128 from by omega] at hor
          by_cases hi9 : i = 9 <;> by_cases hd0 : (b.getD i 0).toNat = 0
          all_goals try (exfalso; omega)
          all_goals
            repeat' (first
              | refine IOps_nil ?_
              | refine oS ?_
              | refine IOps_s rfl rfl ?_
              | refine oT ?_
              | refine IOps_s0 rfl ?_
              | refine oC (π := []) (hs := by first | exact none_spec | fail) (hx := ?_)
              | refine oZ ?_
              | refine oI ?_
              | refine thenI_n ?_
              | refine IWP_seq ?_
              | refine IWP_region ?_
              | refine IWP_ct rfl ?_
              | refine IWP_cf rfl ?_
              | refine IWP_skip ?_
              | refine IWP_ret ?_
              | refine IWP_block ?_
              | refine inB_n ?_
              | refine thenI_r ?_
              | refine thenI_e ?_
              | refine inB_r ?_
              | refine inB_hit ?_
              | refine inB_miss rfl ?_
              | refine IWP_exit ?_
              | refine IWP_scope ?_
              | refine IWP_label ?_
              | refine noG_n ?_
              | refine noG_r ?_
              | refine noG_e ?_
              | refine jmp_n ?_
              | refine jmp_r ?_
              | refine jmp_e ?_
              | refine jmp_g ?_
              | refine thenI_g ?_
              | refine inB_g ?_
              | refine IWP_goto ?_
              | refine Loop_n ?_
              | refine oD (id := 11) W11_11 [] O11_11 [_, _, _, _, _, _, _, _] [_] rfl (by repeat' (first | exact trivial | refine And.intro ?_ ?_ | exact bS | exact bX | exact bZ | exact bI | exact bC (π := []) (hs := by first | exact none_spec | fail) | fail)) ?_
              | fail)
            refine pE [] ?_
            rw [hor]
            rfl
  · obtain rfl : i = b.length := by omega
    rw [List.drop_length] at q4
    have : takeF (10 - b.length) b.length n [] = none := by
      obtain ⟨f, hf⟩ : ∃ f, 10 - b.length = f + 1 := ⟨9 - b.length, by omega⟩
      rw [hf]; rfl
    rw [this] at q4
    unfold takeR
    rw [← q4]
    repeat' (first
      | refine IOps_nil ?_
      | refine oS ?_
      | refine IOps_s rfl rfl ?_
      | refine oT ?_
      | refine IOps_s0 rfl ?_
      | refine oC (π := []) (hs := by first | exact none_spec | fail) (hx := ?_)
      | refine oZ ?_
      | refine oI ?_
      | refine thenI_n ?_
      | refine IWP_seq ?_
      | refine IWP_region ?_
      | refine IWP_ct rfl ?_
      | refine IWP_cf rfl ?_
      | refine IWP_skip ?_
      | refine IWP_ret ?_
      | refine IWP_block ?_
      | refine inB_n ?_
      | refine thenI_r ?_
      | refine thenI_e ?_
      | refine inB_r ?_
      | refine inB_hit ?_
      | refine inB_miss rfl ?_
      | refine IWP_exit ?_
      | refine IWP_scope ?_
      | refine IWP_label ?_
      | refine noG_n ?_
      | refine noG_r ?_
      | refine noG_e ?_
      | refine jmp_n ?_
      | refine jmp_r ?_
      | refine jmp_e ?_
      | refine jmp_g ?_
      | refine thenI_g ?_
      | refine inB_g ?_
      | refine IWP_goto ?_
      | refine Loop_n ?_
      | refine oD (id := 11) W11_11 [] O11_11 [_, _, _, _, _, _, _, _] [_] rfl (by repeat' (first | exact trivial | refine And.intro ?_ ?_ | exact bS | exact bX | exact bZ | exact bI | exact bC (π := []) (hs := by first | exact none_spec | fail) | fail)) ?_
      | fail)
    exact pD [] ⟨rfl, rfl⟩

/-- A number that is its bytes. -/
theorem own_iff {b : List UInt8} {n : Int} {i : Nat} (h0 : 0 ≤ n) (h1 : n < 18446744073709551616) (hi : i < b.length) : (enc n = b.take (i + 1)) ↔ takeV b = some (n, b.drop (i + 1)) := by
  constructor
  · intro h
    have := takeV_enc h0 h1 (b.drop (i + 1))
    rwa [h, List.take_append_drop] at this
  · intro h
    have h2 := (takeV_own h).1
    have hl := congrArg List.length h2
    simp only [List.length_append, List.length_drop] at hl
    have : enc n = (enc n ++ b.drop (i + 1)).take (i + 1) := by
      rw [List.take_append_of_le_length (by omega), List.take_of_length_le (by omega)]
    rw [← h2] at this; exact this

theorem u64_bd (x : Int) : 0 ≤ IntKind.u64.wrap x ∧ IntKind.u64.wrap x < 18446744073709551616 := by
  simp only [IntKind.wrap, IntKind.bits, IntKind.signed]
  simp; omega
theorem p9v : (128 : Int) ^ 9 = 9223372036854775808 := by decide
/-- A digit added: nothing wraps. -/
theorem add_digit {n d : Int} {i : Nat} (h0 : 0 ≤ n) (h1 : n < 128 ^ i) (hi : i ≤ 9) (hd0 : 0 ≤ d) (hd : d < 128) (h9 : i = 9 → d ≤ 1) : IntKind.u64.wrap (n + IntKind.u64.wrap (d * 128 ^ i)) = n + d * 128 ^ i := by
  have hp : (0 : Int) < 128 ^ i := Int.pow_pos (by omega)
  have hge : 0 ≤ d * 128 ^ i := Int.mul_nonneg hd0 (by omega)
  have hlt : n + d * 128 ^ i < 18446744073709551616 := by
    rcases Nat.lt_or_ge i 9 with h | h
    · have := p9 (i + 1) (by omega)
      have h2 : d * 128 ^ i ≤ 127 * 128 ^ i := Int.mul_le_mul_of_nonneg_right (by omega) (by omega)
      rw [pow_succ'] at this
      rw [p9v] at this
      omega
    · obtain rfl : i = 9 := by omega
      have := h9 rfl
      have h2 : d * 128 ^ 9 ≤ 1 * 128 ^ 9 := Int.mul_le_mul_of_nonneg_right (by omega) (by omega)
      rw [p9v] at *
      omega
  rw [wrap_u64 (n := d * 128 ^ i) (by omega) (by omega), wrap_u64 (by omega) (by omega)]

theorem rtake_spec (b : List UInt8) (hb : b.length ≤ 1000000000) : Idl.Spec Try.prog 12 [.str b] [] (Only (takeR b) []) := by
  refine sB Try.func12 Try.ntmps12 ?_
  repeat' (first
    | refine IOps_nil ?_
    | refine oS ?_
    | refine IOps_s rfl rfl ?_
    | refine oT ?_
    | refine IOps_s0 rfl ?_
    | refine oZ ?_
    | refine oI ?_
    | refine thenI_n ?_
    | refine IWP_seq ?_
    | refine IWP_region ?_
    | refine IWP_ct rfl ?_
    | refine IWP_cf rfl ?_
    | refine IWP_skip ?_
    | refine IWP_ret ?_
    | refine IWP_block ?_
    | refine inB_n ?_
    | refine thenI_r ?_
    | refine thenI_e ?_
    | refine inB_r ?_
    | refine inB_hit ?_
    | refine inB_miss rfl ?_
    | refine IWP_exit ?_
    | refine IWP_scope ?_
    | refine IWP_label ?_
    | refine noG_n ?_
    | refine noG_r ?_
    | refine noG_e ?_
    | refine jmp_n ?_
    | refine jmp_r ?_
    | refine jmp_e ?_
    | refine jmp_g ?_
    | refine thenI_g ?_
    | refine inB_g ?_
    | refine IWP_goto ?_
    | refine Loop_n ?_
    | refine oD (id := 9) W12_9 [] O12_9 [_, _, _, _, _, _, _] [_] rfl (by repeat' (first | exact trivial | refine And.intro ?_ ?_ | exact bS | exact bX | exact bZ | exact bI | fail)) ?_
    | refine oD (id := 11) W12_11 [] O12_11 [_, _, _, _, _, _, _, _] [_] rfl (by repeat' (first | exact trivial | refine And.intro ?_ ?_ | exact bS | exact bX | exact bZ | exact bI | fail)) ?_
    | fail)
  refine IWP_loop (fun x : Nat × Int × Int => ⟨45, [(0, .str b), (5, .sc (.int .u64 x.2.1)), (6, .sc (.int .u64 x.2.2)), (7, .i64 x.1)], []⟩)
    (fun x => x.1 ≤ 10 ∧ x.1 ≤ b.length ∧ 0 ≤ x.2.1 ∧ x.2.1 < 18446744073709551616 ∧ 0 ≤ x.2.2 ∧ x.2.2 < 18446744073709551616 ∧ (x.1 ≤ 9 → x.2.1 < 128 ^ x.1 ∧ x.2.2 = 128 ^ x.1 ∧ takeF (10 - x.1) x.1 x.2.1 (b.drop x.1) = takeV b) ∧ (x.1 = 10 → takeV b = none))
    (fun x => 10 - x.1) (0, 0, 1) (lP []) ⟨by simp, by simp, by simp, by simp, by simp, by simp, fun _ => ⟨by simp, by simp, by simp [takeV]⟩, fun h => by simp at h⟩ ?_
  rintro ⟨i, n, y⟩ ⟨q0, q1, q2, q3, q4, q5, q6, q7⟩
  simp only at q0 q1 q2 q3 q4 q5 q6 q7 ⊢
  by_cases hib : i < b.length
  · by_cases hi : i < 10
    · obtain ⟨r1, r2, r3⟩ := q6 (by omega)
      obtain ⟨f, hf⟩ : ∃ f, 10 - i = f + 1 := ⟨9 - i, by omega⟩
      rw [hf, drop_cons hib] at r3
      unfold takeF at r3
      have hd := (b.getD i 0).toNat_lt
      have hz := u64_bd (n + IntKind.u64.wrap (((b.getD i 0).toNat : Int) % 128 * y))
      have hy := u64_bd (y * 128)
      by_cases h8 : (b.getD i 0).toNat ≥ 128
      · repeat' (first
          | refine IOps_nil ?_
          | refine oS ?_
          | refine IOps_s rfl rfl ?_
          | refine oT ?_
          | refine IOps_s0 rfl ?_
          | refine oZ ?_
          | refine oI ?_
          | refine thenI_n ?_
          | refine IWP_seq ?_
          | refine IWP_region ?_
          | refine IWP_ct rfl ?_
          | refine IWP_cf rfl ?_
          | refine IWP_skip ?_
          | refine IWP_ret ?_
          | refine IWP_block ?_
          | refine inB_n ?_
          | refine thenI_r ?_
          | refine thenI_e ?_
          | refine inB_r ?_
          | refine inB_hit ?_
          | refine inB_miss rfl ?_
          | refine IWP_exit ?_
          | refine IWP_scope ?_
          | refine IWP_label ?_
          | refine noG_n ?_
          | refine noG_r ?_
          | refine noG_e ?_
          | refine jmp_n ?_
          | refine jmp_r ?_
          | refine jmp_e ?_
          | refine jmp_g ?_
          | refine thenI_g ?_
          | refine inB_g ?_
          | refine IWP_goto ?_
          | refine Loop_n ?_
          | refine oD (id := 9) W12_9 [] O12_9 [_, _, _, _, _, _, _] [_] rfl (by repeat' (first | exact trivial | refine And.intro ?_ ?_ | exact bS | exact bX | exact bZ | exact bI | fail)) ?_
          | refine oD (id := 11) W12_11 [] O12_11 [_, _, _, _, _, _, _, _] [_] rfl (by repeat' (first | exact trivial | refine And.intro ?_ ?_ | exact bS | exact bX | exact bZ | exact bI | fail)) ?_
          | fail)
        refine ⟨(i + 1, IntKind.u64.wrap (n + IntKind.u64.wrap (((b.getD i 0).toNat : Int) % 128 * y)), IntKind.u64.wrap (y * 128)), ⟨by simp only; omega, by simp only; omega, hz.1, hz.2, hy.1, hy.2, fun h => ?_, fun h => ?_⟩, by simp only; omega, lP []⟩
        · simp only at h ⊢
          rw [if_neg (by omega), if_pos h8] at r3
          have hlt := acc_lt (d := (b.getD i 0).toNat % 128) r1 (by omega)
          rw [show (((b.getD i 0).toNat % 128 : Nat) : Int) = ((b.getD i 0).toNat : Int) % 128 from by omega] at hlt
          have ha := add_digit (d := ((b.getD i 0).toNat : Int) % 128) q2 r1 (by omega) (by omega) (by omega) (by omega)
          rw [r2, ha]
          refine ⟨hlt, ?_, ?_⟩
          · have := p9 (i + 1) (by omega)
            have hp : (0 : Int) < 128 ^ i := Int.pow_pos (by omega)
            rw [p9v, pow_succ'] at this
            rw [pow_succ', Int.mul_comm, wrap_u64 (by omega) (by omega)]
          · rw [← r3]; congr 1; omega
        · simp only at h
          rw [if_pos ⟨by omega, by omega⟩] at r3
          exact r3.symm
      · have hiff := own_iff hz.1 hz.2 hib
        by_cases hs : takeV b = some (IntKind.u64.wrap (n + IntKind.u64.wrap (((b.getD i 0).toNat : Int) % 128 * y)), b.drop (i + 1))
        · have he := hiff.2 hs
          unfold takeR
          rw [hs]
          repeat' (first
            | refine IOps_nil ?_
            | refine oS ?_
            | refine IOps_s rfl rfl ?_
            | refine oT ?_
            | refine IOps_s0 rfl ?_
            | refine oC (π := []) (hs := by first | exact (rone_spec _ hz.1 (by omega)) | fail) (hx := ?_)
            | refine oZ ?_
            | refine oI ?_
            | refine thenI_n ?_
            | refine IWP_seq ?_
            | refine IWP_region ?_
            | refine IWP_ct rfl ?_
            | refine IWP_cf rfl ?_
            | refine IWP_skip ?_
            | refine IWP_ret ?_
            | refine IWP_block ?_
            | refine inB_n ?_
            | refine thenI_r ?_
            | refine thenI_e ?_
            | refine inB_r ?_
            | refine inB_hit ?_
            | refine inB_miss rfl ?_
            | refine IWP_exit ?_
            | refine IWP_scope ?_
            | refine IWP_label ?_
            | refine noG_n ?_
            | refine noG_r ?_
            | refine noG_e ?_
            | refine jmp_n ?_
            | refine jmp_r ?_
            | refine jmp_e ?_
            | refine jmp_g ?_
            | refine thenI_g ?_
            | refine inB_g ?_
            | refine IWP_goto ?_
            | refine Loop_n ?_
            | refine oD (id := 9) W12_9 [] O12_9 [_, _, _, _, _, _, _] [_] rfl (by repeat' (first | exact trivial | refine And.intro ?_ ?_ | exact bS | exact bX | exact bZ | exact bI | exact bC (π := []) (hs := by first | exact (rone_spec _ hz.1 (by omega)) | fail) | fail)) ?_
            | refine oD (id := 11) W12_11 [] O12_11 [_, _, _, _, _, _, _, _] [_] rfl (by repeat' (first | exact trivial | refine And.intro ?_ ?_ | exact bS | exact bX | exact bZ | exact bI | exact bC (π := []) (hs := by first | exact (rone_spec _ hz.1 (by omega)) | fail) | fail)) ?_
            | fail)
          refine pE [] ?_
          rfl
        · have he : ¬ enc (IntKind.u64.wrap (n + IntKind.u64.wrap (((b.getD i 0).toNat : Int) % 128 * y))) = List.take (i + 1) b := fun h => hs (hiff.1 h)
          have hn : takeV b = none := by
            rw [← r3] at hs ⊢
            by_cases h9 : i = 9 ∧ (b.getD i 0).toNat > 1
            · rw [if_pos h9]
            · rw [if_neg h9, if_neg h8] at hs ⊢
              by_cases h7 : (b.getD i 0).toNat = 0 ∧ i > 0
              · rw [if_pos h7]
              · rw [if_neg h7] at hs
                exfalso; apply hs
                rw [r2, add_digit (d := ((b.getD i 0).toNat : Int) % 128) q2 r1 (by omega) (by omega) (by omega) (by omega)]
          unfold takeR
          rw [hn]
          repeat' (first
            | refine IOps_nil ?_
            | refine oS ?_
            | refine IOps_s rfl rfl ?_
            | refine oT ?_
            | refine IOps_s0 rfl ?_
            | refine oC (π := []) (hs := by first | exact (rone_spec _ hz.1 (by omega)) | fail) (hx := ?_)
            | refine oZ ?_
            | refine oI ?_
            | refine thenI_n ?_
            | refine IWP_seq ?_
            | refine IWP_region ?_
            | refine IWP_ct rfl ?_
            | refine IWP_cf rfl ?_
            | refine IWP_skip ?_
            | refine IWP_ret ?_
            | refine IWP_block ?_
            | refine inB_n ?_
            | refine thenI_r ?_
            | refine thenI_e ?_
            | refine inB_r ?_
            | refine inB_hit ?_
            | refine inB_miss rfl ?_
            | refine IWP_exit ?_
            | refine IWP_scope ?_
            | refine IWP_label ?_
            | refine noG_n ?_
            | refine noG_r ?_
            | refine noG_e ?_
            | refine jmp_n ?_
            | refine jmp_r ?_
            | refine jmp_e ?_
            | refine jmp_g ?_
            | refine thenI_g ?_
            | refine inB_g ?_
            | refine IWP_goto ?_
            | refine Loop_n ?_
            | refine oD (id := 9) W12_9 [] O12_9 [_, _, _, _, _, _, _] [_] rfl (by repeat' (first | exact trivial | refine And.intro ?_ ?_ | exact bS | exact bX | exact bZ | exact bI | exact bC (π := []) (hs := by first | exact (rone_spec _ hz.1 (by omega)) | fail) | fail)) ?_
            | refine oD (id := 11) W12_11 [] O12_11 [_, _, _, _, _, _, _, _] [_] rfl (by repeat' (first | exact trivial | refine And.intro ?_ ?_ | exact bS | exact bX | exact bZ | exact bI | exact bC (π := []) (hs := by first | exact (rone_spec _ hz.1 (by omega)) | fail) | fail)) ?_
            | fail)
          exact pD [] ⟨rfl, rfl⟩
    · obtain rfl : i = 10 := by omega
      have := q7 rfl
      unfold takeR
      rw [this]
      repeat' (first
        | refine IOps_nil ?_
        | refine oS ?_
        | refine IOps_s rfl rfl ?_
        | refine oT ?_
        | refine IOps_s0 rfl ?_
        | refine oZ ?_
        | refine oI ?_
        | refine thenI_n ?_
        | refine IWP_seq ?_
        | refine IWP_region ?_
        | refine IWP_ct rfl ?_
        | refine IWP_cf rfl ?_
        | refine IWP_skip ?_
        | refine IWP_ret ?_
        | refine IWP_block ?_
        | refine inB_n ?_
        | refine thenI_r ?_
        | refine thenI_e ?_
        | refine inB_r ?_
        | refine inB_hit ?_
        | refine inB_miss rfl ?_
        | refine IWP_exit ?_
        | refine IWP_scope ?_
        | refine IWP_label ?_
        | refine noG_n ?_
        | refine noG_r ?_
        | refine noG_e ?_
        | refine jmp_n ?_
        | refine jmp_r ?_
        | refine jmp_e ?_
        | refine jmp_g ?_
        | refine thenI_g ?_
        | refine inB_g ?_
        | refine IWP_goto ?_
        | refine Loop_n ?_
        | refine oD (id := 9) W12_9 [] O12_9 [_, _, _, _, _, _, _] [_] rfl (by repeat' (first | exact trivial | refine And.intro ?_ ?_ | exact bS | exact bX | exact bZ | exact bI | fail)) ?_
        | refine oD (id := 11) W12_11 [] O12_11 [_, _, _, _, _, _, _, _] [_] rfl (by repeat' (first | exact trivial | refine And.intro ?_ ?_ | exact bS | exact bX | exact bZ | exact bI | fail)) ?_
        | fail)
      exact pD [] ⟨rfl, rfl⟩
  · obtain rfl : i = b.length := by omega
    have : takeV b = none := by
      by_cases h : b.length = 10
      · exact q7 h
      · rw [← (q6 (by omega)).2.2, List.drop_length]
        obtain ⟨f, hf⟩ : ∃ f, 10 - b.length = f + 1 := ⟨9 - b.length, by omega⟩
        rw [hf]; rfl
    unfold takeR
    rw [this]
    repeat' (first
      | refine IOps_nil ?_
      | refine oS ?_
      | refine IOps_s rfl rfl ?_
      | refine oT ?_
      | refine IOps_s0 rfl ?_
      | refine oZ ?_
      | refine oI ?_
      | refine thenI_n ?_
      | refine IWP_seq ?_
      | refine IWP_region ?_
      | refine IWP_ct rfl ?_
      | refine IWP_cf rfl ?_
      | refine IWP_skip ?_
      | refine IWP_ret ?_
      | refine IWP_block ?_
      | refine inB_n ?_
      | refine thenI_r ?_
      | refine thenI_e ?_
      | refine inB_r ?_
      | refine inB_hit ?_
      | refine inB_miss rfl ?_
      | refine IWP_exit ?_
      | refine IWP_scope ?_
      | refine IWP_label ?_
      | refine noG_n ?_
      | refine noG_r ?_
      | refine noG_e ?_
      | refine jmp_n ?_
      | refine jmp_r ?_
      | refine jmp_e ?_
      | refine jmp_g ?_
      | refine thenI_g ?_
      | refine inB_g ?_
      | refine IWP_goto ?_
      | refine Loop_n ?_
      | refine oD (id := 9) W12_9 [] O12_9 [_, _, _, _, _, _, _] [_] rfl (by repeat' (first | exact trivial | refine And.intro ?_ ?_ | exact bS | exact bX | exact bZ | exact bI | fail)) ?_
      | refine oD (id := 11) W12_11 [] O12_11 [_, _, _, _, _, _, _, _] [_] rfl (by repeat' (first | exact trivial | refine And.intro ?_ ?_ | exact bS | exact bX | exact bZ | exact bI | fail)) ?_
      | fail)
    exact pD [] ⟨rfl, rfl⟩
end Go.Proofs.Ytpmgocnapdhabab
