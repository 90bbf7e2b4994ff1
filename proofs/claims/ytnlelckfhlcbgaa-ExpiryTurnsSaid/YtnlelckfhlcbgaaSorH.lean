/-
  Sorting, at records: numbers that look random.
-/
import Derived.Test.YtnlelckfhlcbgaaSorC
namespace Go.Proofs.Ytnlelckfhlcbgaa
open Go Go.Idl
set_option linter.unusedSimpArgs false
set_option linter.unusedVariables false
set_option maxRecDepth 100000
set_option maxHeartbeats 1000000
attribute [local irreducible] Go.Idl.IWP Go.Idl.IOps Go.Idl.Obl Go.Idl.OpG Go.Idl.thenI Go.Idl.inBlockI Go.Idl.LoopU Go.Idl.noGotoI Go.Idl.jumpI
attribute [local go_sem] List.length_set
def L8 (x : Nat) : Nat := if x = 0 then 0 else Nat.log2 x + 1
theorem L8_le {x : Nat} (hx : x < 256) : L8 x ≤ 8 := by
  unfold L8; split
  · omega
  · rename_i h
    have : Nat.log2 x < 8 := (Nat.log2_lt h).2 hx
    omega
theorem L8_pow {x : Nat} (hx : 0 < x) : 2 ^ L8 x ≤ 2 * x := by
  unfold L8; rw [if_neg (by omega)]
  have := Nat.log2_self_le (n := x) (by omega)
  rw [Nat.pow_succ]; omega
theorem len64_spec (x : Nat) (hx : x < 256) :
    Idl.Spec Try.prog 77 [.sc (.int .u64 x)] []
      (Ex (fun n : Nat => n ≤ 8 ∧ (0 < x → 2 ^ n ≤ 2 * x)) (fun n => .i64 n) (fun _ => [])) := by
  have h8 := L8_le hx
  refine sE Try.func77 Try.ntmps77 ?_
  repeat' (first
    | refine IOps_nil ?_
    | refine oS ?_
    | refine IOps_s rfl rfl ?_
    | refine oT ?_
    | refine IOps_s0 rfl ?_
    | refine oZ ?_
    | refine oI ?_
    | refine thenI_n ?_
    | refine IWP_seq ?_
    | refine IWP_region ?_
    | refine IWP_ct rfl ?_
    | refine IWP_cf rfl ?_
    | refine IWP_skip ?_
    | refine IWP_ret ?_
    | refine IWP_block ?_
    | refine inB_n ?_
    | refine thenI_r ?_
    | refine thenI_e ?_
    | refine inB_r ?_
    | refine inB_hit ?_
    | refine inB_miss rfl ?_
    | refine IWP_exit ?_
    | refine IWP_scope ?_
    | refine IWP_label ?_
    | refine noG_n ?_
    | refine noG_r ?_
    | refine noG_e ?_
    | refine jmp_n ?_
    | refine jmp_r ?_
    | refine jmp_e ?_
    | refine jmp_g ?_
    | refine thenI_g ?_
    | refine inB_g ?_
    | refine IWP_goto ?_
    | refine Loop_n ?_
    | fail)
  refine oS (y := .sc (.int .u8 (L8 x))) (hy := ?hy) (hp := ?hp) ?_
  case hy =>
    refine congrArg (fun n : Int => IV.sc (.int .u8 n)) (congrArg (fun n : Nat => (n : Int)) ?_)
    rw [Int.toNat_natCast]
    revert x
    exact of_decide_eq_true (by kernel_rfl)
  case hp =>
    refine ⟨Int.natCast_nonneg _, Int.ofNat_lt.2 (Nat.lt_of_lt_of_le hx (Nat.le_of_eq ?_)), trivial⟩
    kernel_rfl
  repeat' (first
    | refine IOps_nil ?_
    | refine oS ?_
    | refine IOps_s rfl rfl ?_
    | refine oT ?_
    | refine IOps_s0 rfl ?_
    | refine oZ ?_
    | refine oI ?_
    | refine thenI_n ?_
    | refine IWP_seq ?_
    | refine IWP_region ?_
    | refine IWP_ct rfl ?_
    | refine IWP_cf rfl ?_
    | refine IWP_skip ?_
    | refine IWP_ret ?_
    | refine IWP_block ?_
    | refine inB_n ?_
    | refine thenI_r ?_
    | refine thenI_e ?_
    | refine inB_r ?_
    | refine inB_hit ?_
    | refine inB_miss rfl ?_
    | refine IWP_exit ?_
    | refine IWP_scope ?_
    | refine IWP_label ?_
    | refine noG_n ?_
    | refine noG_r ?_
    | refine noG_e ?_
    | refine jmp_n ?_
    | refine jmp_r ?_
    | refine jmp_e ?_
    | refine jmp_g ?_
    | refine thenI_g ?_
    | refine inB_g ?_
    | refine IWP_goto ?_
    | refine Loop_n ?_
    | fail)
  exact pX [] (L8 x) ⟨h8, fun h => L8_pow h⟩ rfl

theorem len_spec (x : Nat) (hx : x < 256) :
    Idl.Spec Try.prog 62 [.sc (.int .u64 x)] []
      (Ex (fun n : Nat => n ≤ 8 ∧ (0 < x → 2 ^ n ≤ 2 * x)) (fun n => .i64 n) (fun _ => [])) := by
  refine sE Try.func62 Try.ntmps62 ?_
  repeat' (first
    | refine IOps_nil ?_
    | refine oS ?_
    | refine IOps_s rfl rfl ?_
    | refine oT ?_
    | refine IOps_s0 rfl ?_
    | refine oZ ?_
    | refine oI ?_
    | refine thenI_n ?_
    | refine IWP_seq ?_
    | refine IWP_region ?_
    | refine IWP_ct rfl ?_
    | refine IWP_cf rfl ?_
    | refine IWP_skip ?_
    | refine IWP_ret ?_
    | refine IWP_block ?_
    | refine inB_n ?_
    | refine thenI_r ?_
    | refine thenI_e ?_
    | refine inB_r ?_
    | refine inB_hit ?_
    | refine inB_miss rfl ?_
    | refine IWP_exit ?_
    | refine IWP_scope ?_
    | refine IWP_label ?_
    | refine noG_n ?_
    | refine noG_r ?_
    | refine noG_e ?_
    | refine jmp_n ?_
    | refine jmp_r ?_
    | refine jmp_e ?_
    | refine jmp_g ?_
    | refine thenI_g ?_
    | refine inB_g ?_
    | refine IWP_goto ?_
    | refine Loop_n ?_
    | fail)
  refine oE [] (hs := len64_spec x hx) (hx := ?_)
  rintro n ⟨h1, h2⟩
  repeat' (first
    | refine IOps_nil ?_
    | refine oS ?_
    | refine IOps_s rfl rfl ?_
    | refine oT ?_
    | refine IOps_s0 rfl ?_
    | refine oZ ?_
    | refine oI ?_
    | refine thenI_n ?_
    | refine IWP_seq ?_
    | refine IWP_region ?_
    | refine IWP_ct rfl ?_
    | refine IWP_cf rfl ?_
    | refine IWP_skip ?_
    | refine IWP_ret ?_
    | refine IWP_block ?_
    | refine inB_n ?_
    | refine thenI_r ?_
    | refine thenI_e ?_
    | refine inB_r ?_
    | refine inB_hit ?_
    | refine inB_miss rfl ?_
    | refine IWP_exit ?_
    | refine IWP_scope ?_
    | refine IWP_label ?_
    | refine noG_n ?_
    | refine noG_r ?_
    | refine noG_e ?_
    | refine jmp_n ?_
    | refine jmp_r ?_
    | refine jmp_e ?_
    | refine jmp_g ?_
    | refine thenI_g ?_
    | refine inB_g ?_
    | refine IWP_goto ?_
    | refine Loop_n ?_
    | fail)
  exact pX [] n ⟨h1, h2⟩ rfl

theorem power_spec (x : Nat) (hx0 : 0 < x) (hx : x < 256) :
    Idl.Spec Try.prog 88 [.i64 x] []
      (Ex (fun m : Nat => 1 ≤ m ∧ m ≤ 2 * x) (fun m => .sc (.int .u64 m)) (fun _ => [])) := by
  refine sE Try.func88 Try.ntmps88 ?_
  repeat' (first
    | refine IOps_nil ?_
    | refine oS ?_
    | refine IOps_s rfl rfl ?_
    | refine oT ?_
    | refine IOps_s0 rfl ?_
    | refine oZ ?_
    | refine oI ?_
    | refine thenI_n ?_
    | refine IWP_seq ?_
    | refine IWP_region ?_
    | refine IWP_ct rfl ?_
    | refine IWP_cf rfl ?_
    | refine IWP_skip ?_
    | refine IWP_ret ?_
    | refine IWP_block ?_
    | refine inB_n ?_
    | refine thenI_r ?_
    | refine thenI_e ?_
    | refine inB_r ?_
    | refine inB_hit ?_
    | refine inB_miss rfl ?_
    | refine IWP_exit ?_
    | refine IWP_scope ?_
    | refine IWP_label ?_
    | refine noG_n ?_
    | refine noG_r ?_
    | refine noG_e ?_
    | refine jmp_n ?_
    | refine jmp_r ?_
    | refine jmp_e ?_
    | refine jmp_g ?_
    | refine thenI_g ?_
    | refine inB_g ?_
    | refine IWP_goto ?_
    | refine Loop_n ?_
    | fail)
  refine oE [] (hs := len_spec x hx) (hx := ?_)
  rintro n ⟨h1, h2⟩
  have h3 := h2 hx0
  have h4 : 1 ≤ 2 ^ n := Nat.one_le_two_pow
  have h5 : IntKind.u64.wrap ((1 : Int) * 2 ^ n) = ((2 ^ n : Nat) : Int) := by
    rw [Int.one_mul, Int.natCast_pow]
    have h6 : (2 : Int) ^ n = ((2 ^ n : Nat) : Int) := by simp
    exact wrap_u64 (by omega) (by omega)
  repeat' (first
    | refine IOps_nil ?_
    | refine oS ?_
    | refine IOps_s rfl rfl ?_
    | refine oT ?_
    | refine IOps_s0 rfl ?_
    | refine oZ ?_
    | refine oI ?_
    | refine thenI_n ?_
    | refine IWP_seq ?_
    | refine IWP_region ?_
    | refine IWP_ct rfl ?_
    | refine IWP_cf rfl ?_
    | refine IWP_skip ?_
    | refine IWP_ret ?_
    | refine IWP_block ?_
    | refine inB_n ?_
    | refine thenI_r ?_
    | refine thenI_e ?_
    | refine inB_r ?_
    | refine inB_hit ?_
    | refine inB_miss rfl ?_
    | refine IWP_exit ?_
    | refine IWP_scope ?_
    | refine IWP_label ?_
    | refine noG_n ?_
    | refine noG_r ?_
    | refine noG_e ?_
    | refine jmp_n ?_
    | refine jmp_r ?_
    | refine jmp_e ?_
    | refine jmp_g ?_
    | refine thenI_g ?_
    | refine inB_g ?_
    | refine IWP_goto ?_
    | refine Loop_n ?_
    | fail)
  exact pX [] (2 ^ n) ⟨h4, h3⟩ (congrArg (fun z : Int => IV.sc (.int .u64 z)) h5)

theorem u64_range (z : Int) : 0 ≤ IntKind.u64.wrap z ∧ IntKind.u64.wrap z < 18446744073709551616 := by
  have : IntKind.u64.wrap z = z % 18446744073709551616 := rfl
  omega

def rn1 (x : Int) : Int := ibits .xor .u64 x (IntKind.u64.wrap (x * 2 ^ 13))
def rn2 (x : Int) : Int := ibits .xor .u64 x (x.fdiv (2 ^ 7))
def rn (x : Int) : Int := ibits .xor .u64 (rn2 (rn1 x)) (IntKind.u64.wrap (rn2 (rn1 x) * 2 ^ 17))
theorem next_spec (x : Int) :
    Idl.Spec Try.prog 89 [.ptr 0 0] [.box [.sc (.int .u64 x)]]
      (Ex (fun y : Int => 0 ≤ y ∧ y < 18446744073709551616) (fun y => .sc (.int .u64 y)) (fun y => [.box [.sc (.int .u64 y)]])) := by
  refine sE Try.func89 Try.ntmps89 ?_
  repeat' (first
    | refine IOps_nil ?_
    | refine oS ?_
    | refine IOps_s rfl rfl ?_
    | refine oT ?_
    | refine IOps_s0 rfl ?_
    | refine oZ ?_
    | refine oI ?_
    | refine thenI_n ?_
    | refine IWP_seq ?_
    | refine IWP_region ?_
    | refine IWP_ct rfl ?_
    | refine IWP_cf rfl ?_
    | refine IWP_skip ?_
    | refine IWP_ret ?_
    | refine IWP_block ?_
    | refine inB_n ?_
    | refine thenI_r ?_
    | refine thenI_e ?_
    | refine inB_r ?_
    | refine inB_hit ?_
    | refine inB_miss rfl ?_
    | refine IWP_exit ?_
    | refine IWP_scope ?_
    | refine IWP_label ?_
    | refine noG_n ?_
    | refine noG_r ?_
    | refine noG_e ?_
    | refine jmp_n ?_
    | refine jmp_r ?_
    | refine jmp_e ?_
    | refine jmp_g ?_
    | refine thenI_g ?_
    | refine inB_g ?_
    | refine IWP_goto ?_
    | refine Loop_n ?_
    | refine oD (id := 1) W89_1 [9] O89_1 [_, _, _, _, _, _, _, _, _, _] [_, _] rfl (by repeat' (first | exact trivial | refine And.intro ?_ ?_ | exact bS | exact bX | exact bZ | exact bI | fail)) ?_
    | refine oD (id := 2) W89_2 [9] O89_2 [_, _, _, _, _, _, _, _, _, _] [_, _] rfl (by repeat' (first | exact trivial | refine And.intro ?_ ?_ | exact bS | exact bX | exact bZ | exact bI | fail)) ?_
    | refine oD (id := 3) W89_3 [9] O89_3 [_, _, _, _, _, _, _, _, _, _] [_, _] rfl (by repeat' (first | exact trivial | refine And.intro ?_ ?_ | exact bS | exact bX | exact bZ | exact bI | fail)) ?_
    | fail)
  exact pX [0] (rn x) (u64_range _) rfl
def an (y z : Int) : Nat := (ibits .and .u64 y z).toNat
theorem an_eq (y z : Int) : ibits .and .u64 y z = ((an y z : Nat) : Int) := by
  have : 0 ≤ ibits .and .u64 y z := (u64_range _).1
  unfold an; omega
theorem an_le (y : Int) (m : Nat) (hm : m < 18446744073709551616) : an y m ≤ m := by
  have e2 : BitVec.ofInt IntKind.u64.bits (m : Int) = BitVec.ofNat 64 m := by
    show BitVec.ofInt 64 (m : Int) = _
    simp
  have h1 : (BitVec.ofInt 64 y &&& BitVec.ofNat 64 m).toNat ≤ m := by
    rw [BitVec.toNat_and]
    refine Nat.le_trans Nat.and_le_right ?_
    simp only [BitVec.toNat_ofNat]
    exact Nat.mod_le _ _
  have h2 : ibits .and .u64 y m = ((BitVec.ofInt 64 y &&& BitVec.ofNat 64 m).toNat : Int) := by
    show IntKind.u64.wrap ((BitVec.ofInt IntKind.u64.bits y &&& BitVec.ofInt IntKind.u64.bits (m : Int)).toNat : Int) = _
    rw [e2]
    show IntKind.u64.wrap ((BitVec.ofInt 64 y &&& BitVec.ofNat 64 m).toNat : Int) = _
    exact wrap_u64 (by omega) (by omega)
  unfold an; rw [h2]; omega
end Go.Proofs.Ytnlelckfhlcbgaa
