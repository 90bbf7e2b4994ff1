/-
  Numbers are put.
-/
import Derived.Test.YtpmgocnapdhababPacA
namespace Go.Proofs.Ytpmgocnapdhabab
open Go Go.Idl
set_option linter.unusedSimpArgs false
set_option linter.unusedVariables false
set_option maxRecDepth 100000
set_option maxHeartbeats 1000000
attribute [local irreducible] Go.Idl.IWP Go.Idl.IOps Go.Idl.Obl Go.Idl.OpG Go.Idl.thenI Go.Idl.inBlockI Go.Idl.LoopU Go.Idl.noGotoI Go.Idl.jumpI
theorem layF : ∀ (k : Nat) (n : Int), ¬ n < 128 → n < 2 * 128 ^ k → ∃ j, k = j + 1
  | 0, n, h, h2 => by simp at h2; omega
  | k + 1, _, _, _ => ⟨k, rfl⟩

attribute [local go_sem] List.append_assoc
theorem p9 : ∀ k : Nat, k < 10 → (128 : Int) ^ k ≤ 128 ^ 9 := by decide
theorem p8 : (2 : Int) * 128 ^ 8 = 144115188075855872 := by decide
theorem lay_spec (l : List UInt8) (n : Int) (hl : l.length ≤ 1000000000) (h0 : 0 ≤ n) (h1 : n < 18446744073709551616) :
    Idl.Spec Try.prog 28 [.sl 0 0 l.length l.length 1, .sc (.int .u64 n)] [.arr false (u8s l)]
      (Only (.sl 1 0 (l.length + (enc n).length) (l.length + (enc n).length) 1) [.dead, .arr false (u8s (l ++ enc n))]) := by
  refine sB Try.func28 Try.ntmps28 ?_
  repeat' (first
    | refine IOps_nil ?_
    | refine oS ?_
    | refine IOps_s rfl rfl ?_
    | refine oT ?_
    | refine IOps_s0 rfl ?_
    | refine oZ ?_
    | refine oI ?_
    | refine thenI_n ?_
    | refine IWP_seq ?_
    | refine IWP_region ?_
    | refine IWP_ct rfl ?_
    | refine IWP_cf rfl ?_
    | refine IWP_skip ?_
    | refine IWP_ret ?_
    | refine IWP_block ?_
    | refine inB_n ?_
    | refine thenI_r ?_
    | refine thenI_e ?_
    | refine inB_r ?_
    | refine inB_hit ?_
    | refine inB_miss rfl ?_
    | refine IWP_exit ?_
    | refine IWP_scope ?_
    | refine IWP_label ?_
    | refine noG_n ?_
    | refine noG_r ?_
    | refine noG_e ?_
    | refine jmp_n ?_
    | refine jmp_r ?_
    | refine jmp_e ?_
    | refine jmp_g ?_
    | refine thenI_g ?_
    | refine inB_g ?_
    | refine IWP_goto ?_
    | refine Loop_n ?_
    | fail)
  refine IWP_loop (fun x : Option (List UInt8 × Nat × Int) => match x with
      | none => ⟨21, [(0, .sl 0 0 l.length l.length 1), (1, .sc (.int .u64 n))], [.arr false (u8s l)]⟩
      | some (a, _, m) => ⟨21, [(0, .sl 1 0 (l.length + a.length) (l.length + a.length) 1), (1, .sc (.int .u64 m))], [.dead, .arr false (u8s (l ++ a))]⟩)
    (fun x => match x with
      | none => True
      | some (a, k, m) => 0 ≤ m ∧ m < 2 * 128 ^ k ∧ k ≤ 9 ∧ a.length + k ≤ 9 ∧ a ++ encF k m = enc n)
    (fun x => match x with
      | none => 10
      | some (_, k, _) => k) none (lP [0]) trivial ?_
  rintro (_ | ⟨a, k, m⟩) hx
  · by_cases hs : n < 128
    · rw [show enc n = [UInt8.ofNat n.toNat] from encF_small hs]
      repeat' (first
        | refine IOps_nil ?_
        | refine oS ?_
        | refine IOps_s rfl rfl ?_
        | refine oT ?_
        | refine IOps_s0 rfl ?_
        | refine oZ ?_
        | refine oI ?_
        | refine thenI_n ?_
        | refine IWP_seq ?_
        | refine IWP_region ?_
        | refine IWP_ct rfl ?_
        | refine IWP_cf rfl ?_
        | refine IWP_skip ?_
        | refine IWP_ret ?_
        | refine IWP_block ?_
        | refine inB_n ?_
        | refine thenI_r ?_
        | refine thenI_e ?_
        | refine inB_r ?_
        | refine inB_hit ?_
        | refine inB_miss rfl ?_
        | refine IWP_exit ?_
        | refine IWP_scope ?_
        | refine IWP_label ?_
        | refine noG_n ?_
        | refine noG_r ?_
        | refine noG_e ?_
        | refine jmp_n ?_
        | refine jmp_r ?_
        | refine jmp_e ?_
        | refine jmp_g ?_
        | refine thenI_g ?_
        | refine inB_g ?_
        | refine IWP_goto ?_
        | refine Loop_n ?_
        | fail)
      exact pD [0, 2] ⟨rfl, rfl⟩
    · repeat' (first
        | refine IOps_nil ?_
        | refine oS ?_
        | refine IOps_s rfl rfl ?_
        | refine oT ?_
        | refine IOps_s0 rfl ?_
        | refine oZ ?_
        | refine oI ?_
        | refine thenI_n ?_
        | refine IWP_seq ?_
        | refine IWP_region ?_
        | refine IWP_ct rfl ?_
        | refine IWP_cf rfl ?_
        | refine IWP_skip ?_
        | refine IWP_ret ?_
        | refine IWP_block ?_
        | refine inB_n ?_
        | refine thenI_r ?_
        | refine thenI_e ?_
        | refine inB_r ?_
        | refine inB_hit ?_
        | refine inB_miss rfl ?_
        | refine IWP_exit ?_
        | refine IWP_scope ?_
        | refine IWP_label ?_
        | refine noG_n ?_
        | refine noG_r ?_
        | refine noG_e ?_
        | refine jmp_n ?_
        | refine jmp_r ?_
        | refine jmp_e ?_
        | refine jmp_g ?_
        | refine thenI_g ?_
        | refine inB_g ?_
        | refine IWP_goto ?_
        | refine Loop_n ?_
        | fail)
      exact ⟨some ([UInt8.ofNat (n % 128 + 128).toNat], 8, n / 128), ⟨by omega, by rw [p8]; omega, by omega, by simp, by simp [enc, encF_more hs]⟩, by simp, lP [0, 2]⟩
  · obtain ⟨q0, q1, q2, q3, q4⟩ := hx
    by_cases hs : m < 128
    · rw [encF_small hs] at q4
      rw [← q4]
      repeat' (first
        | refine IOps_nil ?_
        | refine oS ?_
        | refine IOps_s rfl rfl ?_
        | refine oT ?_
        | refine IOps_s0 rfl ?_
        | refine oZ ?_
        | refine oI ?_
        | refine thenI_n ?_
        | refine IWP_seq ?_
        | refine IWP_region ?_
        | refine IWP_ct rfl ?_
        | refine IWP_cf rfl ?_
        | refine IWP_skip ?_
        | refine IWP_ret ?_
        | refine IWP_block ?_
        | refine inB_n ?_
        | refine thenI_r ?_
        | refine thenI_e ?_
        | refine inB_r ?_
        | refine inB_hit ?_
        | refine inB_miss rfl ?_
        | refine IWP_exit ?_
        | refine IWP_scope ?_
        | refine IWP_label ?_
        | refine noG_n ?_
        | refine noG_r ?_
        | refine noG_e ?_
        | refine jmp_n ?_
        | refine jmp_r ?_
        | refine jmp_e ?_
        | refine jmp_g ?_
        | refine thenI_g ?_
        | refine inB_g ?_
        | refine IWP_goto ?_
        | refine Loop_n ?_
        | fail)
      refine pE [0, 3] ?_
      simp; omega
    · obtain ⟨j, rfl⟩ := layF k m hs q1
      have hm : m < 18446744073709551616 := by
        have h9 : (128 : Int) ^ (j + 1) ≤ 128 ^ 9 := p9 _ (by omega)
        have := p64
        omega
      rw [encF_more hs] at q4
      repeat' (first
        | refine IOps_nil ?_
        | refine oS ?_
        | refine IOps_s rfl rfl ?_
        | refine oT ?_
        | refine IOps_s0 rfl ?_
        | refine oZ ?_
        | refine oI ?_
        | refine thenI_n ?_
        | refine IWP_seq ?_
        | refine IWP_region ?_
        | refine IWP_ct rfl ?_
        | refine IWP_cf rfl ?_
        | refine IWP_skip ?_
        | refine IWP_ret ?_
        | refine IWP_block ?_
        | refine inB_n ?_
        | refine thenI_r ?_
        | refine thenI_e ?_
        | refine inB_r ?_
        | refine inB_hit ?_
        | refine inB_miss rfl ?_
        | refine IWP_exit ?_
        | refine IWP_scope ?_
        | refine IWP_label ?_
        | refine noG_n ?_
        | refine noG_r ?_
        | refine noG_e ?_
        | refine jmp_n ?_
        | refine jmp_r ?_
        | refine jmp_e ?_
        | refine jmp_g ?_
        | refine thenI_g ?_
        | refine inB_g ?_
        | refine IWP_goto ?_
        | refine Loop_n ?_
        | fail)
      refine ⟨some (a ++ [UInt8.ofNat (m % 128 + 128).toNat], j, m / 128), ⟨by omega, by rw [pow_succ'] at q1; omega, by omega, by simp; omega, by rw [← q4]; simp⟩, by simp, lP [0, 3]⟩

theorem size_spec (n : Int) (h0 : 0 ≤ n) (h1 : n < 18446744073709551616) : Idl.Spec Try.prog 24 [.sc (.int .u64 n)] [] (Only (.i64 ((enc n).length : Int)) []) := by
  refine sB Try.func24 Try.ntmps24 ?_
  repeat' (first
    | refine IOps_nil ?_
    | refine oS ?_
    | refine IOps_s rfl rfl ?_
    | refine oT ?_
    | refine IOps_s0 rfl ?_
    | refine oZ ?_
    | refine oI ?_
    | refine thenI_n ?_
    | refine IWP_seq ?_
    | refine IWP_region ?_
    | refine IWP_ct rfl ?_
    | refine IWP_cf rfl ?_
    | refine IWP_skip ?_
    | refine IWP_ret ?_
    | refine IWP_block ?_
    | refine inB_n ?_
    | refine thenI_r ?_
    | refine thenI_e ?_
    | refine inB_r ?_
    | refine inB_hit ?_
    | refine inB_miss rfl ?_
    | refine IWP_exit ?_
    | refine IWP_scope ?_
    | refine IWP_label ?_
    | refine noG_n ?_
    | refine noG_r ?_
    | refine noG_e ?_
    | refine jmp_n ?_
    | refine jmp_r ?_
    | refine jmp_e ?_
    | refine jmp_g ?_
    | refine thenI_g ?_
    | refine inB_g ?_
    | refine IWP_goto ?_
    | refine Loop_n ?_
    | fail)
  refine IWP_loop (fun x : Nat × Nat × Int => ⟨11, [(0, .sc (.int .u64 x.2.2)), (3, .i64 (1 + x.1))], []⟩)
    (fun x => 0 ≤ x.2.2 ∧ x.2.2 < 2 * 128 ^ x.2.1 ∧ x.1 + x.2.1 ≤ 9 ∧ x.1 + (encF x.2.1 x.2.2).length = (enc n).length) (fun x => x.2.1) (0, 9, n) (lP []) ⟨h0, by rw [p64]; exact h1, by simp, by simp [enc]⟩ ?_
  rintro ⟨c, k, m⟩ ⟨q0, q1, q2, q3⟩
  simp only at q0 q1 q2 q3 ⊢
  by_cases hs : m < 128
  · rw [encF_small hs] at q3
    repeat' (first
      | refine IOps_nil ?_
      | refine oS ?_
      | refine IOps_s rfl rfl ?_
      | refine oT ?_
      | refine IOps_s0 rfl ?_
      | refine oZ ?_
      | refine oI ?_
      | refine thenI_n ?_
      | refine IWP_seq ?_
      | refine IWP_region ?_
      | refine IWP_ct rfl ?_
      | refine IWP_cf rfl ?_
      | refine IWP_skip ?_
      | refine IWP_ret ?_
      | refine IWP_block ?_
      | refine inB_n ?_
      | refine thenI_r ?_
      | refine thenI_e ?_
      | refine inB_r ?_
      | refine inB_hit ?_
      | refine inB_miss rfl ?_
      | refine IWP_exit ?_
      | refine IWP_scope ?_
      | refine IWP_label ?_
      | refine noG_n ?_
      | refine noG_r ?_
      | refine noG_e ?_
      | refine jmp_n ?_
      | refine jmp_r ?_
      | refine jmp_e ?_
      | refine jmp_g ?_
      | refine thenI_g ?_
      | refine inB_g ?_
      | refine IWP_goto ?_
      | refine Loop_n ?_
      | fail)
    refine pE [] ?_
    exact congrArg (fun z => IV.sc (Value.int .i64 z)) (by (simp at q3; omega))
  · obtain ⟨j, rfl⟩ := layF k m hs q1
    have hm : m < 18446744073709551616 := by
      have h9 : (128 : Int) ^ (j + 1) ≤ 128 ^ 9 := p9 _ (by omega)
      have := p64
      omega
    rw [encF_more hs] at q3
    repeat' (first
      | refine IOps_nil ?_
      | refine oS ?_
      | refine IOps_s rfl rfl ?_
      | refine oT ?_
      | refine IOps_s0 rfl ?_
      | refine oZ ?_
      | refine oI ?_
      | refine thenI_n ?_
      | refine IWP_seq ?_
      | refine IWP_region ?_
      | refine IWP_ct rfl ?_
      | refine IWP_cf rfl ?_
      | refine IWP_skip ?_
      | refine IWP_ret ?_
      | refine IWP_block ?_
      | refine inB_n ?_
      | refine thenI_r ?_
      | refine thenI_e ?_
      | refine inB_r ?_
      | refine inB_hit ?_
      | refine inB_miss rfl ?_
      | refine IWP_exit ?_
      | refine IWP_scope ?_
      | refine IWP_label ?_
      | refine noG_n ?_
      | refine noG_r ?_
      | refine noG_e ?_
      | refine jmp_n ?_
      | refine jmp_r ?_
      | refine jmp_e ?_
      | refine jmp_g ?_
      | refine thenI_g ?_
      | refine inB_g ?_
      | refine IWP_goto ?_
      | refine Loop_n ?_
      | fail)
    exact ⟨(c + 1, j, m / 128), ⟨by simp only; omega, by rw [pow_succ'] at q1; simp only; omega, by simp only; omega, by simp at q3 ⊢; omega⟩, by simp, lP []⟩

def encs (l : List Int) : List UInt8 := (l.map enc).flatten
theorem encs_len (l : List Int) : (encs l).length ≤ 10 * l.length := by
  induction l with
  | nil => simp [encs]
  | cons n l ih =>
    have := enc_len n
    have e : encs (n :: l) = enc n ++ encs l := rfl
    rw [e]; simp; omega
theorem encs_append (a b : List Int) : encs (a ++ b) = encs a ++ encs b := by simp [encs]
theorem encs_take {l : List Int} {i : Nat} (h : i < l.length) : encs (l.take (i + 1)) = encs (l.take i) ++ enc (l.getD i 0) := by
  rw [List.take_succ_eq_append_getElem h, encs_append, List.getD_eq_getElem?_getD, List.getElem?_eq_getElem h, Option.getD_some]
  simp [encs]

theorem put_spec (b : List UInt8) (l : List Int) (hb : b.length ≤ 100000000) (hl : l.length ≤ 10000000) (hn : ∀ n ∈ l, 0 ≤ n ∧ n < 18446744073709551616) :
    Idl.Spec Try.prog 18 [.str b, .fz false (u64s l) l.length] [] (Only (.str (b ++ encs l)) []) := by
  refine sB Try.func18 Try.ntmps18 ?_
  repeat' (first
    | refine IOps_nil ?_
    | refine oS ?_
    | refine IOps_s rfl rfl ?_
    | refine oT ?_
    | refine IOps_s0 rfl ?_
    | refine oZ ?_
    | refine oI ?_
    | refine thenI_n ?_
    | refine IWP_seq ?_
    | refine IWP_region ?_
    | refine IWP_ct rfl ?_
    | refine IWP_cf rfl ?_
    | refine IWP_skip ?_
    | refine IWP_ret ?_
    | refine IWP_block ?_
    | refine inB_n ?_
    | refine thenI_r ?_
    | refine thenI_e ?_
    | refine inB_r ?_
    | refine inB_hit ?_
    | refine inB_miss rfl ?_
    | refine IWP_exit ?_
    | refine IWP_scope ?_
    | refine IWP_label ?_
    | refine noG_n ?_
    | refine noG_r ?_
    | refine noG_e ?_
    | refine jmp_n ?_
    | refine jmp_r ?_
    | refine jmp_e ?_
    | refine jmp_g ?_
    | refine thenI_g ?_
    | refine inB_g ?_
    | refine IWP_goto ?_
    | refine Loop_n ?_
    | fail)
  refine wO 0 ?_
  refine IWP_loop (fun i : Nat => ⟨22, [(5, .sl 0 0 (b.length + (encs (l.take i)).length) (b.length + (encs (l.take i)).length) 1), (10, .fz false (u64s l) l.length), (11, .i64 l.length), (12, .i64 i)], [.arr false (u8s (b ++ encs (l.take i)))]⟩)
    (fun i => i ≤ l.length) (fun i => l.length - i) 0 (lP [0] (h3 := by simp [encs]; rfl)) (Nat.zero_le _) ?_
  intro i hi
  by_cases hil : i < l.length
  · have hg := hn (l.getD i 0) (by rw [List.getD_eq_getElem?_getD, List.getElem?_eq_getElem hil]; exact List.getElem_mem _)
    have hln := encs_len (l.take i)
    simp only [List.length_take] at hln
    have hs := lay_spec (b ++ encs (l.take i)) (l.getD i 0) (by simp; omega) hg.1 hg.2
    rw [List.length_append] at hs
    repeat' (first
      | refine IOps_nil ?_
      | refine oS ?_
      | refine IOps_s rfl rfl ?_
      | refine oT ?_
      | refine IOps_s0 rfl ?_
      | refine oC (π := [0]) (hs := by first | exact hs | fail) (hx := ?_)
      | refine oZ ?_
      | refine oI ?_
      | refine thenI_n ?_
      | refine IWP_seq ?_
      | refine IWP_region ?_
      | refine IWP_ct rfl ?_
      | refine IWP_cf rfl ?_
      | refine IWP_skip ?_
      | refine IWP_ret ?_
      | refine IWP_block ?_
      | refine inB_n ?_
      | refine thenI_r ?_
      | refine thenI_e ?_
      | refine inB_r ?_
      | refine inB_hit ?_
      | refine inB_miss rfl ?_
      | refine IWP_exit ?_
      | refine IWP_scope ?_
      | refine IWP_label ?_
      | refine noG_n ?_
      | refine noG_r ?_
      | refine noG_e ?_
      | refine jmp_n ?_
      | refine jmp_r ?_
      | refine jmp_e ?_
      | refine jmp_g ?_
      | refine thenI_g ?_
      | refine inB_g ?_
      | refine IWP_goto ?_
      | refine Loop_n ?_
      | fail)
    exact ⟨i + 1, hil, by omega, lP [1] (h2 := by rw [encs_take hil, List.length_append, ← Nat.add_assoc]; exact ⟨rfl, rfl, rfl, rfl, trivial⟩) (h3 := by rw [encs_take hil, ← List.append_assoc]; rfl)⟩
  · obtain rfl : i = l.length := by omega
    repeat' (first
      | refine IOps_nil ?_
      | refine oS ?_
      | refine IOps_s rfl rfl ?_
      | refine oT ?_
      | refine IOps_s0 rfl ?_
      | refine oZ ?_
      | refine oI ?_
      | refine thenI_n ?_
      | refine IWP_seq ?_
      | refine IWP_region ?_
      | refine IWP_ct rfl ?_
      | refine IWP_cf rfl ?_
      | refine IWP_skip ?_
      | refine IWP_ret ?_
      | refine IWP_block ?_
      | refine inB_n ?_
      | refine thenI_r ?_
      | refine thenI_e ?_
      | refine inB_r ?_
      | refine inB_hit ?_
      | refine inB_miss rfl ?_
      | refine IWP_exit ?_
      | refine IWP_scope ?_
      | refine IWP_label ?_
      | refine noG_n ?_
      | refine noG_r ?_
      | refine noG_e ?_
      | refine jmp_n ?_
      | refine jmp_r ?_
      | refine jmp_e ?_
      | refine jmp_g ?_
      | refine thenI_g ?_
      | refine inB_g ?_
      | refine IWP_goto ?_
      | refine Loop_n ?_
      | fail)
    refine pE [] ?_
    rfl
end Go.Proofs.Ytpmgocnapdhabab
