/-
  The laws PackSizes and PackLists.
-/
import Derived.Test.YtpmgocnapdhababPacL2
namespace Go.Proofs.Ytpmgocnapdhabab
open Go Go.Idl
set_option linter.unusedSimpArgs false
set_option linter.unusedVariables false
set_option maxRecDepth 100000
set_option maxHeartbeats 1000000
attribute [local irreducible] Go.Idl.IWP Go.Idl.IOps Go.Idl.Obl Go.Idl.OpG Go.Idl.thenI Go.Idl.inBlockI Go.Idl.LoopU Go.Idl.noGotoI Go.Idl.jumpI
attribute [local go_sem] List.append_assoc
theorem encF_mono : ∀ (k : Nat) (a b : Int), a ≤ b → (encF k a).length ≤ (encF k b).length
  | 0, a, b, _ => by simp [encF]
  | k + 1, a, b, h => by
    by_cases ha : a < 128
    · rw [encF_small ha]
      exact (encF_len _ _).1
    · rw [encF_more ha, encF_more (by omega)]
      have := encF_mono k (a / 128) (b / 128) (by omega)
      simpa using this
theorem encF_stable : ∀ (k : Nat) (a : Int), a < 2 * 128 ^ k → encF (k + 1) a = encF k a
  | 0, a, h => by
    have h : a < 2 := by simpa using h
    rw [encF_small (by omega), encF_small (by omega)]
  | k + 1, a, h => by
    by_cases ha : a < 128
    · rw [encF_small ha, encF_small ha]
    · rw [encF_more ha, encF_more ha, encF_stable k (a / 128) (by rw [pow_succ'] at h; omega)]
theorem enc_mul {a : Int} (h0 : 0 < a) (h1 : a < 144115188075855872) : (enc (128 * a)).length = (enc a).length + 1 := by
  unfold enc
  rw [encF_more (by omega), show 128 * a / 128 = a by omega, encF_stable 8 a (by rw [p8]; exact h1)]
  simp

theorem sizes_spec (a b : Int) (k l : List Int) (ha0 : 0 ≤ a) (ha1 : a < 18446744073709551616) (hb0 : 0 ≤ b) (hb1 : b < 18446744073709551616) (hk : k.length ≤ 9223372036854775807) (hkn : ∀ n ∈ k, 0 ≤ n ∧ n < 18446744073709551616)
    (hl : l.length ≤ 9223372036854775807) (hln : ∀ n ∈ l, 0 ≤ n ∧ n < 18446744073709551616) :
    Idl.Spec Try.prog 7 [.sc (.int .u64 a), .sc (.int .u64 b), .fz false (u64s k) k.length, .fz false (u64s l) l.length] [] (Only (.sc (.bool true)) []) := by
  refine sB Try.func7 Try.ntmps7 ?_
  by_cases hk1 : k.length > 100
  · repeat' (first
      | refine IOps_nil ?_
      | refine oS ?_
      | refine IOps_s rfl rfl ?_
      | refine oT ?_
      | refine IOps_s0 rfl ?_
      | refine oC (π := []) (hs := by first | exact awake_spec | fail) (hx := ?_)
      | refine oZ ?_
      | refine oI ?_
      | refine thenI_n ?_
      | refine IWP_seq ?_
      | refine IWP_region ?_
      | refine IWP_ct rfl ?_
      | refine IWP_cf rfl ?_
      | refine IWP_skip ?_
      | refine IWP_ret ?_
      | refine IWP_block ?_
      | refine inB_n ?_
      | refine thenI_r ?_
      | refine thenI_e ?_
      | refine inB_r ?_
      | refine inB_hit ?_
      | refine inB_miss rfl ?_
      | refine IWP_exit ?_
      | refine IWP_scope ?_
      | refine IWP_label ?_
      | refine noG_n ?_
      | refine noG_r ?_
      | refine noG_e ?_
      | refine jmp_n ?_
      | refine jmp_r ?_
      | refine jmp_e ?_
      | refine jmp_g ?_
      | refine thenI_g ?_
      | refine inB_g ?_
      | refine IWP_goto ?_
      | refine Loop_n ?_
      | fail)
    exact pD [] ⟨rfl, rfl⟩
  · by_cases hl1 : l.length > 100
    · repeat' (first
        | refine IOps_nil ?_
        | refine oS ?_
        | refine IOps_s rfl rfl ?_
        | refine oT ?_
        | refine IOps_s0 rfl ?_
        | refine oC (π := []) (hs := by first | exact awake_spec | fail) (hx := ?_)
        | refine oZ ?_
        | refine oI ?_
        | refine thenI_n ?_
        | refine IWP_seq ?_
        | refine IWP_region ?_
        | refine IWP_ct rfl ?_
        | refine IWP_cf rfl ?_
        | refine IWP_skip ?_
        | refine IWP_ret ?_
        | refine IWP_block ?_
        | refine inB_n ?_
        | refine thenI_r ?_
        | refine thenI_e ?_
        | refine inB_r ?_
        | refine inB_hit ?_
        | refine inB_miss rfl ?_
        | refine IWP_exit ?_
        | refine IWP_scope ?_
        | refine IWP_label ?_
        | refine noG_n ?_
        | refine noG_r ?_
        | refine noG_e ?_
        | refine jmp_n ?_
        | refine jmp_r ?_
        | refine jmp_e ?_
        | refine jmp_g ?_
        | refine thenI_g ?_
        | refine inB_g ?_
        | refine IWP_goto ?_
        | refine Loop_n ?_
        | fail)
      exact pD [] ⟨rfl, rfl⟩
    · have hp1 := put_spec [] k (by simp) (by omega) hkn
      have hek := encs_len k
      rw [List.nil_append] at hp1
      have hp2 := put_spec (encs k) l (by omega) (by omega) hln
      have hp3 := put_spec [] (k ++ l) (by simp) (by simp; omega) (fun n h => by
        rcases List.mem_append.1 h with h | h
        · exact hkn n h
        · exact hln n h)
      rw [List.nil_append, encs_append, List.length_append] at hp3
      have la := enc_len a
      have lb := enc_len b
      by_cases hab : a ≤ b
      · have hm := encF_mono 9 a b hab
        have hm : (enc a).length ≤ (enc b).length := hm
        rcases (by omega : a = 0 ∨ 144115188075855872 ≤ a ∨ (0 < a ∧ a < 144115188075855872)) with rfl | h | ⟨h, h'⟩
        · repeat' (first
            | refine IOps_nil ?_
            | refine oS ?_
            | refine IOps_s rfl rfl ?_
            | refine oT ?_
            | refine IOps_s0 rfl ?_
            | refine oC (π := []) (hs := by first | exact awake_spec | fail) (hx := ?_)
            | refine oC (π := []) (hs := by first | exact hp1 | fail) (hx := ?_)
            | refine oC (π := []) (hs := by first | exact hp2 | fail) (hx := ?_)
            | refine oC (π := []) (hs := by first | exact hp3 | fail) (hx := ?_)
            | refine oC (π := []) (hs := by first | exact (size_spec _ (by omega) (by omega)) | fail) (hx := ?_)
            | refine oZ ?_
            | refine oI ?_
            | refine thenI_n ?_
            | refine IWP_seq ?_
            | refine IWP_region ?_
            | refine IWP_ct rfl ?_
            | refine IWP_cf rfl ?_
            | refine IWP_skip ?_
            | refine IWP_ret ?_
            | refine IWP_block ?_
            | refine inB_n ?_
            | refine thenI_r ?_
            | refine thenI_e ?_
            | refine inB_r ?_
            | refine inB_hit ?_
            | refine inB_miss rfl ?_
            | refine IWP_exit ?_
            | refine IWP_scope ?_
            | refine IWP_label ?_
            | refine noG_n ?_
            | refine noG_r ?_
            | refine noG_e ?_
            | refine jmp_n ?_
            | refine jmp_r ?_
            | refine jmp_e ?_
            | refine jmp_g ?_
            | refine thenI_g ?_
            | refine inB_g ?_
            | refine IWP_goto ?_
            | refine Loop_n ?_
            | fail)
          exact pD [] ⟨rfl, rfl⟩
        · repeat' (first
            | refine IOps_nil ?_
            | refine oS ?_
            | refine IOps_s rfl rfl ?_
            | refine oT ?_
            | refine IOps_s0 rfl ?_
            | refine oC (π := []) (hs := by first | exact awake_spec | fail) (hx := ?_)
            | refine oC (π := []) (hs := by first | exact hp1 | fail) (hx := ?_)
            | refine oC (π := []) (hs := by first | exact hp2 | fail) (hx := ?_)
            | refine oC (π := []) (hs := by first | exact hp3 | fail) (hx := ?_)
            | refine oC (π := []) (hs := by first | exact (size_spec _ (by omega) (by omega)) | fail) (hx := ?_)
            | refine oZ ?_
            | refine oI ?_
            | refine thenI_n ?_
            | refine IWP_seq ?_
            | refine IWP_region ?_
            | refine IWP_ct rfl ?_
            | refine IWP_cf rfl ?_
            | refine IWP_skip ?_
            | refine IWP_ret ?_
            | refine IWP_block ?_
            | refine inB_n ?_
            | refine thenI_r ?_
            | refine thenI_e ?_
            | refine inB_r ?_
            | refine inB_hit ?_
            | refine inB_miss rfl ?_
            | refine IWP_exit ?_
            | refine IWP_scope ?_
            | refine IWP_label ?_
            | refine noG_n ?_
            | refine noG_r ?_
            | refine noG_e ?_
            | refine jmp_n ?_
            | refine jmp_r ?_
            | refine jmp_e ?_
            | refine jmp_g ?_
            | refine thenI_g ?_
            | refine inB_g ?_
            | refine IWP_goto ?_
            | refine Loop_n ?_
            | fail)
          exact pD [] ⟨rfl, rfl⟩
        · have he := enc_mul h h'
          repeat' (first
            | refine IOps_nil ?_
            | refine oS ?_
            | refine IOps_s rfl rfl ?_
            | refine oT ?_
            | refine IOps_s0 rfl ?_
            | refine oC (π := []) (hs := by first | exact awake_spec | fail) (hx := ?_)
            | refine oC (π := []) (hs := by first | exact hp1 | fail) (hx := ?_)
            | refine oC (π := []) (hs := by first | exact hp2 | fail) (hx := ?_)
            | refine oC (π := []) (hs := by first | exact hp3 | fail) (hx := ?_)
            | refine oC (π := []) (hs := by first | exact (size_spec _ (by omega) (by omega)) | fail) (hx := ?_)
            | refine oZ ?_
            | refine oI ?_
            | refine thenI_n ?_
            | refine IWP_seq ?_
            | refine IWP_region ?_
            | refine IWP_ct rfl ?_
            | refine IWP_cf rfl ?_
            | refine IWP_skip ?_
            | refine IWP_ret ?_
            | refine IWP_block ?_
            | refine inB_n ?_
            | refine thenI_r ?_
            | refine thenI_e ?_
            | refine inB_r ?_
            | refine inB_hit ?_
            | refine inB_miss rfl ?_
            | refine IWP_exit ?_
            | refine IWP_scope ?_
            | refine IWP_label ?_
            | refine noG_n ?_
            | refine noG_r ?_
            | refine noG_e ?_
            | refine jmp_n ?_
            | refine jmp_r ?_
            | refine jmp_e ?_
            | refine jmp_g ?_
            | refine thenI_g ?_
            | refine inB_g ?_
            | refine IWP_goto ?_
            | refine Loop_n ?_
            | fail)
          exact pD [] ⟨rfl, rfl⟩
      · have hm := encF_mono 9 b a (by omega)
        have hm : (enc b).length ≤ (enc a).length := hm
        rcases (by omega : a = 0 ∨ 144115188075855872 ≤ a ∨ (0 < a ∧ a < 144115188075855872)) with rfl | h | ⟨h, h'⟩
        · omega
        · repeat' (first
            | refine IOps_nil ?_
            | refine oS ?_
            | refine IOps_s rfl rfl ?_
            | refine oT ?_
            | refine IOps_s0 rfl ?_
            | refine oC (π := []) (hs := by first | exact awake_spec | fail) (hx := ?_)
            | refine oC (π := []) (hs := by first | exact hp1 | fail) (hx := ?_)
            | refine oC (π := []) (hs := by first | exact hp2 | fail) (hx := ?_)
            | refine oC (π := []) (hs := by first | exact hp3 | fail) (hx := ?_)
            | refine oC (π := []) (hs := by first | exact (size_spec _ (by omega) (by omega)) | fail) (hx := ?_)
            | refine oZ ?_
            | refine oI ?_
            | refine thenI_n ?_
            | refine IWP_seq ?_
            | refine IWP_region ?_
            | refine IWP_ct rfl ?_
            | refine IWP_cf rfl ?_
            | refine IWP_skip ?_
            | refine IWP_ret ?_
            | refine IWP_block ?_
            | refine inB_n ?_
            | refine thenI_r ?_
            | refine thenI_e ?_
            | refine inB_r ?_
            | refine inB_hit ?_
            | refine inB_miss rfl ?_
            | refine IWP_exit ?_
            | refine IWP_scope ?_
            | refine IWP_label ?_
            | refine noG_n ?_
            | refine noG_r ?_
            | refine noG_e ?_
            | refine jmp_n ?_
            | refine jmp_r ?_
            | refine jmp_e ?_
            | refine jmp_g ?_
            | refine thenI_g ?_
            | refine inB_g ?_
            | refine IWP_goto ?_
            | refine Loop_n ?_
            | fail)
          exact pD [] ⟨rfl, rfl⟩
        · have he := enc_mul h h'
          repeat' (first
            | refine IOps_nil ?_
            | refine oS ?_
            | refine IOps_s rfl rfl ?_
            | refine oT ?_
            | refine IOps_s0 rfl ?_
            | refine oC (π := []) (hs := by first | exact awake_spec | fail) (hx := ?_)
            | refine oC (π := []) (hs := by first | exact hp1 | fail) (hx := ?_)
            | refine oC (π := []) (hs := by first | exact hp2 | fail) (hx := ?_)
            | refine oC (π := []) (hs := by first | exact hp3 | fail) (hx := ?_)
            | refine oC (π := []) (hs := by first | exact (size_spec _ (by omega) (by omega)) | fail) (hx := ?_)
            | refine oZ ?_
            | refine oI ?_
            | refine thenI_n ?_
            | refine IWP_seq ?_
            | refine IWP_region ?_
            | refine IWP_ct rfl ?_
            | refine IWP_cf rfl ?_
            | refine IWP_skip ?_
            | refine IWP_ret ?_
            | refine IWP_block ?_
            | refine inB_n ?_
            | refine thenI_r ?_
            | refine thenI_e ?_
            | refine inB_r ?_
            | refine inB_hit ?_
            | refine inB_miss rfl ?_
            | refine IWP_exit ?_
            | refine IWP_scope ?_
            | refine IWP_label ?_
            | refine noG_n ?_
            | refine noG_r ?_
            | refine noG_e ?_
            | refine jmp_n ?_
            | refine jmp_r ?_
            | refine jmp_e ?_
            | refine jmp_g ?_
            | refine thenI_g ?_
            | refine inB_g ?_
            | refine IWP_goto ?_
            | refine Loop_n ?_
            | fail)
          exact pD [] ⟨rfl, rfl⟩

theorem lists_spec (t : List (List UInt8)) (b : List UInt8) (ht : t.length ≤ 9223372036854775807) (ht2 : ∀ x ∈ t, x.length ≤ 9223372036854775807) (hb : b.length ≤ 9223372036854775807) :
    Idl.Spec Try.prog 8 [.fz false (strs t) t.length, .str b] [] (Only (.sc (.bool true)) []) := by
  have hf := few_spec t 100 ht ht2
  refine sB Try.func8 Try.ntmps8 ?_
  cases hfw : few t 100 with
  | false =>
    rw [hfw] at hf
    repeat' (first
      | refine IOps_nil ?_
      | refine oS ?_
      | refine IOps_s rfl rfl ?_
      | refine oT ?_
      | refine IOps_s0 rfl ?_
      | refine oC (π := []) (hs := by first | exact awake_spec | fail) (hx := ?_)
      | refine oC (π := []) (hs := by first | exact hf | fail) (hx := ?_)
      | refine oZ ?_
      | refine oI ?_
      | refine thenI_n ?_
      | refine IWP_seq ?_
      | refine IWP_region ?_
      | refine IWP_ct rfl ?_
      | refine IWP_cf rfl ?_
      | refine IWP_skip ?_
      | refine IWP_ret ?_
      | refine IWP_block ?_
      | refine inB_n ?_
      | refine thenI_r ?_
      | refine thenI_e ?_
      | refine inB_r ?_
      | refine inB_hit ?_
      | refine inB_miss rfl ?_
      | refine IWP_exit ?_
      | refine IWP_scope ?_
      | refine IWP_label ?_
      | refine noG_n ?_
      | refine noG_r ?_
      | refine noG_e ?_
      | refine jmp_n ?_
      | refine jmp_r ?_
      | refine jmp_e ?_
      | refine jmp_g ?_
      | refine thenI_g ?_
      | refine inB_g ?_
      | refine IWP_goto ?_
      | refine Loop_n ?_
      | refine oD (id := 9) W8_9 [8] O8_9 [_, _, _, _, _, _, _, _, _, _, _, _, _, _, _, _] [_, _] rfl (by repeat' (first | exact trivial | refine And.intro ?_ ?_ | exact bS | exact bX | exact bZ | exact bI | exact bC (π := []) (hs := by first | exact awake_spec | fail) | exact bC (π := []) (hs := by first | exact hf | fail) | fail)) ?_
      | fail)
    exact pD [] ⟨rfl, rfl⟩
  | true =>
    rw [hfw] at hf
    obtain ⟨f1, f2⟩ := few_true hfw
    by_cases hb1 : b.length > 1000
    · repeat' (first
        | refine IOps_nil ?_
        | refine oS ?_
        | refine IOps_s rfl rfl ?_
        | refine oT ?_
        | refine IOps_s0 rfl ?_
        | refine oC (π := []) (hs := by first | exact awake_spec | fail) (hx := ?_)
        | refine oC (π := []) (hs := by first | exact hf | fail) (hx := ?_)
        | refine oZ ?_
        | refine oI ?_
        | refine thenI_n ?_
        | refine IWP_seq ?_
        | refine IWP_region ?_
        | refine IWP_ct rfl ?_
        | refine IWP_cf rfl ?_
        | refine IWP_skip ?_
        | refine IWP_ret ?_
        | refine IWP_block ?_
        | refine inB_n ?_
        | refine thenI_r ?_
        | refine thenI_e ?_
        | refine inB_r ?_
        | refine inB_hit ?_
        | refine inB_miss rfl ?_
        | refine IWP_exit ?_
        | refine IWP_scope ?_
        | refine IWP_label ?_
        | refine noG_n ?_
        | refine noG_r ?_
        | refine noG_e ?_
        | refine jmp_n ?_
        | refine jmp_r ?_
        | refine jmp_e ?_
        | refine jmp_g ?_
        | refine thenI_g ?_
        | refine inB_g ?_
        | refine IWP_goto ?_
        | refine Loop_n ?_
        | refine oD (id := 9) W8_9 [8] O8_9 [_, _, _, _, _, _, _, _, _, _, _, _, _, _, _, _] [_, _] rfl (by repeat' (first | exact trivial | refine And.intro ?_ ?_ | exact bS | exact bX | exact bZ | exact bI | exact bC (π := []) (hs := by first | exact awake_spec | fail) | exact bC (π := []) (hs := by first | exact hf | fail) | fail)) ?_
        | fail)
      exact pD [] ⟨rfl, rfl⟩
    · have hts := texts_spec b t (by omega) (by omega) (fun x hx => by have := f2 x hx; omega)
      have hp := put_spec b [(t.length : Int)] (by omega) (by simp) (fun m hm => by simp at hm; omega)
      rw [show encs [(t.length : Int)] = enc t.length by simp [encs]] at hp
      have hlen := enc_len t.length
      repeat' (first
        | refine IOps_nil ?_
        | refine oS ?_
        | refine IOps_s rfl rfl ?_
        | refine oT ?_
        | refine IOps_s0 rfl ?_
        | refine oC (π := []) (hs := by first | exact awake_spec | fail) (hx := ?_)
        | refine oC (π := []) (hs := by first | exact hf | fail) (hx := ?_)
        | refine oC (π := []) (hs := by first | exact hp | fail) (hx := ?_)
        | refine oZ ?_
        | refine oI ?_
        | refine thenI_n ?_
        | refine IWP_seq ?_
        | refine IWP_region ?_
        | refine IWP_ct rfl ?_
        | refine IWP_cf rfl ?_
        | refine IWP_skip ?_
        | refine IWP_ret ?_
        | refine IWP_block ?_
        | refine inB_n ?_
        | refine thenI_r ?_
        | refine thenI_e ?_
        | refine inB_r ?_
        | refine inB_hit ?_
        | refine inB_miss rfl ?_
        | refine IWP_exit ?_
        | refine IWP_scope ?_
        | refine IWP_label ?_
        | refine noG_n ?_
        | refine noG_r ?_
        | refine noG_e ?_
        | refine jmp_n ?_
        | refine jmp_r ?_
        | refine jmp_e ?_
        | refine jmp_g ?_
        | refine thenI_g ?_
        | refine inB_g ?_
        | refine IWP_goto ?_
        | refine Loop_n ?_
        | refine oD (id := 9) W8_9 [8] O8_9 [_, _, _, _, _, _, _, _, _, _, _, _, _, _, _, _] [_, _] rfl (by repeat' (first | exact trivial | refine And.intro ?_ ?_ | exact bS | exact bX | exact bZ | exact bI | exact bC (π := []) (hs := by first | exact awake_spec | fail) | exact bC (π := []) (hs := by first | exact hf | fail) | exact bC (π := []) (hs := by first | exact hp | fail) | fail)) ?_
        | fail)
      have hel := encL_len f1 f2
      refine IWP_loop (fun i : Nat => ⟨62, [(0, .fz false (strs t) t.length), (1, .str b), (5, .sc (.bool true)), (6, .str (b ++ (enc t.length ++ encTs (t.take i)))), (7, .i64 i)], []⟩) (fun i => i ≤ t.length) (fun i => t.length - i) 0
        (lP [] (h2 := by simp [encTs]; exact ⟨rfl, rfl, rfl, rfl, rfl, trivial⟩)) (Nat.zero_le _) ?_
      intro i hi
      by_cases hil : i < t.length
      · have hg := f2 _ (mem_getD (z := []) hil)
        have hX : b ++ (enc t.length ++ encTs (t.take (i + 1))) = b ++ (enc t.length ++ encTs (t.take i)) ++ encT (t.getD i []) := by rw [encTs_take hil]; simp
        have hln := encTs_len (l := t.take i) fun x h => by have := f2 x (List.mem_of_mem_take h); omega
        simp only [List.length_take] at hln
        have hXl : (b ++ (enc t.length ++ encTs (t.take i))).length ≤ 2000000 := by simp only [List.length_append]; omega
        generalize b ++ (enc t.length ++ encTs (t.take i)) = X at hX hXl
        have he := enc_len (t.getD i []).length
        have hp := put_spec X [((t.getD i []).length : Int)] (by omega) (by simp) (fun m hm => by simp only [List.mem_singleton] at hm; omega)
        rw [show encs [((t.getD i []).length : Int)] = enc (t.getD i []).length by simp [encs]] at hp
        have htx := text_spec X (t.getD i []) (by omega) (by omega)
        unfold encT at htx hX
        repeat' (first
          | refine IOps_nil ?_
          | refine oS ?_
          | refine IOps_s rfl rfl ?_
          | refine oT ?_
          | refine IOps_s0 rfl ?_
          | refine oC (π := []) (hs := by first | exact hp | fail) (hx := ?_)
          | refine oC (π := []) (hs := by first | exact htx | fail) (hx := ?_)
          | refine oZ ?_
          | refine oI ?_
          | refine thenI_n ?_
          | refine IWP_seq ?_
          | refine IWP_region ?_
          | refine IWP_ct rfl ?_
          | refine IWP_cf rfl ?_
          | refine IWP_skip ?_
          | refine IWP_ret ?_
          | refine IWP_block ?_
          | refine inB_n ?_
          | refine thenI_r ?_
          | refine thenI_e ?_
          | refine inB_r ?_
          | refine inB_hit ?_
          | refine inB_miss rfl ?_
          | refine IWP_exit ?_
          | refine IWP_scope ?_
          | refine IWP_label ?_
          | refine noG_n ?_
          | refine noG_r ?_
          | refine noG_e ?_
          | refine jmp_n ?_
          | refine jmp_r ?_
          | refine jmp_e ?_
          | refine jmp_g ?_
          | refine thenI_g ?_
          | refine inB_g ?_
          | refine IWP_goto ?_
          | refine Loop_n ?_
          | refine oD (id := 9) W8_9 [8] O8_9 [_, _, _, _, _, _, _, _, _, _, _, _, _, _, _, _] [_, _] rfl (by repeat' (first | exact trivial | refine And.intro ?_ ?_ | exact bS | exact bX | exact bZ | exact bI | exact bC (π := []) (hs := by first | exact hp | fail) | exact bC (π := []) (hs := by first | exact htx | fail) | fail)) ?_
          | fail)
        exact ⟨i + 1, hil, by omega, lP [] (h2 := by rw [hX]; exact ⟨rfl, rfl, rfl, rfl, rfl, trivial⟩)⟩
      · obtain rfl : i = t.length := by omega
        rw [List.take_of_length_le (Nat.le_refl _)]
        unfold encL at hts
        repeat' (first
          | refine IOps_nil ?_
          | refine oS ?_
          | refine IOps_s rfl rfl ?_
          | refine oT ?_
          | refine IOps_s0 rfl ?_
          | refine oC (π := []) (hs := by first | exact hts | fail) (hx := ?_)
          | refine oZ ?_
          | refine oI ?_
          | refine thenI_n ?_
          | refine IWP_seq ?_
          | refine IWP_region ?_
          | refine IWP_ct rfl ?_
          | refine IWP_cf rfl ?_
          | refine IWP_skip ?_
          | refine IWP_ret ?_
          | refine IWP_block ?_
          | refine inB_n ?_
          | refine thenI_r ?_
          | refine thenI_e ?_
          | refine inB_r ?_
          | refine inB_hit ?_
          | refine inB_miss rfl ?_
          | refine IWP_exit ?_
          | refine IWP_scope ?_
          | refine IWP_label ?_
          | refine noG_n ?_
          | refine noG_r ?_
          | refine noG_e ?_
          | refine jmp_n ?_
          | refine jmp_r ?_
          | refine jmp_e ?_
          | refine jmp_g ?_
          | refine thenI_g ?_
          | refine inB_g ?_
          | refine IWP_goto ?_
          | refine Loop_n ?_
          | refine oD (id := 9) W8_9 [8] O8_9 [_, _, _, _, _, _, _, _, _, _, _, _, _, _, _, _] [_, _] rfl (by repeat' (first | exact trivial | refine And.intro ?_ ?_ | exact bS | exact bX | exact bZ | exact bI | exact bC (π := []) (hs := by first | exact hts | fail) | fail)) ?_
          | fail)
        exact pD [] ⟨rfl, rfl⟩
end Go.Proofs.Ytpmgocnapdhabab
