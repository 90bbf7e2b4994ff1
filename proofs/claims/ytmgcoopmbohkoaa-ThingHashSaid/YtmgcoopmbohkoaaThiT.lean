/-
  Things: tags that are told are told of themselves.
-/
import Derived.Test.YtmgcoopmbohkoaaThiL
namespace Go.Proofs.Ytmgcoopmbohkoaa
open Go Go.Idl
set_option linter.unusedSimpArgs false
set_option linter.unusedVariables false
set_option maxRecDepth 100000
set_option maxHeartbeats 8000000
def turnK (l : List Ks) (f i : Nat) : List Ks := (List.range i).map fun j => l.getD ((j + f) % l.length) []
theorem turnK_succ (l : List Ks) (f i : Nat) : turnK l f (i + 1) = turnK l f i ++ [l.getD ((i + f) % l.length) []] := by simp [turnK, List.range_succ]
theorem turnK_len (l : List Ks) (f i : Nat) : (turnK l f i).length = i := by simp [turnK]
theorem turnK_mem (l : List Ks) (f : Nat) (x : Ks) : x ∈ turnK l f l.length ↔ x ∈ l := by
  unfold turnK
  rw [List.mem_map]
  constructor
  · rintro ⟨j, hj, rfl⟩
    rw [List.mem_range] at hj
    exact getD_mem (Nat.mod_lt _ (by omega))
  · intro hx
    obtain ⟨m, hm, rfl⟩ := mem_getD [] hx
    have hn : 0 < l.length := by omega
    have hr : f % l.length < l.length := Nat.mod_lt _ hn
    refine ⟨(m + (l.length - f % l.length)) % l.length, List.mem_range.2 (Nat.mod_lt _ hn), ?_⟩
    congr 1
    rw [Nat.mod_add_mod]
    have e : (m + (l.length - f % l.length) + f) = m + l.length * (1 + f / l.length) := by
      have := Nat.div_add_mod f l.length
      rw [Nat.mul_add, Nat.mul_one]; omega
    rw [e, Nat.add_mul_mod_self_left, Nat.mod_eq_of_lt hm]
theorem rot_cast (i f n : Nat) : ((i : Int) + (f : Int)) % (n : Int) = (((i + f) % n : Nat) : Int) := by simp
attribute [local irreducible] Go.Idl.IWP Go.Idl.IOps Go.Idl.Obl Go.Idl.OpG Go.Idl.thenI Go.Idl.inBlockI Go.Idl.LoopU Go.Idl.noGotoI Go.Idl.jumpI
attribute [local go_sem] List.length_set bl_of bl_no List.drop_length Nat.sub_self rot_cast
theorem ltags_law (l : List Ks) (f : UInt8) (hL : l.length ≤ 9223372036854775807) : Idl.Spec Try.prog 4 [.fz false (strs l) l.length, .sc (.int .u8 f.toNat)] [] (Only (.sc (.bool true)) []) := by
  have hfs := kfew_spec l 100 hL
  by_cases hf : fewK l 100
  · rw [decide_eq_true hf] at hfs
    obtain ⟨f1, f2⟩ := hf
    have hfl := f.toNat_lt
    have s1 := tags_spec l (by omega) (fun t ht => by have := f1 t ht; omega)
    have s2 := tags_spec (tagsV l).1 (by unfold tagsV; split <;> (try rw [(srtK_perm _).length_eq]) <;> (try have := dd_len l) <;> simp <;> omega) (fun t ht => by
      have : t ∈ l := by
        unfold tagsV at ht
        split at ht
        · exact srtd_mem.1 ht
        · cases ht
      have := f1 t this; omega)
    have s3 := tags_spec (turnK l f.toNat l.length) (by rw [turnK_len]; omega) (fun t ht => by have := f1 t ((turnK_mem _ _ _).1 ht); omega)
    rw [tagsV_congr (turnK_mem l f.toNat), turnK_len] at s3
    have hle : (tagsV (tagsV l).1).1.length ≤ 3 := by
      generalize (tagsV l).1 = m
      unfold tagsV
      split
      · next h => rw [(srtK_perm _).length_eq]; exact h.2
      · simp
    by_cases hok : tagsOk l
    · have h3 := hok.2
      have hM3 : (srtK (dd l)).length ≤ 3 := by rw [(srtK_perm _).length_eq]; exact h3
      have hsm := ssame_spec (srtK (dd l)) (srtK (dd l)) (by omega)
      rw [decide_eq_true (rfl : srtK (dd l) = srtK (dd l))] at hsm
      rw [tagsV_ok hok] at s1 s2 s3 hle
      simp only at s2
      rw [srtd_again hok] at s2
      have hMs := srtK_srt (dd l)
      have hMn := srtd_nodup l
      have hMm : ∀ x, x ∈ srtK (dd l) ↔ x ∈ l := fun x => srtd_mem
      simp only at s1 s2 s3 hle
      generalize srtK (dd l) = M at s1 s2 s3 hM3 hsm hMs hMn hMm
      refine sB Try.func4 Try.ntmps4 ?_
      repeat' (first
        | refine IOps_nil ?_
        | refine oS ?_
        | refine IOps_s rfl rfl ?_
        | refine oT ?_
        | refine IOps_s0 rfl ?_
        | refine oC (π := []) (hs := by first | exact thing_awake | fail) (hx := ?_)
        | refine oC (π := []) (hs := by first | exact hfs | fail) (hx := ?_)
        | refine oC (π := []) (hs := by first | exact s1 | fail) (hx := ?_)
        | refine oC (π := []) (hs := by first | exact s2 | fail) (hx := ?_)
        | refine oZ ?_
        | refine oI ?_
        | refine thenI_n ?_
        | refine IWP_seq ?_
        | refine IWP_region ?_
        | refine IWP_ct rfl ?_
        | refine IWP_cf rfl ?_
        | refine IWP_skip ?_
        | refine IWP_ret ?_
        | refine IWP_block ?_
        | refine inB_n ?_
        | refine thenI_r ?_
        | refine thenI_e ?_
        | refine inB_r ?_
        | refine inB_hit ?_
        | refine inB_miss rfl ?_
        | refine IWP_exit ?_
        | refine IWP_scope ?_
        | refine IWP_label ?_
        | refine noG_n ?_
        | refine noG_r ?_
        | refine noG_e ?_
        | refine jmp_n ?_
        | refine jmp_r ?_
        | refine jmp_e ?_
        | refine jmp_g ?_
        | refine thenI_g ?_
        | refine inB_g ?_
        | refine IWP_goto ?_
        | refine Loop_n ?_
        | refine oD (id := 17) W4_17 [] O4_17 [_, _, _, _, _, _, _, _, _, _, _, _, _, _, _, _, _, _, _, _, _, _, _, _, _, _, _, _, _, _, _, _, _, _, _, _, _, _, _] [_] rfl (by repeat' (first | exact trivial | refine And.intro ?_ ?_ | exact bS | exact bX | exact bZ | exact bI | exact bC (π := []) (hs := by first | exact thing_awake | fail) | exact bC (π := []) (hs := by first | exact hfs | fail) | exact bC (π := []) (hs := by first | exact s1 | fail) | exact bC (π := []) (hs := by first | exact s2 | fail) | fail)) ?_
        | fail)
      refine wV 10 1 ?_
      refine IWP_loop (fun i : Nat => ⟨159, [(0, .fz false (strs l) l.length), (1, .sc (.int .u8 f.toNat)), (4, .sc (.bool false)), (5, .sc (.bool true)), (6, .fz true (strs M) M.length), (7, .i64 0), (8, .fz true (strs M) M.length), (9, .i64 0), (10, .sl 0 0 i i 1), (11, .i64 i)], [.arr true (strs (turnK l f.toNat i))]⟩)
        (fun i => i ≤ l.length) (fun i => l.length - i) 0 (lP [0]) (Nat.zero_le _) ?_
      rintro i hi
      have htl := turnK_len l f.toNat i
      by_cases h : i < l.length
      · have hmod : (i + f.toNat) % l.length < l.length := Nat.mod_lt _ (by omega)
        have hts := turnK_succ l f.toNat i
        repeat' (first
          | refine IOps_nil ?_
          | refine oS ?_
          | refine IOps_s rfl rfl ?_
          | refine oT ?_
          | refine IOps_s0 rfl ?_
          | refine oZ ?_
          | refine oI ?_
          | refine thenI_n ?_
          | refine IWP_seq ?_
          | refine IWP_region ?_
          | refine IWP_ct rfl ?_
          | refine IWP_cf rfl ?_
          | refine IWP_skip ?_
          | refine IWP_ret ?_
          | refine IWP_block ?_
          | refine inB_n ?_
          | refine thenI_r ?_
          | refine thenI_e ?_
          | refine inB_r ?_
          | refine inB_hit ?_
          | refine inB_miss rfl ?_
          | refine IWP_exit ?_
          | refine IWP_scope ?_
          | refine IWP_label ?_
          | refine noG_n ?_
          | refine noG_r ?_
          | refine noG_e ?_
          | refine jmp_n ?_
          | refine jmp_r ?_
          | refine jmp_e ?_
          | refine jmp_g ?_
          | refine thenI_g ?_
          | refine inB_g ?_
          | refine IWP_goto ?_
          | refine Loop_n ?_
          | refine oD (id := 17) W4_17 [] O4_17 [_, _, _, _, _, _, _, _, _, _, _, _, _, _, _, _, _, _, _, _, _, _, _, _, _, _, _, _, _, _, _, _, _, _, _, _, _, _, _] [_] rfl (by repeat' (first | exact trivial | refine And.intro ?_ ?_ | exact bS | exact bX | exact bZ | exact bI | fail)) ?_
          | fail)
        exact ⟨i + 1, h, by omega, lP [2] (h3 := by show [HO.arr true (cl strV (turnK l f.toNat i ++ [l.getD ((i + f.toNat) % l.length) []]))] = _; rw [← hts])⟩
      · obtain rfl : i = l.length := by omega
        repeat' (first
          | refine IOps_nil ?_
          | refine oS ?_
          | refine IOps_s rfl rfl ?_
          | refine oT ?_
          | refine IOps_s0 rfl ?_
          | refine oC (π := []) (hs := by first | exact s3 | fail) (hx := ?_)
          | refine oZ ?_
          | refine oI ?_
          | refine thenI_n ?_
          | refine IWP_seq ?_
          | refine IWP_region ?_
          | refine IWP_ct rfl ?_
          | refine IWP_cf rfl ?_
          | refine IWP_skip ?_
          | refine IWP_ret ?_
          | refine IWP_block ?_
          | refine inB_n ?_
          | refine thenI_r ?_
          | refine thenI_e ?_
          | refine inB_r ?_
          | refine inB_hit ?_
          | refine inB_miss rfl ?_
          | refine IWP_exit ?_
          | refine IWP_scope ?_
          | refine IWP_label ?_
          | refine noG_n ?_
          | refine noG_r ?_
          | refine noG_e ?_
          | refine jmp_n ?_
          | refine jmp_r ?_
          | refine jmp_e ?_
          | refine jmp_g ?_
          | refine thenI_g ?_
          | refine inB_g ?_
          | refine IWP_goto ?_
          | refine Loop_n ?_
          | refine oD (id := 17) W4_17 [] O4_17 [_, _, _, _, _, _, _, _, _, _, _, _, _, _, _, _, _, _, _, _, _, _, _, _, _, _, _, _, _, _, _, _, _, _, _, _, _, _, _] [_] rfl (by repeat' (first | exact trivial | refine And.intro ?_ ?_ | exact bS | exact bX | exact bZ | exact bI | exact bC (π := []) (hs := by first | exact s3 | fail) | fail)) ?_
          | fail)
        refine IWP_loop (fun q : Nat => ⟨159, [(0, .fz false (strs l) l.length), (4, .sc (.bool false)), (5, .sc (.bool true)), (6, .fz true (strs M) M.length), (8, .fz true (strs M) M.length), (9, .i64 0), (12, .fz true (strs M) M.length), (13, .i64 0), (14, .i64 q)], []⟩)
          (fun q => q ≤ M.length) (fun q => M.length - q) 0 (lP []) (Nat.zero_le _) ?_
        rintro q hq
        by_cases h2 : q < M.length
        · have hm := (hMm _).1 (getD_mem (d := []) h2)
          have ht := hok.1 _ hm
          have ht1 := ht.1; have ht2 := ht.2
          have hks := khas_spec l (M.getD q []) (by omega)
          rw [decide_eq_true hm] at hks
          by_cases hq0 : 0 < q
          · have hlt := srt_lt hMs hMn (i := q - 1) (by omega)
            rw [show q - 1 + 1 = q by omega] at hlt
            repeat' (first
              | refine IOps_nil ?_
              | refine oS ?_
              | refine IOps_s rfl rfl ?_
              | refine oT ?_
              | refine IOps_s0 rfl ?_
              | refine oC (π := []) (hs := by first | exact hks | fail) (hx := ?_)
              | refine oZ ?_
              | refine oI ?_
              | refine thenI_n ?_
              | refine IWP_seq ?_
              | refine IWP_region ?_
              | refine IWP_ct rfl ?_
              | refine IWP_cf rfl ?_
              | refine IWP_skip ?_
              | refine IWP_ret ?_
              | refine IWP_block ?_
              | refine inB_n ?_
              | refine thenI_r ?_
              | refine thenI_e ?_
              | refine inB_r ?_
              | refine inB_hit ?_
              | refine inB_miss rfl ?_
              | refine IWP_exit ?_
              | refine IWP_scope ?_
              | refine IWP_label ?_
              | refine noG_n ?_
              | refine noG_r ?_
              | refine noG_e ?_
              | refine jmp_n ?_
              | refine jmp_r ?_
              | refine jmp_e ?_
              | refine jmp_g ?_
              | refine thenI_g ?_
              | refine inB_g ?_
              | refine IWP_goto ?_
              | refine Loop_n ?_
              | refine oD (id := 17) W4_17 [] O4_17 [_, _, _, _, _, _, _, _, _, _, _, _, _, _, _, _, _, _, _, _, _, _, _, _, _, _, _, _, _, _, _, _, _, _, _, _, _, _, _] [_] rfl (by repeat' (first | exact trivial | refine And.intro ?_ ?_ | exact bS | exact bX | exact bZ | exact bI | exact bC (π := []) (hs := by first | exact hks | fail) | fail)) ?_
              | fail)
            exact ⟨q + 1, h2, by omega, lP []⟩
          · repeat' (first
              | refine IOps_nil ?_
              | refine oS ?_
              | refine IOps_s rfl rfl ?_
              | refine oT ?_
              | refine IOps_s0 rfl ?_
              | refine oC (π := []) (hs := by first | exact hks | fail) (hx := ?_)
              | refine oZ ?_
              | refine oI ?_
              | refine thenI_n ?_
              | refine IWP_seq ?_
              | refine IWP_region ?_
              | refine IWP_ct rfl ?_
              | refine IWP_cf rfl ?_
              | refine IWP_skip ?_
              | refine IWP_ret ?_
              | refine IWP_block ?_
              | refine inB_n ?_
              | refine thenI_r ?_
              | refine thenI_e ?_
              | refine inB_r ?_
              | refine inB_hit ?_
              | refine inB_miss rfl ?_
              | refine IWP_exit ?_
              | refine IWP_scope ?_
              | refine IWP_label ?_
              | refine noG_n ?_
              | refine noG_r ?_
              | refine noG_e ?_
              | refine jmp_n ?_
              | refine jmp_r ?_
              | refine jmp_e ?_
              | refine jmp_g ?_
              | refine thenI_g ?_
              | refine inB_g ?_
              | refine IWP_goto ?_
              | refine Loop_n ?_
              | refine oD (id := 17) W4_17 [] O4_17 [_, _, _, _, _, _, _, _, _, _, _, _, _, _, _, _, _, _, _, _, _, _, _, _, _, _, _, _, _, _, _, _, _, _, _, _, _, _, _] [_] rfl (by repeat' (first | exact trivial | refine And.intro ?_ ?_ | exact bS | exact bX | exact bZ | exact bI | exact bC (π := []) (hs := by first | exact hks | fail) | fail)) ?_
              | fail)
            exact ⟨q + 1, h2, by omega, lP []⟩
        · obtain rfl : q = M.length := by omega
          repeat' (first
            | refine IOps_nil ?_
            | refine oS ?_
            | refine IOps_s rfl rfl ?_
            | refine oT ?_
            | refine IOps_s0 rfl ?_
            | refine oZ ?_
            | refine oI ?_
            | refine thenI_n ?_
            | refine IWP_seq ?_
            | refine IWP_region ?_
            | refine IWP_ct rfl ?_
            | refine IWP_cf rfl ?_
            | refine IWP_skip ?_
            | refine IWP_ret ?_
            | refine IWP_block ?_
            | refine inB_n ?_
            | refine thenI_r ?_
            | refine thenI_e ?_
            | refine inB_r ?_
            | refine inB_hit ?_
            | refine inB_miss rfl ?_
            | refine IWP_exit ?_
            | refine IWP_scope ?_
            | refine IWP_label ?_
            | refine noG_n ?_
            | refine noG_r ?_
            | refine noG_e ?_
            | refine jmp_n ?_
            | refine jmp_r ?_
            | refine jmp_e ?_
            | refine jmp_g ?_
            | refine thenI_g ?_
            | refine inB_g ?_
            | refine IWP_goto ?_
            | refine Loop_n ?_
            | refine oD (id := 17) W4_17 [] O4_17 [_, _, _, _, _, _, _, _, _, _, _, _, _, _, _, _, _, _, _, _, _, _, _, _, _, _, _, _, _, _, _, _, _, _, _, _, _, _, _] [_] rfl (by repeat' (first | exact trivial | refine And.intro ?_ ?_ | exact bS | exact bX | exact bZ | exact bI | fail)) ?_
            | fail)
          refine IWP_loop (fun r : Nat => ⟨159, [(0, .fz false (strs l) l.length), (4, .sc (.bool false)), (5, .sc (.bool true)), (6, .fz true (strs M) M.length), (8, .fz true (strs M) M.length), (9, .i64 0), (12, .fz true (strs M) M.length), (13, .i64 0), (15, .i64 r)], []⟩)
            (fun r => r ≤ l.length) (fun r => l.length - r) 0 (lP []) (Nat.zero_le _) ?_
          rintro r hr
          by_cases h3' : r < l.length
          · have hks := khas_spec M (l.getD r []) (by omega)
            rw [decide_eq_true ((hMm _).2 (getD_mem (d := []) h3'))] at hks
            repeat' (first
              | refine IOps_nil ?_
              | refine oS ?_
              | refine IOps_s rfl rfl ?_
              | refine oT ?_
              | refine IOps_s0 rfl ?_
              | refine oC (π := []) (hs := by first | exact hks | fail) (hx := ?_)
              | refine oZ ?_
              | refine oI ?_
              | refine thenI_n ?_
              | refine IWP_seq ?_
              | refine IWP_region ?_
              | refine IWP_ct rfl ?_
              | refine IWP_cf rfl ?_
              | refine IWP_skip ?_
              | refine IWP_ret ?_
              | refine IWP_block ?_
              | refine inB_n ?_
              | refine thenI_r ?_
              | refine thenI_e ?_
              | refine inB_r ?_
              | refine inB_hit ?_
              | refine inB_miss rfl ?_
              | refine IWP_exit ?_
              | refine IWP_scope ?_
              | refine IWP_label ?_
              | refine noG_n ?_
              | refine noG_r ?_
              | refine noG_e ?_
              | refine jmp_n ?_
              | refine jmp_r ?_
              | refine jmp_e ?_
              | refine jmp_g ?_
              | refine thenI_g ?_
              | refine inB_g ?_
              | refine IWP_goto ?_
              | refine Loop_n ?_
              | refine oD (id := 17) W4_17 [] O4_17 [_, _, _, _, _, _, _, _, _, _, _, _, _, _, _, _, _, _, _, _, _, _, _, _, _, _, _, _, _, _, _, _, _, _, _, _, _, _, _] [_] rfl (by repeat' (first | exact trivial | refine And.intro ?_ ?_ | exact bS | exact bX | exact bZ | exact bI | exact bC (π := []) (hs := by first | exact hks | fail) | fail)) ?_
              | fail)
            exact ⟨r + 1, h3', by omega, lP []⟩
          · repeat' (first
              | refine IOps_nil ?_
              | refine oS ?_
              | refine IOps_s rfl rfl ?_
              | refine oT ?_
              | refine IOps_s0 rfl ?_
              | refine oC (π := []) (hs := by first | exact hsm | fail) (hx := ?_)
              | refine oZ ?_
              | refine oI ?_
              | refine thenI_n ?_
              | refine IWP_seq ?_
              | refine IWP_region ?_
              | refine IWP_ct rfl ?_
              | refine IWP_cf rfl ?_
              | refine IWP_skip ?_
              | refine IWP_ret ?_
              | refine IWP_block ?_
              | refine inB_n ?_
              | refine thenI_r ?_
              | refine thenI_e ?_
              | refine inB_r ?_
              | refine inB_hit ?_
              | refine inB_miss rfl ?_
              | refine IWP_exit ?_
              | refine IWP_scope ?_
              | refine IWP_label ?_
              | refine noG_n ?_
              | refine noG_r ?_
              | refine noG_e ?_
              | refine jmp_n ?_
              | refine jmp_r ?_
              | refine jmp_e ?_
              | refine jmp_g ?_
              | refine thenI_g ?_
              | refine inB_g ?_
              | refine IWP_goto ?_
              | refine Loop_n ?_
              | refine oD (id := 17) W4_17 [] O4_17 [_, _, _, _, _, _, _, _, _, _, _, _, _, _, _, _, _, _, _, _, _, _, _, _, _, _, _, _, _, _, _, _, _, _, _, _, _, _, _] [_] rfl (by repeat' (first | exact trivial | refine And.intro ?_ ?_ | exact bS | exact bX | exact bZ | exact bI | exact bC (π := []) (hs := by first | exact hsm | fail) | fail)) ?_
              | fail)
            exact pD [] ⟨rfl, rfl⟩
    · rw [tagsV_no hok] at s1 s2 s3 hle
      simp only at s1 s2 s3 hle
      generalize tagsV [] = r2 at s2 hle
      obtain ⟨M, e⟩ := r2
      simp only at s2 hle
      refine sB Try.func4 Try.ntmps4 ?_
      repeat' (first
        | refine IOps_nil ?_
        | refine oS ?_
        | refine IOps_s rfl rfl ?_
        | refine oT ?_
        | refine IOps_s0 rfl ?_
        | refine oC (π := []) (hs := by first | exact thing_awake | fail) (hx := ?_)
        | refine oC (π := []) (hs := by first | exact hfs | fail) (hx := ?_)
        | refine oC (π := []) (hs := by first | exact s1 | fail) (hx := ?_)
        | refine oC (π := []) (hs := by first | exact s2 | fail) (hx := ?_)
        | refine oZ ?_
        | refine oI ?_
        | refine thenI_n ?_
        | refine IWP_seq ?_
        | refine IWP_region ?_
        | refine IWP_ct rfl ?_
        | refine IWP_cf rfl ?_
        | refine IWP_skip ?_
        | refine IWP_ret ?_
        | refine IWP_block ?_
        | refine inB_n ?_
        | refine thenI_r ?_
        | refine thenI_e ?_
        | refine inB_r ?_
        | refine inB_hit ?_
        | refine inB_miss rfl ?_
        | refine IWP_exit ?_
        | refine IWP_scope ?_
        | refine IWP_label ?_
        | refine noG_n ?_
        | refine noG_r ?_
        | refine noG_e ?_
        | refine jmp_n ?_
        | refine jmp_r ?_
        | refine jmp_e ?_
        | refine jmp_g ?_
        | refine thenI_g ?_
        | refine inB_g ?_
        | refine IWP_goto ?_
        | refine Loop_n ?_
        | refine oD (id := 17) W4_17 [] O4_17 [_, _, _, _, _, _, _, _, _, _, _, _, _, _, _, _, _, _, _, _, _, _, _, _, _, _, _, _, _, _, _, _, _, _, _, _, _, _, _] [_] rfl (by repeat' (first | exact trivial | refine And.intro ?_ ?_ | exact bS | exact bX | exact bZ | exact bI | exact bC (π := []) (hs := by first | exact thing_awake | fail) | exact bC (π := []) (hs := by first | exact hfs | fail) | exact bC (π := []) (hs := by first | exact s1 | fail) | exact bC (π := []) (hs := by first | exact s2 | fail) | fail)) ?_
        | fail)
      refine wV 10 1 ?_
      refine IWP_loop (fun i : Nat => ⟨159, [(0, .fz false (strs l) l.length), (1, .sc (.int .u8 f.toNat)), (4, .sc (.bool false)), (5, .sc (.bool true)), (6, .fz true (strs []) 0), (7, .i64 90), (10, .sl 0 0 i i 1), (11, .i64 i)], [.arr true (strs (turnK l f.toNat i))]⟩)
        (fun i => i ≤ l.length) (fun i => l.length - i) 0 (lP [0]) (Nat.zero_le _) ?_
      rintro i hi
      have htl := turnK_len l f.toNat i
      by_cases h : i < l.length
      · have hmod : (i + f.toNat) % l.length < l.length := Nat.mod_lt _ (by omega)
        have hts := turnK_succ l f.toNat i
        repeat' (first
          | refine IOps_nil ?_
          | refine oS ?_
          | refine IOps_s rfl rfl ?_
          | refine oT ?_
          | refine IOps_s0 rfl ?_
          | refine oZ ?_
          | refine oI ?_
          | refine thenI_n ?_
          | refine IWP_seq ?_
          | refine IWP_region ?_
          | refine IWP_ct rfl ?_
          | refine IWP_cf rfl ?_
          | refine IWP_skip ?_
          | refine IWP_ret ?_
          | refine IWP_block ?_
          | refine inB_n ?_
          | refine thenI_r ?_
          | refine thenI_e ?_
          | refine inB_r ?_
          | refine inB_hit ?_
          | refine inB_miss rfl ?_
          | refine IWP_exit ?_
          | refine IWP_scope ?_
          | refine IWP_label ?_
          | refine noG_n ?_
          | refine noG_r ?_
          | refine noG_e ?_
          | refine jmp_n ?_
          | refine jmp_r ?_
          | refine jmp_e ?_
          | refine jmp_g ?_
          | refine thenI_g ?_
          | refine inB_g ?_
          | refine IWP_goto ?_
          | refine Loop_n ?_
          | refine oD (id := 17) W4_17 [] O4_17 [_, _, _, _, _, _, _, _, _, _, _, _, _, _, _, _, _, _, _, _, _, _, _, _, _, _, _, _, _, _, _, _, _, _, _, _, _, _, _] [_] rfl (by repeat' (first | exact trivial | refine And.intro ?_ ?_ | exact bS | exact bX | exact bZ | exact bI | fail)) ?_
          | fail)
        exact ⟨i + 1, h, by omega, lP [2] (h3 := by show [HO.arr true (cl strV (turnK l f.toNat i ++ [l.getD ((i + f.toNat) % l.length) []]))] = _; rw [← hts])⟩
      · obtain rfl : i = l.length := by omega
        repeat' (first
          | refine IOps_nil ?_
          | refine oS ?_
          | refine IOps_s rfl rfl ?_
          | refine oT ?_
          | refine IOps_s0 rfl ?_
          | refine oC (π := []) (hs := by first | exact s3 | fail) (hx := ?_)
          | refine oZ ?_
          | refine oI ?_
          | refine thenI_n ?_
          | refine IWP_seq ?_
          | refine IWP_region ?_
          | refine IWP_ct rfl ?_
          | refine IWP_cf rfl ?_
          | refine IWP_skip ?_
          | refine IWP_ret ?_
          | refine IWP_block ?_
          | refine inB_n ?_
          | refine thenI_r ?_
          | refine thenI_e ?_
          | refine inB_r ?_
          | refine inB_hit ?_
          | refine inB_miss rfl ?_
          | refine IWP_exit ?_
          | refine IWP_scope ?_
          | refine IWP_label ?_
          | refine noG_n ?_
          | refine noG_r ?_
          | refine noG_e ?_
          | refine jmp_n ?_
          | refine jmp_r ?_
          | refine jmp_e ?_
          | refine jmp_g ?_
          | refine thenI_g ?_
          | refine inB_g ?_
          | refine IWP_goto ?_
          | refine Loop_n ?_
          | refine oD (id := 17) W4_17 [] O4_17 [_, _, _, _, _, _, _, _, _, _, _, _, _, _, _, _, _, _, _, _, _, _, _, _, _, _, _, _, _, _, _, _, _, _, _, _, _, _, _] [_] rfl (by repeat' (first | exact trivial | refine And.intro ?_ ?_ | exact bS | exact bX | exact bZ | exact bI | exact bC (π := []) (hs := by first | exact s3 | fail) | fail)) ?_
          | fail)
        exact pD [] ⟨rfl, rfl⟩
  · rw [decide_eq_false hf] at hfs
    refine sB Try.func4 Try.ntmps4 ?_
    repeat' (first
      | refine IOps_nil ?_
      | refine oS ?_
      | refine IOps_s rfl rfl ?_
      | refine oT ?_
      | refine IOps_s0 rfl ?_
      | refine oC (π := []) (hs := by first | exact thing_awake | fail) (hx := ?_)
      | refine oC (π := []) (hs := by first | exact hfs | fail) (hx := ?_)
      | refine oZ ?_
      | refine oI ?_
      | refine thenI_n ?_
      | refine IWP_seq ?_
      | refine IWP_region ?_
      | refine IWP_ct rfl ?_
      | refine IWP_cf rfl ?_
      | refine IWP_skip ?_
      | refine IWP_ret ?_
      | refine IWP_block ?_
      | refine inB_n ?_
      | refine thenI_r ?_
      | refine thenI_e ?_
      | refine inB_r ?_
      | refine inB_hit ?_
      | refine inB_miss rfl ?_
      | refine IWP_exit ?_
      | refine IWP_scope ?_
      | refine IWP_label ?_
      | refine noG_n ?_
      | refine noG_r ?_
      | refine noG_e ?_
      | refine jmp_n ?_
      | refine jmp_r ?_
      | refine jmp_e ?_
      | refine jmp_g ?_
      | refine thenI_g ?_
      | refine inB_g ?_
      | refine IWP_goto ?_
      | refine Loop_n ?_
      | refine oD (id := 17) W4_17 [] O4_17 [_, _, _, _, _, _, _, _, _, _, _, _, _, _, _, _, _, _, _, _, _, _, _, _, _, _, _, _, _, _, _, _, _, _, _, _, _, _, _] [_] rfl (by repeat' (first | exact trivial | refine And.intro ?_ ?_ | exact bS | exact bX | exact bZ | exact bI | exact bC (π := []) (hs := by first | exact thing_awake | fail) | exact bC (π := []) (hs := by first | exact hfs | fail) | fail)) ?_
      | fail)
    exact pD [] ⟨rfl, rfl⟩
end Go.Proofs.Ytmgcoopmbohkoaa
