/-
  the laws of the layer heap.
-/
import Derived.Test.YtnlelckfhlcbgaaHeaI
namespace Go.Proofs.Ytnlelckfhlcbgaa
open Go Go.Idl
set_option linter.unusedSimpArgs false
set_option linter.unusedVariables false
set_option maxRecDepth 100000
set_option maxHeartbeats 1000000
attribute [local irreducible] Go.Idl.IWP Go.Idl.IOps Go.Idl.Obl Go.Idl.OpG Go.Idl.thenI Go.Idl.inBlockI Go.Idl.LoopU Go.Idl.noGotoI Go.Idl.jumpI
attribute [local go_sem] List.length_set
attribute [local go_sem] splice
theorem minV_least {M : List It} (hc : chk M = true) {x : It} (hx : x ∈ M) (h : ∀ y, y ∈ M → lessI y x = false) : minV M = (x, true) := by
  cases e : srtI M with
  | nil => rw [(srt_perm M).symm.mem_iff, e] at hx; cases hx
  | cons z t =>
    rw [minV_srt hc e]
    have hs := srt_srt M
    rw [e] at hs
    have hzM : z ∈ M := (srt_perm M).mem_iff.1 (by rw [e]; simp)
    have hxz : x ∈ z :: t := by rw [← e]; exact (srt_perm M).mem_iff.2 hx
    rcases List.mem_cons.1 hxz with rfl | hxz
    · rfl
    · rw [lessI_tot (h z hzM) ((List.pairwise_cons.1 hs).1 x hxz)]
theorem first_law (h : List It) (x : It) (hL : h.length ≤ 9223372036854775807) : Idl.Spec Try.prog 8 [.fz false (items h) h.length, .agg [.sc (.int .i64 x.id), .sc (.int .u64 x.pri), .sc (.int .u64 x.seq)]] [] (Only (.sc (.bool true)) []) := by
  by_cases h100 : h.length ≤ 100
  · have hcs := check_spec h (by omega)
    cases hc : chk h
    · rw [hc] at hcs
      refine sB Try.func8 Try.ntmps8 ?_
      repeat' (first
        | refine IOps_nil ?_
        | refine oS ?_
        | refine IOps_s rfl rfl ?_
        | refine oT ?_
        | refine IOps_s0 rfl ?_
        | refine oC (π := []) (hs := by first | exact awake_spec | fail) (hx := ?_)
        | refine oC (π := []) (hs := by first | exact hcs | fail) (hx := ?_)
        | refine oZ ?_
        | refine oI ?_
        | refine thenI_n ?_
        | refine IWP_seq ?_
        | refine IWP_region ?_
        | refine IWP_ct rfl ?_
        | refine IWP_cf rfl ?_
        | refine IWP_skip ?_
        | refine IWP_ret ?_
        | refine IWP_block ?_
        | refine inB_n ?_
        | refine thenI_r ?_
        | refine thenI_e ?_
        | refine inB_r ?_
        | refine inB_hit ?_
        | refine inB_miss rfl ?_
        | refine IWP_exit ?_
        | refine IWP_scope ?_
        | refine IWP_label ?_
        | refine noG_n ?_
        | refine noG_r ?_
        | refine noG_e ?_
        | refine jmp_n ?_
        | refine jmp_r ?_
        | refine jmp_e ?_
        | refine jmp_g ?_
        | refine thenI_g ?_
        | refine inB_g ?_
        | refine IWP_goto ?_
        | refine Loop_n ?_
        | refine oD (id := 9) W8_9 [] O8_9 [_, _, _, _, _, _] [_] rfl (by repeat' (first | exact trivial | refine And.intro ?_ ?_ | exact bS | exact bX | exact bZ | exact bI | exact bC (π := []) (hs := by first | exact awake_spec | fail) | exact bC (π := []) (hs := by first | exact hcs | fail) | fail)) ?_
        | refine oD (id := 11) W8_11 [] O8_11 [_, _, _, _, _, _, _, _, _, _, _, _, _, _, _, _, _, _, _, _] [_] rfl (by repeat' (first | exact trivial | refine And.intro ?_ ?_ | exact bS | exact bX | exact bZ | exact bI | exact bC (π := []) (hs := by first | exact awake_spec | fail) | exact bC (π := []) (hs := by first | exact hcs | fail) | fail)) ?_
        | fail)
      exact pD [] ⟨rfl, rfl⟩
    · rw [hc] at hcs
      have hms := min_spec h (by omega)
      obtain ⟨hd, hH⟩ := (chk_iff h).1 hc
      obtain ⟨m, sm, hmv, hsm, hle⟩ : ∃ m sm, minV h = (m, sm) ∧ sm = decide (0 < h.length) ∧ ∀ i, i < h.length → lessI (gd h i) m = false := by
        by_cases h0 : 0 < h.length
        · exact ⟨gd h 0, true, if_pos ⟨h0, hc⟩, (decide_eq_true h0).symm, gd0_least hH⟩
        · exact ⟨default, false, if_neg fun h => h0 h.1, (decide_eq_false h0).symm, fun i hi => by omega⟩
      rw [hmv] at hms
      refine sB Try.func8 Try.ntmps8 ?_
      repeat' (first
        | refine IOps_nil ?_
        | refine oS ?_
        | refine IOps_s rfl rfl ?_
        | refine oT ?_
        | refine IOps_s0 rfl ?_
        | refine oC (π := []) (hs := by first | exact awake_spec | fail) (hx := ?_)
        | refine oC (π := []) (hs := by first | exact hcs | fail) (hx := ?_)
        | refine oC (π := []) (hs := by first | exact hms | fail) (hx := ?_)
        | refine oZ ?_
        | refine oI ?_
        | refine thenI_n ?_
        | refine IWP_seq ?_
        | refine IWP_region ?_
        | refine IWP_ct rfl ?_
        | refine IWP_cf rfl ?_
        | refine IWP_skip ?_
        | refine IWP_ret ?_
        | refine IWP_block ?_
        | refine inB_n ?_
        | refine thenI_r ?_
        | refine thenI_e ?_
        | refine inB_r ?_
        | refine inB_hit ?_
        | refine inB_miss rfl ?_
        | refine IWP_exit ?_
        | refine IWP_scope ?_
        | refine IWP_label ?_
        | refine noG_n ?_
        | refine noG_r ?_
        | refine noG_e ?_
        | refine jmp_n ?_
        | refine jmp_r ?_
        | refine jmp_e ?_
        | refine jmp_g ?_
        | refine thenI_g ?_
        | refine inB_g ?_
        | refine IWP_goto ?_
        | refine Loop_n ?_
        | refine oD (id := 9) W8_9 [] O8_9 [_, _, _, _, _, _] [_] rfl (by repeat' (first | exact trivial | refine And.intro ?_ ?_ | exact bS | exact bX | exact bZ | exact bI | exact bC (π := []) (hs := by first | exact awake_spec | fail) | exact bC (π := []) (hs := by first | exact hcs | fail) | exact bC (π := []) (hs := by first | exact hms | fail) | fail)) ?_
        | refine oD (id := 11) W8_11 [] O8_11 [_, _, _, _, _, _, _, _, _, _, _, _, _, _, _, _, _, _, _, _] [_] rfl (by repeat' (first | exact trivial | refine And.intro ?_ ?_ | exact bS | exact bX | exact bZ | exact bI | exact bC (π := []) (hs := by first | exact awake_spec | fail) | exact bC (π := []) (hs := by first | exact hcs | fail) | exact bC (π := []) (hs := by first | exact hms | fail) | fail)) ?_
        | fail)
      refine IWP_loop (fun x' : Bool × Nat => ⟨95, [(0, .fz false (items h) h.length), (3, .ptr 0 0), (4, .sc (.bool false)), (5, .sc (.bool true)), (6, .ptr 1 0), (7, .sc (.bool sm)), (8, .sc (.bool x'.1)), (9, .i64 x'.2)], [.box [.sc (.int .i64 x.id), .sc (.int .u64 x.pri), .sc (.int .u64 x.seq)], .box [.sc (.int .i64 m.id), .sc (.int .u64 m.pri), .sc (.int .u64 m.seq)]]⟩)
        (fun x' => x'.2 ≤ h.length ∧ (x'.1 = true → ∀ j, j < x'.2 → lessI x (gd h j) = true ∨ (gd h j).id = x.id)) (fun x' => h.length - x'.2) (true, 0) (lP [0, 1]) ⟨Nat.zero_le _, fun _ j hj => absurd hj (Nat.not_lt_zero _)⟩ ?_
      rintro ⟨b, i⟩ ⟨hi, hb⟩
      simp only at hi hb ⊢
      by_cases hi2 : i < h.length
      · have hl1 := less_spec (gd h i) m
        rw [hle i hi2] at hl1
        have hl2 := less_spec x (gd h i)
        cases b
        · repeat' (first
            | refine IOps_nil ?_
            | refine oS ?_
            | refine IOps_s rfl rfl ?_
            | refine oT ?_
            | refine IOps_s0 rfl ?_
            | refine oC (π := []) (hs := by first | exact hl1 | fail) (hx := ?_)
            | refine oZ ?_
            | refine oI ?_
            | refine thenI_n ?_
            | refine IWP_seq ?_
            | refine IWP_region ?_
            | refine IWP_ct rfl ?_
            | refine IWP_cf rfl ?_
            | refine IWP_skip ?_
            | refine IWP_ret ?_
            | refine IWP_block ?_
            | refine inB_n ?_
            | refine thenI_r ?_
            | refine thenI_e ?_
            | refine inB_r ?_
            | refine inB_hit ?_
            | refine inB_miss rfl ?_
            | refine IWP_exit ?_
            | refine IWP_scope ?_
            | refine IWP_label ?_
            | refine noG_n ?_
            | refine noG_r ?_
            | refine noG_e ?_
            | refine jmp_n ?_
            | refine jmp_r ?_
            | refine jmp_e ?_
            | refine jmp_g ?_
            | refine thenI_g ?_
            | refine inB_g ?_
            | refine IWP_goto ?_
            | refine Loop_n ?_
            | refine oD (id := 9) W8_9 [] O8_9 [_, _, _, _, _, _] [_] rfl (by repeat' (first | exact trivial | refine And.intro ?_ ?_ | exact bS | exact bX | exact bZ | exact bI | exact bC (π := []) (hs := by first | exact hl1 | fail) | fail)) ?_
            | refine oD (id := 11) W8_11 [] O8_11 [_, _, _, _, _, _, _, _, _, _, _, _, _, _, _, _, _, _, _, _] [_] rfl (by repeat' (first | exact trivial | refine And.intro ?_ ?_ | exact bS | exact bX | exact bZ | exact bI | exact bC (π := []) (hs := by first | exact hl1 | fail) | fail)) ?_
            | fail)
          exact ⟨(false, i + 1), ⟨hi2, fun h => Bool.noConfusion h⟩, by simp only; omega, lP [0, 1]⟩
        · cases hx : lessI x (gd h i)
          · rw [hx] at hl2
            by_cases he : (h.getD i default).id = x.id
            · repeat' (first
                | refine IOps_nil ?_
                | refine oS ?_
                | refine IOps_s rfl rfl ?_
                | refine oT ?_
                | refine IOps_s0 rfl ?_
                | refine oC (π := []) (hs := by first | exact hl1 | fail) (hx := ?_)
                | refine oC (π := []) (hs := by first | exact hl2 | fail) (hx := ?_)
                | refine oZ ?_
                | refine oI ?_
                | refine thenI_n ?_
                | refine IWP_seq ?_
                | refine IWP_region ?_
                | refine IWP_ct rfl ?_
                | refine IWP_cf rfl ?_
                | refine IWP_skip ?_
                | refine IWP_ret ?_
                | refine IWP_block ?_
                | refine inB_n ?_
                | refine thenI_r ?_
                | refine thenI_e ?_
                | refine inB_r ?_
                | refine inB_hit ?_
                | refine inB_miss rfl ?_
                | refine IWP_exit ?_
                | refine IWP_scope ?_
                | refine IWP_label ?_
                | refine noG_n ?_
                | refine noG_r ?_
                | refine noG_e ?_
                | refine jmp_n ?_
                | refine jmp_r ?_
                | refine jmp_e ?_
                | refine jmp_g ?_
                | refine thenI_g ?_
                | refine inB_g ?_
                | refine IWP_goto ?_
                | refine Loop_n ?_
                | refine oD (id := 9) W8_9 [] O8_9 [_, _, _, _, _, _] [_] rfl (by repeat' (first | exact trivial | refine And.intro ?_ ?_ | exact bS | exact bX | exact bZ | exact bI | exact bC (π := []) (hs := by first | exact hl1 | fail) | exact bC (π := []) (hs := by first | exact hl2 | fail) | fail)) ?_
                | refine oD (id := 11) W8_11 [] O8_11 [_, _, _, _, _, _, _, _, _, _, _, _, _, _, _, _, _, _, _, _] [_] rfl (by repeat' (first | exact trivial | refine And.intro ?_ ?_ | exact bS | exact bX | exact bZ | exact bI | exact bC (π := []) (hs := by first | exact hl1 | fail) | exact bC (π := []) (hs := by first | exact hl2 | fail) | fail)) ?_
                | fail)
              exact ⟨(true, i + 1), ⟨hi2, fun _ j hj => by
                rcases Nat.lt_succ_iff_lt_or_eq.1 hj with h | rfl
                · exact hb rfl j h
                · exact .inr he⟩, by simp only; omega, lP [0, 1]⟩
            · repeat' (first
                | refine IOps_nil ?_
                | refine oS ?_
                | refine IOps_s rfl rfl ?_
                | refine oT ?_
                | refine IOps_s0 rfl ?_
                | refine oC (π := []) (hs := by first | exact hl1 | fail) (hx := ?_)
                | refine oC (π := []) (hs := by first | exact hl2 | fail) (hx := ?_)
                | refine oZ ?_
                | refine oI ?_
                | refine thenI_n ?_
                | refine IWP_seq ?_
                | refine IWP_region ?_
                | refine IWP_ct rfl ?_
                | refine IWP_cf rfl ?_
                | refine IWP_skip ?_
                | refine IWP_ret ?_
                | refine IWP_block ?_
                | refine inB_n ?_
                | refine thenI_r ?_
                | refine thenI_e ?_
                | refine inB_r ?_
                | refine inB_hit ?_
                | refine inB_miss rfl ?_
                | refine IWP_exit ?_
                | refine IWP_scope ?_
                | refine IWP_label ?_
                | refine noG_n ?_
                | refine noG_r ?_
                | refine noG_e ?_
                | refine jmp_n ?_
                | refine jmp_r ?_
                | refine jmp_e ?_
                | refine jmp_g ?_
                | refine thenI_g ?_
                | refine inB_g ?_
                | refine IWP_goto ?_
                | refine Loop_n ?_
                | refine oD (id := 9) W8_9 [] O8_9 [_, _, _, _, _, _] [_] rfl (by repeat' (first | exact trivial | refine And.intro ?_ ?_ | exact bS | exact bX | exact bZ | exact bI | exact bC (π := []) (hs := by first | exact hl1 | fail) | exact bC (π := []) (hs := by first | exact hl2 | fail) | fail)) ?_
                | refine oD (id := 11) W8_11 [] O8_11 [_, _, _, _, _, _, _, _, _, _, _, _, _, _, _, _, _, _, _, _] [_] rfl (by repeat' (first | exact trivial | refine And.intro ?_ ?_ | exact bS | exact bX | exact bZ | exact bI | exact bC (π := []) (hs := by first | exact hl1 | fail) | exact bC (π := []) (hs := by first | exact hl2 | fail) | fail)) ?_
                | fail)
              exact ⟨(false, i + 1), ⟨hi2, fun h => Bool.noConfusion h⟩, by simp only; omega, lP [0, 1]⟩
          · rw [hx] at hl2
            repeat' (first
              | refine IOps_nil ?_
              | refine oS ?_
              | refine IOps_s rfl rfl ?_
              | refine oT ?_
              | refine IOps_s0 rfl ?_
              | refine oC (π := []) (hs := by first | exact hl1 | fail) (hx := ?_)
              | refine oC (π := []) (hs := by first | exact hl2 | fail) (hx := ?_)
              | refine oZ ?_
              | refine oI ?_
              | refine thenI_n ?_
              | refine IWP_seq ?_
              | refine IWP_region ?_
              | refine IWP_ct rfl ?_
              | refine IWP_cf rfl ?_
              | refine IWP_skip ?_
              | refine IWP_ret ?_
              | refine IWP_block ?_
              | refine inB_n ?_
              | refine thenI_r ?_
              | refine thenI_e ?_
              | refine inB_r ?_
              | refine inB_hit ?_
              | refine inB_miss rfl ?_
              | refine IWP_exit ?_
              | refine IWP_scope ?_
              | refine IWP_label ?_
              | refine noG_n ?_
              | refine noG_r ?_
              | refine noG_e ?_
              | refine jmp_n ?_
              | refine jmp_r ?_
              | refine jmp_e ?_
              | refine jmp_g ?_
              | refine thenI_g ?_
              | refine inB_g ?_
              | refine IWP_goto ?_
              | refine Loop_n ?_
              | refine oD (id := 9) W8_9 [] O8_9 [_, _, _, _, _, _] [_] rfl (by repeat' (first | exact trivial | refine And.intro ?_ ?_ | exact bS | exact bX | exact bZ | exact bI | exact bC (π := []) (hs := by first | exact hl1 | fail) | exact bC (π := []) (hs := by first | exact hl2 | fail) | fail)) ?_
              | refine oD (id := 11) W8_11 [] O8_11 [_, _, _, _, _, _, _, _, _, _, _, _, _, _, _, _, _, _, _, _] [_] rfl (by repeat' (first | exact trivial | refine And.intro ?_ ?_ | exact bS | exact bX | exact bZ | exact bI | exact bC (π := []) (hs := by first | exact hl1 | fail) | exact bC (π := []) (hs := by first | exact hl2 | fail) | fail)) ?_
              | fail)
            exact ⟨(true, i + 1), ⟨hi2, fun _ j hj => by
                rcases Nat.lt_succ_iff_lt_or_eq.1 hj with h | rfl
                · exact hb rfl j h
                · exact .inl hx⟩, by simp only; omega, lP [0, 1]⟩
      · obtain rfl : i = h.length := by omega
        have key : ∀ t : Bool, t = decide (0 < h.length) → (0 < h.length ∧ t = true) ∨ (¬ 0 < h.length ∧ t = false) := fun t ht => by
          by_cases h0 : 0 < h.length
          · exact .inl ⟨h0, by rw [ht]; simpa using h0⟩
          · exact .inr ⟨h0, by rw [ht]; simpa using h0⟩
        have hall : b = true → ∀ M : List It, M.Perm (upI x h) → ∀ y, y ∈ M → lessI y x = false := fun hbt M hM y hy => by
          rcases List.mem_cons.1 (hM.mem_iff.1 hy) with rfl | hy
          · exact lessI_irr _
          · obtain ⟨hy1, hy2⟩ := List.mem_filter.1 hy
            obtain ⟨j, hj, rfl⟩ := List.getElem_of_mem hy1
            rcases hb hbt j hj with h | h
            · rw [gd_eq hj] at h; exact lessI_asym h
            · rw [gd_eq hj] at h; simp [h] at hy2
        rcases key sm hsm with ⟨h0, rfl⟩ | ⟨h0, rfl⟩
        · by_cases hx : 0 ≤ x.id ∧ x.id < 64
          · repeat' (first
              | refine IOps_nil ?_
              | refine oS ?_
              | refine IOps_s rfl rfl ?_
              | refine oT ?_
              | refine IOps_s0 rfl ?_
              | refine oZ ?_
              | refine oI ?_
              | refine thenI_n ?_
              | refine IWP_seq ?_
              | refine IWP_region ?_
              | refine IWP_ct rfl ?_
              | refine IWP_cf rfl ?_
              | refine IWP_skip ?_
              | refine IWP_ret ?_
              | refine IWP_block ?_
              | refine inB_n ?_
              | refine thenI_r ?_
              | refine thenI_e ?_
              | refine inB_r ?_
              | refine inB_hit ?_
              | refine inB_miss rfl ?_
              | refine IWP_exit ?_
              | refine IWP_scope ?_
              | refine IWP_label ?_
              | refine noG_n ?_
              | refine noG_r ?_
              | refine noG_e ?_
              | refine jmp_n ?_
              | refine jmp_r ?_
              | refine jmp_e ?_
              | refine jmp_g ?_
              | refine thenI_g ?_
              | refine inB_g ?_
              | refine IWP_goto ?_
              | refine Loop_n ?_
              | refine oD (id := 9) W8_9 [] O8_9 [_, _, _, _, _, _] [_] rfl (by repeat' (first | exact trivial | refine And.intro ?_ ?_ | exact bS | exact bX | exact bZ | exact bI | fail)) ?_
              | refine oD (id := 11) W8_11 [] O8_11 [_, _, _, _, _, _, _, _, _, _, _, _, _, _, _, _, _, _, _, _] [_] rfl (by repeat' (first | exact trivial | refine And.intro ?_ ?_ | exact bS | exact bX | exact bZ | exact bI | fail)) ?_
              | fail)
            refine oE [] (hs := set_c h x hd.len hc hx) (hx := ?_)
            rintro M ⟨hM, hp⟩
            have hn := min_spec M (by rw [hp.length_eq]; have := List.length_filter_le (fun y : It => decide (y.id ≠ x.id)) h; unfold upI woI; simp only [List.length_cons]; omega)
            cases b
            · repeat' (first
                | refine IOps_nil ?_
                | refine oS ?_
                | refine IOps_s rfl rfl ?_
                | refine oT ?_
                | refine IOps_s0 rfl ?_
                | refine oC (π := []) (hs := by first | exact hn | fail) (hx := ?_)
                | refine oZ ?_
                | refine oI ?_
                | refine thenI_n ?_
                | refine IWP_seq ?_
                | refine IWP_region ?_
                | refine IWP_ct rfl ?_
                | refine IWP_cf rfl ?_
                | refine IWP_skip ?_
                | refine IWP_ret ?_
                | refine IWP_block ?_
                | refine inB_n ?_
                | refine thenI_r ?_
                | refine thenI_e ?_
                | refine inB_r ?_
                | refine inB_hit ?_
                | refine inB_miss rfl ?_
                | refine IWP_exit ?_
                | refine IWP_scope ?_
                | refine IWP_label ?_
                | refine noG_n ?_
                | refine noG_r ?_
                | refine noG_e ?_
                | refine jmp_n ?_
                | refine jmp_r ?_
                | refine jmp_e ?_
                | refine jmp_g ?_
                | refine thenI_g ?_
                | refine inB_g ?_
                | refine IWP_goto ?_
                | refine Loop_n ?_
                | refine oD (id := 9) W8_9 [] O8_9 [_, _, _, _, _, _] [_] rfl (by repeat' (first | exact trivial | refine And.intro ?_ ?_ | exact bS | exact bX | exact bZ | exact bI | exact bC (π := []) (hs := by first | exact hn | fail) | fail)) ?_
                | refine oD (id := 11) W8_11 [] O8_11 [_, _, _, _, _, _, _, _, _, _, _, _, _, _, _, _, _, _, _, _] [_] rfl (by repeat' (first | exact trivial | refine And.intro ?_ ?_ | exact bS | exact bX | exact bZ | exact bI | exact bC (π := []) (hs := by first | exact hn | fail) | fail)) ?_
                | fail)
              exact pD [] ⟨rfl, rfl⟩
            · rw [minV_least hM (hp.mem_iff.2 (by simp [upI])) (hall rfl M hp)] at hn
              repeat' (first
                | refine IOps_nil ?_
                | refine oS ?_
                | refine IOps_s rfl rfl ?_
                | refine oT ?_
                | refine IOps_s0 rfl ?_
                | refine oC (π := []) (hs := by first | exact hn | fail) (hx := ?_)
                | refine oZ ?_
                | refine oI ?_
                | refine thenI_n ?_
                | refine IWP_seq ?_
                | refine IWP_region ?_
                | refine IWP_ct rfl ?_
                | refine IWP_cf rfl ?_
                | refine IWP_skip ?_
                | refine IWP_ret ?_
                | refine IWP_block ?_
                | refine inB_n ?_
                | refine thenI_r ?_
                | refine thenI_e ?_
                | refine inB_r ?_
                | refine inB_hit ?_
                | refine inB_miss rfl ?_
                | refine IWP_exit ?_
                | refine IWP_scope ?_
                | refine IWP_label ?_
                | refine noG_n ?_
                | refine noG_r ?_
                | refine noG_e ?_
                | refine jmp_n ?_
                | refine jmp_r ?_
                | refine jmp_e ?_
                | refine jmp_g ?_
                | refine thenI_g ?_
                | refine inB_g ?_
                | refine IWP_goto ?_
                | refine Loop_n ?_
                | refine oD (id := 9) W8_9 [] O8_9 [_, _, _, _, _, _] [_] rfl (by repeat' (first | exact trivial | refine And.intro ?_ ?_ | exact bS | exact bX | exact bZ | exact bI | exact bC (π := []) (hs := by first | exact hn | fail) | fail)) ?_
                | refine oD (id := 11) W8_11 [] O8_11 [_, _, _, _, _, _, _, _, _, _, _, _, _, _, _, _, _, _, _, _] [_] rfl (by repeat' (first | exact trivial | refine And.intro ?_ ?_ | exact bS | exact bX | exact bZ | exact bI | exact bC (π := []) (hs := by first | exact hn | fail) | fail)) ?_
                | fail)
              exact pD [] ⟨rfl, rfl⟩
          · repeat' (first
              | refine IOps_nil ?_
              | refine oS ?_
              | refine IOps_s rfl rfl ?_
              | refine oT ?_
              | refine IOps_s0 rfl ?_
              | refine oC (π := []) (hs := by first | exact (set_b h x (by omega) hc hx) | fail) (hx := ?_)
              | refine oC (π := []) (hs := by first | exact (hmv ▸ min_spec h (by omega)) | fail) (hx := ?_)
              | refine oZ ?_
              | refine oI ?_
              | refine thenI_n ?_
              | refine IWP_seq ?_
              | refine IWP_region ?_
              | refine IWP_ct rfl ?_
              | refine IWP_cf rfl ?_
              | refine IWP_skip ?_
              | refine IWP_ret ?_
              | refine IWP_block ?_
              | refine inB_n ?_
              | refine thenI_r ?_
              | refine thenI_e ?_
              | refine inB_r ?_
              | refine inB_hit ?_
              | refine inB_miss rfl ?_
              | refine IWP_exit ?_
              | refine IWP_scope ?_
              | refine IWP_label ?_
              | refine noG_n ?_
              | refine noG_r ?_
              | refine noG_e ?_
              | refine jmp_n ?_
              | refine jmp_r ?_
              | refine jmp_e ?_
              | refine jmp_g ?_
              | refine thenI_g ?_
              | refine inB_g ?_
              | refine IWP_goto ?_
              | refine Loop_n ?_
              | refine oD (id := 9) W8_9 [] O8_9 [_, _, _, _, _, _] [_] rfl (by repeat' (first | exact trivial | refine And.intro ?_ ?_ | exact bS | exact bX | exact bZ | exact bI | exact bC (π := []) (hs := by first | exact (set_b h x (by omega) hc hx) | fail) | exact bC (π := []) (hs := by first | exact (hmv ▸ min_spec h (by omega)) | fail) | fail)) ?_
              | refine oD (id := 11) W8_11 [] O8_11 [_, _, _, _, _, _, _, _, _, _, _, _, _, _, _, _, _, _, _, _] [_] rfl (by repeat' (first | exact trivial | refine And.intro ?_ ?_ | exact bS | exact bX | exact bZ | exact bI | exact bC (π := []) (hs := by first | exact (set_b h x (by omega) hc hx) | fail) | exact bC (π := []) (hs := by first | exact (hmv ▸ min_spec h (by omega)) | fail) | fail)) ?_
              | fail)
            exact pD [] ⟨rfl, rfl⟩
        · by_cases hx : 0 ≤ x.id ∧ x.id < 64
          · repeat' (first
              | refine IOps_nil ?_
              | refine oS ?_
              | refine IOps_s rfl rfl ?_
              | refine oT ?_
              | refine IOps_s0 rfl ?_
              | refine oZ ?_
              | refine oI ?_
              | refine thenI_n ?_
              | refine IWP_seq ?_
              | refine IWP_region ?_
              | refine IWP_ct rfl ?_
              | refine IWP_cf rfl ?_
              | refine IWP_skip ?_
              | refine IWP_ret ?_
              | refine IWP_block ?_
              | refine inB_n ?_
              | refine thenI_r ?_
              | refine thenI_e ?_
              | refine inB_r ?_
              | refine inB_hit ?_
              | refine inB_miss rfl ?_
              | refine IWP_exit ?_
              | refine IWP_scope ?_
              | refine IWP_label ?_
              | refine noG_n ?_
              | refine noG_r ?_
              | refine noG_e ?_
              | refine jmp_n ?_
              | refine jmp_r ?_
              | refine jmp_e ?_
              | refine jmp_g ?_
              | refine thenI_g ?_
              | refine inB_g ?_
              | refine IWP_goto ?_
              | refine Loop_n ?_
              | refine oD (id := 9) W8_9 [] O8_9 [_, _, _, _, _, _] [_] rfl (by repeat' (first | exact trivial | refine And.intro ?_ ?_ | exact bS | exact bX | exact bZ | exact bI | fail)) ?_
              | refine oD (id := 11) W8_11 [] O8_11 [_, _, _, _, _, _, _, _, _, _, _, _, _, _, _, _, _, _, _, _] [_] rfl (by repeat' (first | exact trivial | refine And.intro ?_ ?_ | exact bS | exact bX | exact bZ | exact bI | fail)) ?_
              | fail)
            refine oE [] (hs := set_c h x hd.len hc hx) (hx := ?_)
            rintro M ⟨hM, hp⟩
            have hn := min_spec M (by rw [hp.length_eq]; have := List.length_filter_le (fun y : It => decide (y.id ≠ x.id)) h; unfold upI woI; simp only [List.length_cons]; omega)
            cases b
            · repeat' (first
                | refine IOps_nil ?_
                | refine oS ?_
                | refine IOps_s rfl rfl ?_
                | refine oT ?_
                | refine IOps_s0 rfl ?_
                | refine oC (π := []) (hs := by first | exact hn | fail) (hx := ?_)
                | refine oZ ?_
                | refine oI ?_
                | refine thenI_n ?_
                | refine IWP_seq ?_
                | refine IWP_region ?_
                | refine IWP_ct rfl ?_
                | refine IWP_cf rfl ?_
                | refine IWP_skip ?_
                | refine IWP_ret ?_
                | refine IWP_block ?_
                | refine inB_n ?_
                | refine thenI_r ?_
                | refine thenI_e ?_
                | refine inB_r ?_
                | refine inB_hit ?_
                | refine inB_miss rfl ?_
                | refine IWP_exit ?_
                | refine IWP_scope ?_
                | refine IWP_label ?_
                | refine noG_n ?_
                | refine noG_r ?_
                | refine noG_e ?_
                | refine jmp_n ?_
                | refine jmp_r ?_
                | refine jmp_e ?_
                | refine jmp_g ?_
                | refine thenI_g ?_
                | refine inB_g ?_
                | refine IWP_goto ?_
                | refine Loop_n ?_
                | refine oD (id := 9) W8_9 [] O8_9 [_, _, _, _, _, _] [_] rfl (by repeat' (first | exact trivial | refine And.intro ?_ ?_ | exact bS | exact bX | exact bZ | exact bI | exact bC (π := []) (hs := by first | exact hn | fail) | fail)) ?_
                | refine oD (id := 11) W8_11 [] O8_11 [_, _, _, _, _, _, _, _, _, _, _, _, _, _, _, _, _, _, _, _] [_] rfl (by repeat' (first | exact trivial | refine And.intro ?_ ?_ | exact bS | exact bX | exact bZ | exact bI | exact bC (π := []) (hs := by first | exact hn | fail) | fail)) ?_
                | fail)
              exact pD [] ⟨rfl, rfl⟩
            · rw [minV_least hM (hp.mem_iff.2 (by simp [upI])) (hall rfl M hp)] at hn
              repeat' (first
                | refine IOps_nil ?_
                | refine oS ?_
                | refine IOps_s rfl rfl ?_
                | refine oT ?_
                | refine IOps_s0 rfl ?_
                | refine oC (π := []) (hs := by first | exact hn | fail) (hx := ?_)
                | refine oZ ?_
                | refine oI ?_
                | refine thenI_n ?_
                | refine IWP_seq ?_
                | refine IWP_region ?_
                | refine IWP_ct rfl ?_
                | refine IWP_cf rfl ?_
                | refine IWP_skip ?_
                | refine IWP_ret ?_
                | refine IWP_block ?_
                | refine inB_n ?_
                | refine thenI_r ?_
                | refine thenI_e ?_
                | refine inB_r ?_
                | refine inB_hit ?_
                | refine inB_miss rfl ?_
                | refine IWP_exit ?_
                | refine IWP_scope ?_
                | refine IWP_label ?_
                | refine noG_n ?_
                | refine noG_r ?_
                | refine noG_e ?_
                | refine jmp_n ?_
                | refine jmp_r ?_
                | refine jmp_e ?_
                | refine jmp_g ?_
                | refine thenI_g ?_
                | refine inB_g ?_
                | refine IWP_goto ?_
                | refine Loop_n ?_
                | refine oD (id := 9) W8_9 [] O8_9 [_, _, _, _, _, _] [_] rfl (by repeat' (first | exact trivial | refine And.intro ?_ ?_ | exact bS | exact bX | exact bZ | exact bI | exact bC (π := []) (hs := by first | exact hn | fail) | fail)) ?_
                | refine oD (id := 11) W8_11 [] O8_11 [_, _, _, _, _, _, _, _, _, _, _, _, _, _, _, _, _, _, _, _] [_] rfl (by repeat' (first | exact trivial | refine And.intro ?_ ?_ | exact bS | exact bX | exact bZ | exact bI | exact bC (π := []) (hs := by first | exact hn | fail) | fail)) ?_
                | fail)
              exact pD [] ⟨rfl, rfl⟩
          · repeat' (first
              | refine IOps_nil ?_
              | refine oS ?_
              | refine IOps_s rfl rfl ?_
              | refine oT ?_
              | refine IOps_s0 rfl ?_
              | refine oC (π := []) (hs := by first | exact (set_b h x (by omega) hc hx) | fail) (hx := ?_)
              | refine oC (π := []) (hs := by first | exact (hmv ▸ min_spec h (by omega)) | fail) (hx := ?_)
              | refine oZ ?_
              | refine oI ?_
              | refine thenI_n ?_
              | refine IWP_seq ?_
              | refine IWP_region ?_
              | refine IWP_ct rfl ?_
              | refine IWP_cf rfl ?_
              | refine IWP_skip ?_
              | refine IWP_ret ?_
              | refine IWP_block ?_
              | refine inB_n ?_
              | refine thenI_r ?_
              | refine thenI_e ?_
              | refine inB_r ?_
              | refine inB_hit ?_
              | refine inB_miss rfl ?_
              | refine IWP_exit ?_
              | refine IWP_scope ?_
              | refine IWP_label ?_
              | refine noG_n ?_
              | refine noG_r ?_
              | refine noG_e ?_
              | refine jmp_n ?_
              | refine jmp_r ?_
              | refine jmp_e ?_
              | refine jmp_g ?_
              | refine thenI_g ?_
              | refine inB_g ?_
              | refine IWP_goto ?_
              | refine Loop_n ?_
              | refine oD (id := 9) W8_9 [] O8_9 [_, _, _, _, _, _] [_] rfl (by repeat' (first | exact trivial | refine And.intro ?_ ?_ | exact bS | exact bX | exact bZ | exact bI | exact bC (π := []) (hs := by first | exact (set_b h x (by omega) hc hx) | fail) | exact bC (π := []) (hs := by first | exact (hmv ▸ min_spec h (by omega)) | fail) | fail)) ?_
              | refine oD (id := 11) W8_11 [] O8_11 [_, _, _, _, _, _, _, _, _, _, _, _, _, _, _, _, _, _, _, _] [_] rfl (by repeat' (first | exact trivial | refine And.intro ?_ ?_ | exact bS | exact bX | exact bZ | exact bI | exact bC (π := []) (hs := by first | exact (set_b h x (by omega) hc hx) | fail) | exact bC (π := []) (hs := by first | exact (hmv ▸ min_spec h (by omega)) | fail) | fail)) ?_
              | fail)
            exact pD [] ⟨rfl, rfl⟩
  · refine sB Try.func8 Try.ntmps8 ?_
    repeat' (first
      | refine IOps_nil ?_
      | refine oS ?_
      | refine IOps_s rfl rfl ?_
      | refine oT ?_
      | refine IOps_s0 rfl ?_
      | refine oC (π := []) (hs := by first | exact awake_spec | fail) (hx := ?_)
      | refine oZ ?_
      | refine oI ?_
      | refine thenI_n ?_
      | refine IWP_seq ?_
      | refine IWP_region ?_
      | refine IWP_ct rfl ?_
      | refine IWP_cf rfl ?_
      | refine IWP_skip ?_
      | refine IWP_ret ?_
      | refine IWP_block ?_
      | refine inB_n ?_
      | refine thenI_r ?_
      | refine thenI_e ?_
      | refine inB_r ?_
      | refine inB_hit ?_
      | refine inB_miss rfl ?_
      | refine IWP_exit ?_
      | refine IWP_scope ?_
      | refine IWP_label ?_
      | refine noG_n ?_
      | refine noG_r ?_
      | refine noG_e ?_
      | refine jmp_n ?_
      | refine jmp_r ?_
      | refine jmp_e ?_
      | refine jmp_g ?_
      | refine thenI_g ?_
      | refine inB_g ?_
      | refine IWP_goto ?_
      | refine Loop_n ?_
      | refine oD (id := 9) W8_9 [] O8_9 [_, _, _, _, _, _] [_] rfl (by repeat' (first | exact trivial | refine And.intro ?_ ?_ | exact bS | exact bX | exact bZ | exact bI | exact bC (π := []) (hs := by first | exact awake_spec | fail) | fail)) ?_
      | refine oD (id := 11) W8_11 [] O8_11 [_, _, _, _, _, _, _, _, _, _, _, _, _, _, _, _, _, _, _, _] [_] rfl (by repeat' (first | exact trivial | refine And.intro ?_ ?_ | exact bS | exact bX | exact bZ | exact bI | exact bC (π := []) (hs := by first | exact awake_spec | fail) | fail)) ?_
      | fail)
    exact pD [] ⟨rfl, rfl⟩
end Go.Proofs.Ytnlelckfhlcbgaa
