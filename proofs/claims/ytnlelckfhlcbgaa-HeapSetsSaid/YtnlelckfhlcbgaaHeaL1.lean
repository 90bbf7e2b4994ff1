/-
  the laws of the layer heap.
-/
import Derived.Test.YtnlelckfhlcbgaaHeaI
namespace Go.Proofs.Ytnlelckfhlcbgaa
open Go Go.Idl
set_option linter.unusedSimpArgs false
set_option linter.unusedVariables false
set_option maxRecDepth 100000
set_option maxHeartbeats 1000000
attribute [local irreducible] Go.Idl.IWP Go.Idl.IOps Go.Idl.Obl Go.Idl.OpG Go.Idl.thenI Go.Idl.inBlockI Go.Idl.LoopU Go.Idl.noGotoI Go.Idl.jumpI
attribute [local go_sem] List.length_set
theorem order_law (a b c : It) : Idl.Spec Try.prog 7 [.agg [.sc (.int .i64 a.id), .sc (.int .u64 a.pri), .sc (.int .u64 a.seq)], .agg [.sc (.int .i64 b.id), .sc (.int .u64 b.pri), .sc (.int .u64 b.seq)], .agg [.sc (.int .i64 c.id), .sc (.int .u64 c.pri), .sc (.int .u64 c.seq)]] [] (Only (.sc (.bool true)) []) := by
  have hab := less_spec a b
  have hba := less_spec b a
  have hbc := less_spec b c
  have hac := less_spec a c
  cases e1 : lessI a b
  · rw [e1] at hab
    cases e2 : lessI b a
    · obtain rfl := lessI_tot e1 e2
      rw [e2] at hba
      cases e3 : lessI a c
      · rw [e3] at hac
        refine sB Try.func7 Try.ntmps7 ?_
        repeat' (first
          | refine IOps_nil ?_
          | refine oS ?_
          | refine IOps_s rfl rfl ?_
          | refine oT ?_
          | refine IOps_s0 rfl ?_
          | refine oC (π := []) (hs := by first | exact awake_spec | fail) (hx := ?_)
          | refine oC (π := []) (hs := by first | exact hab | fail) (hx := ?_)
          | refine oC (π := []) (hs := by first | exact hac | fail) (hx := ?_)
          | refine oZ ?_
          | refine oI ?_
          | refine thenI_n ?_
          | refine IWP_seq ?_
          | refine IWP_region ?_
          | refine IWP_ct rfl ?_
          | refine IWP_cf rfl ?_
          | refine IWP_skip ?_
          | refine IWP_ret ?_
          | refine IWP_block ?_
          | refine inB_n ?_
          | refine thenI_r ?_
          | refine thenI_e ?_
          | refine inB_r ?_
          | refine inB_hit ?_
          | refine inB_miss rfl ?_
          | refine IWP_exit ?_
          | refine IWP_scope ?_
          | refine IWP_label ?_
          | refine noG_n ?_
          | refine noG_r ?_
          | refine noG_e ?_
          | refine jmp_n ?_
          | refine jmp_r ?_
          | refine jmp_e ?_
          | refine jmp_g ?_
          | refine thenI_g ?_
          | refine inB_g ?_
          | refine IWP_goto ?_
          | refine Loop_n ?_
          | refine oD (id := 3) W7_3 [] O7_3 [_, _, _, _, _, _, _, _, _, _, _, _, _, _, _, _, _, _] [_] rfl (by repeat' (first | exact trivial | refine And.intro ?_ ?_ | exact bS | exact bX | exact bZ | exact bI | exact bC (π := []) (hs := by first | exact awake_spec | fail) | exact bC (π := []) (hs := by first | exact hab | fail) | exact bC (π := []) (hs := by first | exact hac | fail) | fail)) ?_
          | fail)
        exact pD [] ⟨rfl, rfl⟩
      · rw [e3] at hac
        refine sB Try.func7 Try.ntmps7 ?_
        repeat' (first
          | refine IOps_nil ?_
          | refine oS ?_
          | refine IOps_s rfl rfl ?_
          | refine oT ?_
          | refine IOps_s0 rfl ?_
          | refine oC (π := []) (hs := by first | exact awake_spec | fail) (hx := ?_)
          | refine oC (π := []) (hs := by first | exact hab | fail) (hx := ?_)
          | refine oC (π := []) (hs := by first | exact hac | fail) (hx := ?_)
          | refine oZ ?_
          | refine oI ?_
          | refine thenI_n ?_
          | refine IWP_seq ?_
          | refine IWP_region ?_
          | refine IWP_ct rfl ?_
          | refine IWP_cf rfl ?_
          | refine IWP_skip ?_
          | refine IWP_ret ?_
          | refine IWP_block ?_
          | refine inB_n ?_
          | refine thenI_r ?_
          | refine thenI_e ?_
          | refine inB_r ?_
          | refine inB_hit ?_
          | refine inB_miss rfl ?_
          | refine IWP_exit ?_
          | refine IWP_scope ?_
          | refine IWP_label ?_
          | refine noG_n ?_
          | refine noG_r ?_
          | refine noG_e ?_
          | refine jmp_n ?_
          | refine jmp_r ?_
          | refine jmp_e ?_
          | refine jmp_g ?_
          | refine thenI_g ?_
          | refine inB_g ?_
          | refine IWP_goto ?_
          | refine Loop_n ?_
          | refine oD (id := 3) W7_3 [] O7_3 [_, _, _, _, _, _, _, _, _, _, _, _, _, _, _, _, _, _] [_] rfl (by repeat' (first | exact trivial | refine And.intro ?_ ?_ | exact bS | exact bX | exact bZ | exact bI | exact bC (π := []) (hs := by first | exact awake_spec | fail) | exact bC (π := []) (hs := by first | exact hab | fail) | exact bC (π := []) (hs := by first | exact hac | fail) | fail)) ?_
          | fail)
        exact pD [] ⟨rfl, rfl⟩
    · rw [e2] at hba
      have hne : ¬ (a.id = b.id ∧ a.pri = b.pri ∧ a.seq = b.seq) := fun h => by
        simp only [lessI, decide_eq_true_eq] at e2; omega
      by_cases f1 : a.id = b.id
      · by_cases f2 : a.pri = b.pri
        · have f3 : a.seq ≠ b.seq := fun f3 => hne ⟨f1, f2, f3⟩
          refine sB Try.func7 Try.ntmps7 ?_
          repeat' (first
            | refine IOps_nil ?_
            | refine oS ?_
            | refine IOps_s rfl rfl ?_
            | refine oT ?_
            | refine IOps_s0 rfl ?_
            | refine oC (π := []) (hs := by first | exact awake_spec | fail) (hx := ?_)
            | refine oC (π := []) (hs := by first | exact hab | fail) (hx := ?_)
            | refine oC (π := []) (hs := by first | exact hba | fail) (hx := ?_)
            | refine oZ ?_
            | refine oI ?_
            | refine thenI_n ?_
            | refine IWP_seq ?_
            | refine IWP_region ?_
            | refine IWP_ct rfl ?_
            | refine IWP_cf rfl ?_
            | refine IWP_skip ?_
            | refine IWP_ret ?_
            | refine IWP_block ?_
            | refine inB_n ?_
            | refine thenI_r ?_
            | refine thenI_e ?_
            | refine inB_r ?_
            | refine inB_hit ?_
            | refine inB_miss rfl ?_
            | refine IWP_exit ?_
            | refine IWP_scope ?_
            | refine IWP_label ?_
            | refine noG_n ?_
            | refine noG_r ?_
            | refine noG_e ?_
            | refine jmp_n ?_
            | refine jmp_r ?_
            | refine jmp_e ?_
            | refine jmp_g ?_
            | refine thenI_g ?_
            | refine inB_g ?_
            | refine IWP_goto ?_
            | refine Loop_n ?_
            | refine oD (id := 3) W7_3 [] O7_3 [_, _, _, _, _, _, _, _, _, _, _, _, _, _, _, _, _, _] [_] rfl (by repeat' (first | exact trivial | refine And.intro ?_ ?_ | exact bS | exact bX | exact bZ | exact bI | exact bC (π := []) (hs := by first | exact awake_spec | fail) | exact bC (π := []) (hs := by first | exact hab | fail) | exact bC (π := []) (hs := by first | exact hba | fail) | fail)) ?_
            | fail)
          exact pD [] ⟨rfl, rfl⟩
        · refine sB Try.func7 Try.ntmps7 ?_
          repeat' (first
            | refine IOps_nil ?_
            | refine oS ?_
            | refine IOps_s rfl rfl ?_
            | refine oT ?_
            | refine IOps_s0 rfl ?_
            | refine oC (π := []) (hs := by first | exact awake_spec | fail) (hx := ?_)
            | refine oC (π := []) (hs := by first | exact hab | fail) (hx := ?_)
            | refine oC (π := []) (hs := by first | exact hba | fail) (hx := ?_)
            | refine oZ ?_
            | refine oI ?_
            | refine thenI_n ?_
            | refine IWP_seq ?_
            | refine IWP_region ?_
            | refine IWP_ct rfl ?_
            | refine IWP_cf rfl ?_
            | refine IWP_skip ?_
            | refine IWP_ret ?_
            | refine IWP_block ?_
            | refine inB_n ?_
            | refine thenI_r ?_
            | refine thenI_e ?_
            | refine inB_r ?_
            | refine inB_hit ?_
            | refine inB_miss rfl ?_
            | refine IWP_exit ?_
            | refine IWP_scope ?_
            | refine IWP_label ?_
            | refine noG_n ?_
            | refine noG_r ?_
            | refine noG_e ?_
            | refine jmp_n ?_
            | refine jmp_r ?_
            | refine jmp_e ?_
            | refine jmp_g ?_
            | refine thenI_g ?_
            | refine inB_g ?_
            | refine IWP_goto ?_
            | refine Loop_n ?_
            | refine oD (id := 3) W7_3 [] O7_3 [_, _, _, _, _, _, _, _, _, _, _, _, _, _, _, _, _, _] [_] rfl (by repeat' (first | exact trivial | refine And.intro ?_ ?_ | exact bS | exact bX | exact bZ | exact bI | exact bC (π := []) (hs := by first | exact awake_spec | fail) | exact bC (π := []) (hs := by first | exact hab | fail) | exact bC (π := []) (hs := by first | exact hba | fail) | fail)) ?_
            | fail)
          exact pD [] ⟨rfl, rfl⟩
      · refine sB Try.func7 Try.ntmps7 ?_
        repeat' (first
          | refine IOps_nil ?_
          | refine oS ?_
          | refine IOps_s rfl rfl ?_
          | refine oT ?_
          | refine IOps_s0 rfl ?_
          | refine oC (π := []) (hs := by first | exact awake_spec | fail) (hx := ?_)
          | refine oC (π := []) (hs := by first | exact hab | fail) (hx := ?_)
          | refine oC (π := []) (hs := by first | exact hba | fail) (hx := ?_)
          | refine oZ ?_
          | refine oI ?_
          | refine thenI_n ?_
          | refine IWP_seq ?_
          | refine IWP_region ?_
          | refine IWP_ct rfl ?_
          | refine IWP_cf rfl ?_
          | refine IWP_skip ?_
          | refine IWP_ret ?_
          | refine IWP_block ?_
          | refine inB_n ?_
          | refine thenI_r ?_
          | refine thenI_e ?_
          | refine inB_r ?_
          | refine inB_hit ?_
          | refine inB_miss rfl ?_
          | refine IWP_exit ?_
          | refine IWP_scope ?_
          | refine IWP_label ?_
          | refine noG_n ?_
          | refine noG_r ?_
          | refine noG_e ?_
          | refine jmp_n ?_
          | refine jmp_r ?_
          | refine jmp_e ?_
          | refine jmp_g ?_
          | refine thenI_g ?_
          | refine inB_g ?_
          | refine IWP_goto ?_
          | refine Loop_n ?_
          | refine oD (id := 3) W7_3 [] O7_3 [_, _, _, _, _, _, _, _, _, _, _, _, _, _, _, _, _, _] [_] rfl (by repeat' (first | exact trivial | refine And.intro ?_ ?_ | exact bS | exact bX | exact bZ | exact bI | exact bC (π := []) (hs := by first | exact awake_spec | fail) | exact bC (π := []) (hs := by first | exact hab | fail) | exact bC (π := []) (hs := by first | exact hba | fail) | fail)) ?_
          | fail)
        exact pD [] ⟨rfl, rfl⟩
  · have e2 := lessI_asym e1
    rw [e1] at hab
    rw [e2] at hba
    have hne : ¬ (a.id = b.id ∧ a.pri = b.pri ∧ a.seq = b.seq) := fun h => by
      simp only [lessI, decide_eq_true_eq] at e1; omega
    cases e3 : lessI b c
    · rw [e3] at hbc
      by_cases f1 : a.id = b.id
      · by_cases f2 : a.pri = b.pri
        · have f3 : a.seq ≠ b.seq := fun f3 => hne ⟨f1, f2, f3⟩
          refine sB Try.func7 Try.ntmps7 ?_
          repeat' (first
            | refine IOps_nil ?_
            | refine oS ?_
            | refine IOps_s rfl rfl ?_
            | refine oT ?_
            | refine IOps_s0 rfl ?_
            | refine oC (π := []) (hs := by first | exact awake_spec | fail) (hx := ?_)
            | refine oC (π := []) (hs := by first | exact hab | fail) (hx := ?_)
            | refine oC (π := []) (hs := by first | exact hba | fail) (hx := ?_)
            | refine oC (π := []) (hs := by first | exact hbc | fail) (hx := ?_)
            | refine oZ ?_
            | refine oI ?_
            | refine thenI_n ?_
            | refine IWP_seq ?_
            | refine IWP_region ?_
            | refine IWP_ct rfl ?_
            | refine IWP_cf rfl ?_
            | refine IWP_skip ?_
            | refine IWP_ret ?_
            | refine IWP_block ?_
            | refine inB_n ?_
            | refine thenI_r ?_
            | refine thenI_e ?_
            | refine inB_r ?_
            | refine inB_hit ?_
            | refine inB_miss rfl ?_
            | refine IWP_exit ?_
            | refine IWP_scope ?_
            | refine IWP_label ?_
            | refine noG_n ?_
            | refine noG_r ?_
            | refine noG_e ?_
            | refine jmp_n ?_
            | refine jmp_r ?_
            | refine jmp_e ?_
            | refine jmp_g ?_
            | refine thenI_g ?_
            | refine inB_g ?_
            | refine IWP_goto ?_
            | refine Loop_n ?_
            | refine oD (id := 3) W7_3 [] O7_3 [_, _, _, _, _, _, _, _, _, _, _, _, _, _, _, _, _, _] [_] rfl (by repeat' (first | exact trivial | refine And.intro ?_ ?_ | exact bS | exact bX | exact bZ | exact bI | exact bC (π := []) (hs := by first | exact awake_spec | fail) | exact bC (π := []) (hs := by first | exact hab | fail) | exact bC (π := []) (hs := by first | exact hba | fail) | exact bC (π := []) (hs := by first | exact hbc | fail) | fail)) ?_
            | fail)
          exact pD [] ⟨rfl, rfl⟩
        · refine sB Try.func7 Try.ntmps7 ?_
          repeat' (first
            | refine IOps_nil ?_
            | refine oS ?_
            | refine IOps_s rfl rfl ?_
            | refine oT ?_
            | refine IOps_s0 rfl ?_
            | refine oC (π := []) (hs := by first | exact awake_spec | fail) (hx := ?_)
            | refine oC (π := []) (hs := by first | exact hab | fail) (hx := ?_)
            | refine oC (π := []) (hs := by first | exact hba | fail) (hx := ?_)
            | refine oC (π := []) (hs := by first | exact hbc | fail) (hx := ?_)
            | refine oZ ?_
            | refine oI ?_
            | refine thenI_n ?_
            | refine IWP_seq ?_
            | refine IWP_region ?_
            | refine IWP_ct rfl ?_
            | refine IWP_cf rfl ?_
            | refine IWP_skip ?_
            | refine IWP_ret ?_
            | refine IWP_block ?_
            | refine inB_n ?_
            | refine thenI_r ?_
            | refine thenI_e ?_
            | refine inB_r ?_
            | refine inB_hit ?_
            | refine inB_miss rfl ?_
            | refine IWP_exit ?_
            | refine IWP_scope ?_
            | refine IWP_label ?_
            | refine noG_n ?_
            | refine noG_r ?_
            | refine noG_e ?_
            | refine jmp_n ?_
            | refine jmp_r ?_
            | refine jmp_e ?_
            | refine jmp_g ?_
            | refine thenI_g ?_
            | refine inB_g ?_
            | refine IWP_goto ?_
            | refine Loop_n ?_
            | refine oD (id := 3) W7_3 [] O7_3 [_, _, _, _, _, _, _, _, _, _, _, _, _, _, _, _, _, _] [_] rfl (by repeat' (first | exact trivial | refine And.intro ?_ ?_ | exact bS | exact bX | exact bZ | exact bI | exact bC (π := []) (hs := by first | exact awake_spec | fail) | exact bC (π := []) (hs := by first | exact hab | fail) | exact bC (π := []) (hs := by first | exact hba | fail) | exact bC (π := []) (hs := by first | exact hbc | fail) | fail)) ?_
            | fail)
          exact pD [] ⟨rfl, rfl⟩
      · refine sB Try.func7 Try.ntmps7 ?_
        repeat' (first
          | refine IOps_nil ?_
          | refine oS ?_
          | refine IOps_s rfl rfl ?_
          | refine oT ?_
          | refine IOps_s0 rfl ?_
          | refine oC (π := []) (hs := by first | exact awake_spec | fail) (hx := ?_)
          | refine oC (π := []) (hs := by first | exact hab | fail) (hx := ?_)
          | refine oC (π := []) (hs := by first | exact hba | fail) (hx := ?_)
          | refine oC (π := []) (hs := by first | exact hbc | fail) (hx := ?_)
          | refine oZ ?_
          | refine oI ?_
          | refine thenI_n ?_
          | refine IWP_seq ?_
          | refine IWP_region ?_
          | refine IWP_ct rfl ?_
          | refine IWP_cf rfl ?_
          | refine IWP_skip ?_
          | refine IWP_ret ?_
          | refine IWP_block ?_
          | refine inB_n ?_
          | refine thenI_r ?_
          | refine thenI_e ?_
          | refine inB_r ?_
          | refine inB_hit ?_
          | refine inB_miss rfl ?_
          | refine IWP_exit ?_
          | refine IWP_scope ?_
          | refine IWP_label ?_
          | refine noG_n ?_
          | refine noG_r ?_
          | refine noG_e ?_
          | refine jmp_n ?_
          | refine jmp_r ?_
          | refine jmp_e ?_
          | refine jmp_g ?_
          | refine thenI_g ?_
          | refine inB_g ?_
          | refine IWP_goto ?_
          | refine Loop_n ?_
          | refine oD (id := 3) W7_3 [] O7_3 [_, _, _, _, _, _, _, _, _, _, _, _, _, _, _, _, _, _] [_] rfl (by repeat' (first | exact trivial | refine And.intro ?_ ?_ | exact bS | exact bX | exact bZ | exact bI | exact bC (π := []) (hs := by first | exact awake_spec | fail) | exact bC (π := []) (hs := by first | exact hab | fail) | exact bC (π := []) (hs := by first | exact hba | fail) | exact bC (π := []) (hs := by first | exact hbc | fail) | fail)) ?_
          | fail)
        exact pD [] ⟨rfl, rfl⟩
    · rw [e3] at hbc
      rw [lessI_lt e1 e3] at hac
      by_cases f1 : a.id = b.id
      · by_cases f2 : a.pri = b.pri
        · have f3 : a.seq ≠ b.seq := fun f3 => hne ⟨f1, f2, f3⟩
          refine sB Try.func7 Try.ntmps7 ?_
          repeat' (first
            | refine IOps_nil ?_
            | refine oS ?_
            | refine IOps_s rfl rfl ?_
            | refine oT ?_
            | refine IOps_s0 rfl ?_
            | refine oC (π := []) (hs := by first | exact awake_spec | fail) (hx := ?_)
            | refine oC (π := []) (hs := by first | exact hab | fail) (hx := ?_)
            | refine oC (π := []) (hs := by first | exact hba | fail) (hx := ?_)
            | refine oC (π := []) (hs := by first | exact hbc | fail) (hx := ?_)
            | refine oC (π := []) (hs := by first | exact hac | fail) (hx := ?_)
            | refine oZ ?_
            | refine oI ?_
            | refine thenI_n ?_
            | refine IWP_seq ?_
            | refine IWP_region ?_
            | refine IWP_ct rfl ?_
            | refine IWP_cf rfl ?_
            | refine IWP_skip ?_
            | refine IWP_ret ?_
            | refine IWP_block ?_
            | refine inB_n ?_
            | refine thenI_r ?_
            | refine thenI_e ?_
            | refine inB_r ?_
            | refine inB_hit ?_
            | refine inB_miss rfl ?_
            | refine IWP_exit ?_
            | refine IWP_scope ?_
            | refine IWP_label ?_
            | refine noG_n ?_
            | refine noG_r ?_
            | refine noG_e ?_
            | refine jmp_n ?_
            | refine jmp_r ?_
            | refine jmp_e ?_
            | refine jmp_g ?_
            | refine thenI_g ?_
            | refine inB_g ?_
            | refine IWP_goto ?_
            | refine Loop_n ?_
            | refine oD (id := 3) W7_3 [] O7_3 [_, _, _, _, _, _, _, _, _, _, _, _, _, _, _, _, _, _] [_] rfl (by repeat' (first | exact trivial | refine And.intro ?_ ?_ | exact bS | exact bX | exact bZ | exact bI | exact bC (π := []) (hs := by first | exact awake_spec | fail) | exact bC (π := []) (hs := by first | exact hab | fail) | exact bC (π := []) (hs := by first | exact hba | fail) | exact bC (π := []) (hs := by first | exact hbc | fail) | exact bC (π := []) (hs := by first | exact hac | fail) | fail)) ?_
            | fail)
          exact pD [] ⟨rfl, rfl⟩
        · refine sB Try.func7 Try.ntmps7 ?_
          repeat' (first
            | refine IOps_nil ?_
            | refine oS ?_
            | refine IOps_s rfl rfl ?_
            | refine oT ?_
            | refine IOps_s0 rfl ?_
            | refine oC (π := []) (hs := by first | exact awake_spec | fail) (hx := ?_)
            | refine oC (π := []) (hs := by first | exact hab | fail) (hx := ?_)
            | refine oC (π := []) (hs := by first | exact hba | fail) (hx := ?_)
            | refine oC (π := []) (hs := by first | exact hbc | fail) (hx := ?_)
            | refine oC (π := []) (hs := by first | exact hac | fail) (hx := ?_)
            | refine oZ ?_
            | refine oI ?_
            | refine thenI_n ?_
            | refine IWP_seq ?_
            | refine IWP_region ?_
            | refine IWP_ct rfl ?_
            | refine IWP_cf rfl ?_
            | refine IWP_skip ?_
            | refine IWP_ret ?_
            | refine IWP_block ?_
            | refine inB_n ?_
            | refine thenI_r ?_
            | refine thenI_e ?_
            | refine inB_r ?_
            | refine inB_hit ?_
            | refine inB_miss rfl ?_
            | refine IWP_exit ?_
            | refine IWP_scope ?_
            | refine IWP_label ?_
            | refine noG_n ?_
            | refine noG_r ?_
            | refine noG_e ?_
            | refine jmp_n ?_
            | refine jmp_r ?_
            | refine jmp_e ?_
            | refine jmp_g ?_
            | refine thenI_g ?_
            | refine inB_g ?_
            | refine IWP_goto ?_
            | refine Loop_n ?_
            | refine oD (id := 3) W7_3 [] O7_3 [_, _, _, _, _, _, _, _, _, _, _, _, _, _, _, _, _, _] [_] rfl (by repeat' (first | exact trivial | refine And.intro ?_ ?_ | exact bS | exact bX | exact bZ | exact bI | exact bC (π := []) (hs := by first | exact awake_spec | fail) | exact bC (π := []) (hs := by first | exact hab | fail) | exact bC (π := []) (hs := by first | exact hba | fail) | exact bC (π := []) (hs := by first | exact hbc | fail) | exact bC (π := []) (hs := by first | exact hac | fail) | fail)) ?_
            | fail)
          exact pD [] ⟨rfl, rfl⟩
      · refine sB Try.func7 Try.ntmps7 ?_
        repeat' (first
          | refine IOps_nil ?_
          | refine oS ?_
          | refine IOps_s rfl rfl ?_
          | refine oT ?_
          | refine IOps_s0 rfl ?_
          | refine oC (π := []) (hs := by first | exact awake_spec | fail) (hx := ?_)
          | refine oC (π := []) (hs := by first | exact hab | fail) (hx := ?_)
          | refine oC (π := []) (hs := by first | exact hba | fail) (hx := ?_)
          | refine oC (π := []) (hs := by first | exact hbc | fail) (hx := ?_)
          | refine oC (π := []) (hs := by first | exact hac | fail) (hx := ?_)
          | refine oZ ?_
          | refine oI ?_
          | refine thenI_n ?_
          | refine IWP_seq ?_
          | refine IWP_region ?_
          | refine IWP_ct rfl ?_
          | refine IWP_cf rfl ?_
          | refine IWP_skip ?_
          | refine IWP_ret ?_
          | refine IWP_block ?_
          | refine inB_n ?_
          | refine thenI_r ?_
          | refine thenI_e ?_
          | refine inB_r ?_
          | refine inB_hit ?_
          | refine inB_miss rfl ?_
          | refine IWP_exit ?_
          | refine IWP_scope ?_
          | refine IWP_label ?_
          | refine noG_n ?_
          | refine noG_r ?_
          | refine noG_e ?_
          | refine jmp_n ?_
          | refine jmp_r ?_
          | refine jmp_e ?_
          | refine jmp_g ?_
          | refine thenI_g ?_
          | refine inB_g ?_
          | refine IWP_goto ?_
          | refine Loop_n ?_
          | refine oD (id := 3) W7_3 [] O7_3 [_, _, _, _, _, _, _, _, _, _, _, _, _, _, _, _, _, _] [_] rfl (by repeat' (first | exact trivial | refine And.intro ?_ ?_ | exact bS | exact bX | exact bZ | exact bI | exact bC (π := []) (hs := by first | exact awake_spec | fail) | exact bC (π := []) (hs := by first | exact hab | fail) | exact bC (π := []) (hs := by first | exact hba | fail) | exact bC (π := []) (hs := by first | exact hbc | fail) | exact bC (π := []) (hs := by first | exact hac | fail) | fail)) ?_
          | fail)
        exact pD [] ⟨rfl, rfl⟩
end Go.Proofs.Ytnlelckfhlcbgaa
