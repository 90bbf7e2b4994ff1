/-
  A table: a key put and deleted again; all keys.
-/
import Derived.Test.YtgchgdfigbonhaaTabL1
namespace Go.Proofs.Ytgchgdfigbonhaa
open Go Go.Idl
set_option linter.unusedSimpArgs false
set_option linter.unusedVariables false
set_option maxRecDepth 100000
set_option maxHeartbeats 8000000
theorem bl_of {a b : Ks} (h : cS a b < 0) : Op.bytesLess a b = true := by rw [← cS_lt]; exact decide_eq_true h
attribute [local irreducible] Go.Idl.IWP Go.Idl.IOps Go.Idl.Obl Go.Idl.OpG Go.Idl.thenI Go.Idl.inBlockI Go.Idl.LoopU Go.Idl.noGotoI Go.Idl.jumpI
attribute [local go_sem] List.length_set splice2 splice_places relab_fz1 bl_of
theorem back_law (l : List Ts) (k : Ks) (v : Int) (other : Ks) (hL : l.length ≤ 9223372036854775807) (hkL : k.length ≤ 9223372036854775807) (hoL : other.length ≤ 9223372036854775807) :
    Idl.Spec Try.prog 4 [.fz false (steps l) l.length, .sc (.string ⟨⟨k⟩⟩), .i64 v, .sc (.string ⟨⟨other⟩⟩)] [] (Only (.sc (.bool true)) []) := by
  have hfs := few_spec l 60 hL
  by_cases hf : fewP l 60
  · rw [decide_eq_true hf] at hfs
    by_cases hk1 : k.length ≤ 100
    · by_cases ho1 : other.length ≤ 100
      · refine sB Try.func4 Try.ntmps4 ?_
        repeat' (first
          | refine IOps_nil ?_
          | refine oS ?_
          | refine IOps_s rfl rfl ?_
          | refine oT ?_
          | refine IOps_s0 rfl ?_
          | refine oC (π := []) (hs := by first | exact table_awake | fail) (hx := ?_)
          | refine oC (π := []) (hs := by first | exact hfs | fail) (hx := ?_)
          | refine oC (π := []) (hs := by first | exact new_spec | fail) (hx := ?_)
          | refine oZ ?_
          | refine oI ?_
          | refine thenI_n ?_
          | refine IWP_seq ?_
          | refine IWP_region ?_
          | refine IWP_ct rfl ?_
          | refine IWP_cf rfl ?_
          | refine IWP_skip ?_
          | refine IWP_ret ?_
          | refine IWP_block ?_
          | refine inB_n ?_
          | refine thenI_r ?_
          | refine thenI_e ?_
          | refine inB_r ?_
          | refine inB_hit ?_
          | refine inB_miss rfl ?_
          | refine IWP_exit ?_
          | refine IWP_scope ?_
          | refine IWP_label ?_
          | refine noG_n ?_
          | refine noG_r ?_
          | refine noG_e ?_
          | refine jmp_n ?_
          | refine jmp_r ?_
          | refine jmp_e ?_
          | refine jmp_g ?_
          | refine thenI_g ?_
          | refine inB_g ?_
          | refine IWP_goto ?_
          | refine Loop_n ?_
          | fail)
        refine IWP_loop (fun x : List Pl × Nat => ⟨116, [(0, .fz false (steps l) l.length), (1, .sc (.string ⟨⟨k⟩⟩)), (2, .i64 v), (3, .sc (.string ⟨⟨other⟩⟩)), (8, .sc (.bool false)), (9, .sc (.bool true)), (10, .fz true (places x.1) x.1.length), (11, .i64 x.2)], []⟩)
          (fun x => OkT x.1 ∧ held x.1 ≤ x.2 ∧ x.2 ≤ l.length) (fun x => l.length - x.2) (noT, 0) (lP []) ⟨noT_ok, by rw [noT_held]; exact Nat.zero_le _, Nat.zero_le _⟩ ?_
        rintro ⟨x, i⟩ ⟨ho, hh, hi⟩
        simp only at ho hh hi ⊢
        have hxl := ho.len
        have hl60 : (l.length : Int) ≤ 60 := hf.2
        by_cases h : i < l.length
        · have hkl := hf.1 i h
          have hdo := tdo_spec x (l.getD i default) (by omega) (by omega)
          obtain ⟨so, sf⟩ := step_ok ho (l.getD i default)
          generalize stepT x (l.getD i default) = r at hdo so sf
          obtain ⟨m, e⟩ := r
          simp only at so sf
          repeat' (first
            | refine IOps_nil ?_
            | refine oS ?_
            | refine IOps_s rfl rfl ?_
            | refine oT ?_
            | refine IOps_s0 rfl ?_
            | refine oC (π := []) (hs := by first | exact hdo | fail) (hx := ?_)
            | refine oZ ?_
            | refine oI ?_
            | refine thenI_n ?_
            | refine IWP_seq ?_
            | refine IWP_region ?_
            | refine IWP_ct rfl ?_
            | refine IWP_cf rfl ?_
            | refine IWP_skip ?_
            | refine IWP_ret ?_
            | refine IWP_block ?_
            | refine inB_n ?_
            | refine thenI_r ?_
            | refine thenI_e ?_
            | refine inB_r ?_
            | refine inB_hit ?_
            | refine inB_miss rfl ?_
            | refine IWP_exit ?_
            | refine IWP_scope ?_
            | refine IWP_label ?_
            | refine noG_n ?_
            | refine noG_r ?_
            | refine noG_e ?_
            | refine jmp_n ?_
            | refine jmp_r ?_
            | refine jmp_e ?_
            | refine jmp_g ?_
            | refine thenI_g ?_
            | refine inB_g ?_
            | refine IWP_goto ?_
            | refine Loop_n ?_
            | fail)
          exact ⟨(m, i + 1), ⟨so, by simp only; omega, h⟩, by simp only; omega, lP []⟩
        · have hhs := had_spec x k (by omega) (by omega)
          rw [getT_of ho] at hhs
          have hps := tput_spec x k v (by omega)
          have hsm := psame_spec x x (by omega)
          rw [decide_eq_true (rfl : x = x)] at hsm
          cases hg : (getV x k).2
          · rw [hg] at hhs
            by_cases hko : keyOk k
            · obtain ⟨m, p1, p2, p3⟩ := put_del ho (v := v) hko hg (by omega)
              rw [p1] at hps
              have hml := p2.ok.len
              have hds := tdel_spec m k (by omega) (by omega)
              rw [p3] at hds
              have hg1 := tget_spec x other (by omega) (by omega)
              have hg2 := tget_spec m other (by omega) (by omega)
              rw [getT_of ho] at hg1
              rw [getT_of p2.ok] at hg2
              by_cases hok : other = k
              · repeat' (first
                  | refine IOps_nil ?_
                  | refine oS ?_
                  | refine IOps_s rfl rfl ?_
                  | refine oT ?_
                  | refine IOps_s0 rfl ?_
                  | refine oC (π := []) (hs := by first | exact hhs | fail) (hx := ?_)
                  | refine oC (π := []) (hs := by first | exact hps | fail) (hx := ?_)
                  | refine oC (π := []) (hs := by first | exact hds | fail) (hx := ?_)
                  | refine oC (π := []) (hs := by first | exact hg1 | fail) (hx := ?_)
                  | refine oC (π := []) (hs := by first | exact hg2 | fail) (hx := ?_)
                  | refine oC (π := []) (hs := by first | exact hsm | fail) (hx := ?_)
                  | refine oZ ?_
                  | refine oI ?_
                  | refine thenI_n ?_
                  | refine IWP_seq ?_
                  | refine IWP_region ?_
                  | refine IWP_ct rfl ?_
                  | refine IWP_cf rfl ?_
                  | refine IWP_skip ?_
                  | refine IWP_ret ?_
                  | refine IWP_block ?_
                  | refine inB_n ?_
                  | refine thenI_r ?_
                  | refine thenI_e ?_
                  | refine inB_r ?_
                  | refine inB_hit ?_
                  | refine inB_miss rfl ?_
                  | refine IWP_exit ?_
                  | refine IWP_scope ?_
                  | refine IWP_label ?_
                  | refine noG_n ?_
                  | refine noG_r ?_
                  | refine noG_e ?_
                  | refine jmp_n ?_
                  | refine jmp_r ?_
                  | refine jmp_e ?_
                  | refine jmp_g ?_
                  | refine thenI_g ?_
                  | refine inB_g ?_
                  | refine IWP_goto ?_
                  | refine Loop_n ?_
                  | fail)
                exact pD [] ⟨rfl, rfl⟩
              · rw [ins_ne ho p2 hok] at hg2
                generalize getV x other = w at hg1 hg2
                obtain ⟨w1, w2⟩ := w
                cases w2
                · repeat' (first
                    | refine IOps_nil ?_
                    | refine oS ?_
                    | refine IOps_s rfl rfl ?_
                    | refine oT ?_
                    | refine IOps_s0 rfl ?_
                    | refine oC (π := []) (hs := by first | exact hhs | fail) (hx := ?_)
                    | refine oC (π := []) (hs := by first | exact hps | fail) (hx := ?_)
                    | refine oC (π := []) (hs := by first | exact hds | fail) (hx := ?_)
                    | refine oC (π := []) (hs := by first | exact hg1 | fail) (hx := ?_)
                    | refine oC (π := []) (hs := by first | exact hg2 | fail) (hx := ?_)
                    | refine oC (π := []) (hs := by first | exact hsm | fail) (hx := ?_)
                    | refine oZ ?_
                    | refine oI ?_
                    | refine thenI_n ?_
                    | refine IWP_seq ?_
                    | refine IWP_region ?_
                    | refine IWP_ct rfl ?_
                    | refine IWP_cf rfl ?_
                    | refine IWP_skip ?_
                    | refine IWP_ret ?_
                    | refine IWP_block ?_
                    | refine inB_n ?_
                    | refine thenI_r ?_
                    | refine thenI_e ?_
                    | refine inB_r ?_
                    | refine inB_hit ?_
                    | refine inB_miss rfl ?_
                    | refine IWP_exit ?_
                    | refine IWP_scope ?_
                    | refine IWP_label ?_
                    | refine noG_n ?_
                    | refine noG_r ?_
                    | refine noG_e ?_
                    | refine jmp_n ?_
                    | refine jmp_r ?_
                    | refine jmp_e ?_
                    | refine jmp_g ?_
                    | refine thenI_g ?_
                    | refine inB_g ?_
                    | refine IWP_goto ?_
                    | refine Loop_n ?_
                    | fail)
                  exact pD [] ⟨rfl, rfl⟩
                · repeat' (first
                    | refine IOps_nil ?_
                    | refine oS ?_
                    | refine IOps_s rfl rfl ?_
                    | refine oT ?_
                    | refine IOps_s0 rfl ?_
                    | refine oC (π := []) (hs := by first | exact hhs | fail) (hx := ?_)
                    | refine oC (π := []) (hs := by first | exact hps | fail) (hx := ?_)
                    | refine oC (π := []) (hs := by first | exact hds | fail) (hx := ?_)
                    | refine oC (π := []) (hs := by first | exact hg1 | fail) (hx := ?_)
                    | refine oC (π := []) (hs := by first | exact hg2 | fail) (hx := ?_)
                    | refine oC (π := []) (hs := by first | exact hsm | fail) (hx := ?_)
                    | refine oZ ?_
                    | refine oI ?_
                    | refine thenI_n ?_
                    | refine IWP_seq ?_
                    | refine IWP_region ?_
                    | refine IWP_ct rfl ?_
                    | refine IWP_cf rfl ?_
                    | refine IWP_skip ?_
                    | refine IWP_ret ?_
                    | refine IWP_block ?_
                    | refine inB_n ?_
                    | refine thenI_r ?_
                    | refine thenI_e ?_
                    | refine inB_r ?_
                    | refine inB_hit ?_
                    | refine inB_miss rfl ?_
                    | refine IWP_exit ?_
                    | refine IWP_scope ?_
                    | refine IWP_label ?_
                    | refine noG_n ?_
                    | refine noG_r ?_
                    | refine noG_e ?_
                    | refine jmp_n ?_
                    | refine jmp_r ?_
                    | refine jmp_e ?_
                    | refine jmp_g ?_
                    | refine thenI_g ?_
                    | refine inB_g ?_
                    | refine IWP_goto ?_
                    | refine Loop_n ?_
                    | fail)
                  exact pD [] ⟨rfl, rfl⟩
            · rw [put_bad ho v hko] at hps
              repeat' (first
                | refine IOps_nil ?_
                | refine oS ?_
                | refine IOps_s rfl rfl ?_
                | refine oT ?_
                | refine IOps_s0 rfl ?_
                | refine oC (π := []) (hs := by first | exact hhs | fail) (hx := ?_)
                | refine oC (π := []) (hs := by first | exact hps | fail) (hx := ?_)
                | refine oC (π := []) (hs := by first | exact hsm | fail) (hx := ?_)
                | refine oZ ?_
                | refine oI ?_
                | refine thenI_n ?_
                | refine IWP_seq ?_
                | refine IWP_region ?_
                | refine IWP_ct rfl ?_
                | refine IWP_cf rfl ?_
                | refine IWP_skip ?_
                | refine IWP_ret ?_
                | refine IWP_block ?_
                | refine inB_n ?_
                | refine thenI_r ?_
                | refine thenI_e ?_
                | refine inB_r ?_
                | refine inB_hit ?_
                | refine inB_miss rfl ?_
                | refine IWP_exit ?_
                | refine IWP_scope ?_
                | refine IWP_label ?_
                | refine noG_n ?_
                | refine noG_r ?_
                | refine noG_e ?_
                | refine jmp_n ?_
                | refine jmp_r ?_
                | refine jmp_e ?_
                | refine jmp_g ?_
                | refine thenI_g ?_
                | refine inB_g ?_
                | refine IWP_goto ?_
                | refine Loop_n ?_
                | fail)
              exact pD [] ⟨rfl, rfl⟩
          · rw [hg] at hhs
            repeat' (first
              | refine IOps_nil ?_
              | refine oS ?_
              | refine IOps_s rfl rfl ?_
              | refine oT ?_
              | refine IOps_s0 rfl ?_
              | refine oC (π := []) (hs := by first | exact hhs | fail) (hx := ?_)
              | refine oZ ?_
              | refine oI ?_
              | refine thenI_n ?_
              | refine IWP_seq ?_
              | refine IWP_region ?_
              | refine IWP_ct rfl ?_
              | refine IWP_cf rfl ?_
              | refine IWP_skip ?_
              | refine IWP_ret ?_
              | refine IWP_block ?_
              | refine inB_n ?_
              | refine thenI_r ?_
              | refine thenI_e ?_
              | refine inB_r ?_
              | refine inB_hit ?_
              | refine inB_miss rfl ?_
              | refine IWP_exit ?_
              | refine IWP_scope ?_
              | refine IWP_label ?_
              | refine noG_n ?_
              | refine noG_r ?_
              | refine noG_e ?_
              | refine jmp_n ?_
              | refine jmp_r ?_
              | refine jmp_e ?_
              | refine jmp_g ?_
              | refine thenI_g ?_
              | refine inB_g ?_
              | refine IWP_goto ?_
              | refine Loop_n ?_
              | fail)
            exact pD [] ⟨rfl, rfl⟩
      · refine sB Try.func4 Try.ntmps4 ?_
        repeat' (first
          | refine IOps_nil ?_
          | refine oS ?_
          | refine IOps_s rfl rfl ?_
          | refine oT ?_
          | refine IOps_s0 rfl ?_
          | refine oC (π := []) (hs := by first | exact table_awake | fail) (hx := ?_)
          | refine oC (π := []) (hs := by first | exact hfs | fail) (hx := ?_)
          | refine oZ ?_
          | refine oI ?_
          | refine thenI_n ?_
          | refine IWP_seq ?_
          | refine IWP_region ?_
          | refine IWP_ct rfl ?_
          | refine IWP_cf rfl ?_
          | refine IWP_skip ?_
          | refine IWP_ret ?_
          | refine IWP_block ?_
          | refine inB_n ?_
          | refine thenI_r ?_
          | refine thenI_e ?_
          | refine inB_r ?_
          | refine inB_hit ?_
          | refine inB_miss rfl ?_
          | refine IWP_exit ?_
          | refine IWP_scope ?_
          | refine IWP_label ?_
          | refine noG_n ?_
          | refine noG_r ?_
          | refine noG_e ?_
          | refine jmp_n ?_
          | refine jmp_r ?_
          | refine jmp_e ?_
          | refine jmp_g ?_
          | refine thenI_g ?_
          | refine inB_g ?_
          | refine IWP_goto ?_
          | refine Loop_n ?_
          | fail)
        exact pD [] ⟨rfl, rfl⟩
    · refine sB Try.func4 Try.ntmps4 ?_
      repeat' (first
        | refine IOps_nil ?_
        | refine oS ?_
        | refine IOps_s rfl rfl ?_
        | refine oT ?_
        | refine IOps_s0 rfl ?_
        | refine oC (π := []) (hs := by first | exact table_awake | fail) (hx := ?_)
        | refine oC (π := []) (hs := by first | exact hfs | fail) (hx := ?_)
        | refine oZ ?_
        | refine oI ?_
        | refine thenI_n ?_
        | refine IWP_seq ?_
        | refine IWP_region ?_
        | refine IWP_ct rfl ?_
        | refine IWP_cf rfl ?_
        | refine IWP_skip ?_
        | refine IWP_ret ?_
        | refine IWP_block ?_
        | refine inB_n ?_
        | refine thenI_r ?_
        | refine thenI_e ?_
        | refine inB_r ?_
        | refine inB_hit ?_
        | refine inB_miss rfl ?_
        | refine IWP_exit ?_
        | refine IWP_scope ?_
        | refine IWP_label ?_
        | refine noG_n ?_
        | refine noG_r ?_
        | refine noG_e ?_
        | refine jmp_n ?_
        | refine jmp_r ?_
        | refine jmp_e ?_
        | refine jmp_g ?_
        | refine thenI_g ?_
        | refine inB_g ?_
        | refine IWP_goto ?_
        | refine Loop_n ?_
        | fail)
      exact pD [] ⟨rfl, rfl⟩
  · rw [decide_eq_false hf] at hfs
    refine sB Try.func4 Try.ntmps4 ?_
    repeat' (first
      | refine IOps_nil ?_
      | refine oS ?_
      | refine IOps_s rfl rfl ?_
      | refine oT ?_
      | refine IOps_s0 rfl ?_
      | refine oC (π := []) (hs := by first | exact table_awake | fail) (hx := ?_)
      | refine oC (π := []) (hs := by first | exact hfs | fail) (hx := ?_)
      | refine oZ ?_
      | refine oI ?_
      | refine thenI_n ?_
      | refine IWP_seq ?_
      | refine IWP_region ?_
      | refine IWP_ct rfl ?_
      | refine IWP_cf rfl ?_
      | refine IWP_skip ?_
      | refine IWP_ret ?_
      | refine IWP_block ?_
      | refine inB_n ?_
      | refine thenI_r ?_
      | refine thenI_e ?_
      | refine inB_r ?_
      | refine inB_hit ?_
      | refine inB_miss rfl ?_
      | refine IWP_exit ?_
      | refine IWP_scope ?_
      | refine IWP_label ?_
      | refine noG_n ?_
      | refine noG_r ?_
      | refine noG_e ?_
      | refine jmp_n ?_
      | refine jmp_r ?_
      | refine jmp_e ?_
      | refine jmp_g ?_
      | refine thenI_g ?_
      | refine inB_g ?_
      | refine IWP_goto ?_
      | refine Loop_n ?_
      | fail)
    exact pD [] ⟨rfl, rfl⟩
theorem keys_law (l : List Ts) (hL : l.length ≤ 9223372036854775807) : Idl.Spec Try.prog 6 [.fz false (steps l) l.length] [] (Only (.sc (.bool true)) []) := by
  have hfs := few_spec l 60 hL
  by_cases hf : fewP l 60
  · rw [decide_eq_true hf] at hfs
    refine sB Try.func6 Try.ntmps6 ?_
    repeat' (first
      | refine IOps_nil ?_
      | refine oS ?_
      | refine IOps_s rfl rfl ?_
      | refine oT ?_
      | refine IOps_s0 rfl ?_
      | refine oC (π := []) (hs := by first | exact table_awake | fail) (hx := ?_)
      | refine oC (π := []) (hs := by first | exact hfs | fail) (hx := ?_)
      | refine oC (π := []) (hs := by first | exact new_spec | fail) (hx := ?_)
      | refine oZ ?_
      | refine oI ?_
      | refine thenI_n ?_
      | refine IWP_seq ?_
      | refine IWP_region ?_
      | refine IWP_ct rfl ?_
      | refine IWP_cf rfl ?_
      | refine IWP_skip ?_
      | refine IWP_ret ?_
      | refine IWP_block ?_
      | refine inB_n ?_
      | refine thenI_r ?_
      | refine thenI_e ?_
      | refine inB_r ?_
      | refine inB_hit ?_
      | refine inB_miss rfl ?_
      | refine IWP_exit ?_
      | refine IWP_scope ?_
      | refine IWP_label ?_
      | refine noG_n ?_
      | refine noG_r ?_
      | refine noG_e ?_
      | refine jmp_n ?_
      | refine jmp_r ?_
      | refine jmp_e ?_
      | refine jmp_g ?_
      | refine thenI_g ?_
      | refine inB_g ?_
      | refine IWP_goto ?_
      | refine Loop_n ?_
      | refine oD (id := 20) W6_20 [] O6_20 [_, _, _, _, _, _, _, _, _, _, _, _, _, _, _, _, _, _, _, _, _, _, _, _, _, _, _, _, _, _, _] [_] rfl (by repeat' (first | exact trivial | refine And.intro ?_ ?_ | exact bS | exact bX | exact bZ | exact bI | exact bC (π := []) (hs := by first | exact table_awake | fail) | exact bC (π := []) (hs := by first | exact hfs | fail) | exact bC (π := []) (hs := by first | exact new_spec | fail) | fail)) ?_
      | fail)
    refine IWP_loop (fun x : List Pl × Nat => ⟨94, [(0, .fz false (steps l) l.length), (2, .sc (.bool false)), (3, .sc (.bool true)), (4, .fz true (places x.1) x.1.length), (5, .i64 x.2)], []⟩)
      (fun x => OkT x.1 ∧ held x.1 ≤ x.2 ∧ x.2 ≤ l.length) (fun x => l.length - x.2) (noT, 0) (lP []) ⟨noT_ok, by rw [noT_held]; exact Nat.zero_le _, Nat.zero_le _⟩ ?_
    rintro ⟨x, i⟩ ⟨ho, hh, hi⟩
    simp only at ho hh hi ⊢
    have hxl := ho.len
    have hl60 : (l.length : Int) ≤ 60 := hf.2
    by_cases h : i < l.length
    · have hkl := hf.1 i h
      have hdo := tdo_spec x (l.getD i default) (by omega) (by omega)
      obtain ⟨so, sf⟩ := step_ok ho (l.getD i default)
      generalize stepT x (l.getD i default) = r at hdo so sf
      obtain ⟨m, e⟩ := r
      simp only at so sf
      repeat' (first
        | refine IOps_nil ?_
        | refine oS ?_
        | refine IOps_s rfl rfl ?_
        | refine oT ?_
        | refine IOps_s0 rfl ?_
        | refine oC (π := []) (hs := by first | exact hdo | fail) (hx := ?_)
        | refine oZ ?_
        | refine oI ?_
        | refine thenI_n ?_
        | refine IWP_seq ?_
        | refine IWP_region ?_
        | refine IWP_ct rfl ?_
        | refine IWP_cf rfl ?_
        | refine IWP_skip ?_
        | refine IWP_ret ?_
        | refine IWP_block ?_
        | refine inB_n ?_
        | refine thenI_r ?_
        | refine thenI_e ?_
        | refine inB_r ?_
        | refine inB_hit ?_
        | refine inB_miss rfl ?_
        | refine IWP_exit ?_
        | refine IWP_scope ?_
        | refine IWP_label ?_
        | refine noG_n ?_
        | refine noG_r ?_
        | refine noG_e ?_
        | refine jmp_n ?_
        | refine jmp_r ?_
        | refine jmp_e ?_
        | refine jmp_g ?_
        | refine thenI_g ?_
        | refine inB_g ?_
        | refine IWP_goto ?_
        | refine Loop_n ?_
        | refine oD (id := 20) W6_20 [] O6_20 [_, _, _, _, _, _, _, _, _, _, _, _, _, _, _, _, _, _, _, _, _, _, _, _, _, _, _, _, _, _, _] [_] rfl (by repeat' (first | exact trivial | refine And.intro ?_ ?_ | exact bS | exact bX | exact bZ | exact bI | exact bC (π := []) (hs := by first | exact hdo | fail) | fail)) ?_
        | fail)
      exact ⟨(m, i + 1), ⟨so, by simp only; omega, h⟩, by simp only; omega, lP []⟩
    · have hys := tkeys_fz x (by omega)
      have hyl := keysV_len (chk_ok ho)
      have hup := keys_up ho
      have hmem := keys_mem ho
      generalize keysV x = K at hys hyl hup hmem
      repeat' (first
        | refine IOps_nil ?_
        | refine oS ?_
        | refine IOps_s rfl rfl ?_
        | refine oT ?_
        | refine IOps_s0 rfl ?_
        | refine oC (π := []) (hs := by first | exact hys | fail) (hx := ?_)
        | refine oZ ?_
        | refine oI ?_
        | refine thenI_n ?_
        | refine IWP_seq ?_
        | refine IWP_region ?_
        | refine IWP_ct rfl ?_
        | refine IWP_cf rfl ?_
        | refine IWP_skip ?_
        | refine IWP_ret ?_
        | refine IWP_block ?_
        | refine inB_n ?_
        | refine thenI_r ?_
        | refine thenI_e ?_
        | refine inB_r ?_
        | refine inB_hit ?_
        | refine inB_miss rfl ?_
        | refine IWP_exit ?_
        | refine IWP_scope ?_
        | refine IWP_label ?_
        | refine noG_n ?_
        | refine noG_r ?_
        | refine noG_e ?_
        | refine jmp_n ?_
        | refine jmp_r ?_
        | refine jmp_e ?_
        | refine jmp_g ?_
        | refine thenI_g ?_
        | refine inB_g ?_
        | refine IWP_goto ?_
        | refine Loop_n ?_
        | refine oD (id := 20) W6_20 [] O6_20 [_, _, _, _, _, _, _, _, _, _, _, _, _, _, _, _, _, _, _, _, _, _, _, _, _, _, _, _, _, _, _] [_] rfl (by repeat' (first | exact trivial | refine And.intro ?_ ?_ | exact bS | exact bX | exact bZ | exact bI | exact bC (π := []) (hs := by first | exact hys | fail) | fail)) ?_
        | fail)
      refine IWP_loop (fun y : Nat × Nat => ⟨94, [(2, .sc (.bool false)), (3, .sc (.bool true)), (4, .fz true (places x) x.length), (8, .fz true (strs K) K.length), (9, .i64 y.1), (10, .i64 y.2)], []⟩)
        (fun y => y.2 ≤ x.length ∧ y.1 = held (x.take y.2)) (fun y => x.length - y.2) (0, 0) (lP []) ⟨Nat.zero_le _, rfl⟩ ?_
      rintro ⟨n, j⟩ ⟨hj, hn⟩
      simp only at hj hn ⊢
      have hnl : n ≤ j := by rw [hn]; exact Nat.le_trans (held_le _) (by rw [List.length_take]; omega)
      by_cases h2 : j < x.length
      · have hht := held_take h2
        by_cases hk : (x.getD j default).key = []
        · rw [if_neg (fun z => z hk), ← hn] at hht
          repeat' (first
            | refine IOps_nil ?_
            | refine oS ?_
            | refine IOps_s rfl rfl ?_
            | refine oT ?_
            | refine IOps_s0 rfl ?_
            | refine oZ ?_
            | refine oI ?_
            | refine thenI_n ?_
            | refine IWP_seq ?_
            | refine IWP_region ?_
            | refine IWP_ct rfl ?_
            | refine IWP_cf rfl ?_
            | refine IWP_skip ?_
            | refine IWP_ret ?_
            | refine IWP_block ?_
            | refine inB_n ?_
            | refine thenI_r ?_
            | refine thenI_e ?_
            | refine inB_r ?_
            | refine inB_hit ?_
            | refine inB_miss rfl ?_
            | refine IWP_exit ?_
            | refine IWP_scope ?_
            | refine IWP_label ?_
            | refine noG_n ?_
            | refine noG_r ?_
            | refine noG_e ?_
            | refine jmp_n ?_
            | refine jmp_r ?_
            | refine jmp_e ?_
            | refine jmp_g ?_
            | refine thenI_g ?_
            | refine inB_g ?_
            | refine IWP_goto ?_
            | refine Loop_n ?_
            | refine oD (id := 20) W6_20 [] O6_20 [_, _, _, _, _, _, _, _, _, _, _, _, _, _, _, _, _, _, _, _, _, _, _, _, _, _, _, _, _, _, _] [_] rfl (by repeat' (first | exact trivial | refine And.intro ?_ ?_ | exact bS | exact bX | exact bZ | exact bI | fail)) ?_
            | fail)
          exact ⟨(n, j + 1), ⟨h2, hht.symm⟩, by simp only; omega, lP []⟩
        · rw [if_pos hk, ← hn] at hht
          repeat' (first
            | refine IOps_nil ?_
            | refine oS ?_
            | refine IOps_s rfl rfl ?_
            | refine oT ?_
            | refine IOps_s0 rfl ?_
            | refine oZ ?_
            | refine oI ?_
            | refine thenI_n ?_
            | refine IWP_seq ?_
            | refine IWP_region ?_
            | refine IWP_ct rfl ?_
            | refine IWP_cf rfl ?_
            | refine IWP_skip ?_
            | refine IWP_ret ?_
            | refine IWP_block ?_
            | refine inB_n ?_
            | refine thenI_r ?_
            | refine thenI_e ?_
            | refine inB_r ?_
            | refine inB_hit ?_
            | refine inB_miss rfl ?_
            | refine IWP_exit ?_
            | refine IWP_scope ?_
            | refine IWP_label ?_
            | refine noG_n ?_
            | refine noG_r ?_
            | refine noG_e ?_
            | refine jmp_n ?_
            | refine jmp_r ?_
            | refine jmp_e ?_
            | refine jmp_g ?_
            | refine thenI_g ?_
            | refine inB_g ?_
            | refine IWP_goto ?_
            | refine Loop_n ?_
            | refine oD (id := 20) W6_20 [] O6_20 [_, _, _, _, _, _, _, _, _, _, _, _, _, _, _, _, _, _, _, _, _, _, _, _, _, _, _, _, _, _, _] [_] rfl (by repeat' (first | exact trivial | refine And.intro ?_ ?_ | exact bS | exact bX | exact bZ | exact bI | fail)) ?_
            | fail)
          exact ⟨(n + 1, j + 1), ⟨h2, hht.symm⟩, by simp only; omega, lP []⟩
      · obtain rfl : j = x.length := by omega
        rw [List.take_length, ← hyl] at hn
        subst hn
        repeat' (first
          | refine IOps_nil ?_
          | refine oS ?_
          | refine IOps_s rfl rfl ?_
          | refine oT ?_
          | refine IOps_s0 rfl ?_
          | refine oZ ?_
          | refine oI ?_
          | refine thenI_n ?_
          | refine IWP_seq ?_
          | refine IWP_region ?_
          | refine IWP_ct rfl ?_
          | refine IWP_cf rfl ?_
          | refine IWP_skip ?_
          | refine IWP_ret ?_
          | refine IWP_block ?_
          | refine inB_n ?_
          | refine thenI_r ?_
          | refine thenI_e ?_
          | refine inB_r ?_
          | refine inB_hit ?_
          | refine inB_miss rfl ?_
          | refine IWP_exit ?_
          | refine IWP_scope ?_
          | refine IWP_label ?_
          | refine noG_n ?_
          | refine noG_r ?_
          | refine noG_e ?_
          | refine jmp_n ?_
          | refine jmp_r ?_
          | refine jmp_e ?_
          | refine jmp_g ?_
          | refine thenI_g ?_
          | refine inB_g ?_
          | refine IWP_goto ?_
          | refine Loop_n ?_
          | refine oD (id := 20) W6_20 [] O6_20 [_, _, _, _, _, _, _, _, _, _, _, _, _, _, _, _, _, _, _, _, _, _, _, _, _, _, _, _, _, _, _] [_] rfl (by repeat' (first | exact trivial | refine And.intro ?_ ?_ | exact bS | exact bX | exact bZ | exact bI | fail)) ?_
          | fail)
        refine IWP_loop (fun q : Nat => ⟨94, [(2, .sc (.bool false)), (3, .sc (.bool true)), (4, .fz true (places x) x.length), (8, .fz true (strs K) K.length), (9, .i64 K.length), (11, .i64 q)], []⟩)
          (fun q => q ≤ K.length) (fun q => K.length - q) 0 (lP []) (Nat.zero_le _) ?_
        rintro q hq
        by_cases h3 : q < K.length
        · obtain ⟨hne, w, hw⟩ := (hmem (K.getD q [])).1 (by rw [List.getD_eq_getElem?_getD, List.getElem?_eq_getElem h3]; exact List.getElem_mem h3)
          have hgv := get_mem ho hne hw
          have hko : keyOk (K.getD q []) := by
            obtain ⟨p, hp, e⟩ := ho.mem.1 hw
            have ek : ky x p = K.getD q [] := by unfold ky; rw [e]
            rw [← ek]; exact ho.key p hp (by rw [ek]; exact hne)
          have hhs := had_spec x (K.getD q []) (by omega) (by have := hko.2; omega)
          rw [getT_of ho, hgv] at hhs
          have hks := key_spec (K.getD q [])
          rw [decide_eq_true hko] at hks
          by_cases hq0 : 0 < q
          · have hlt : cS (K.getD (q - 1) []) (K.getD q []) < 0 := by
              rw [List.pairwise_iff_getElem] at hup
              have := hup (q - 1) q (by omega) h3 (by omega)
              simpa [List.getD_eq_getElem?_getD, h3, show q - 1 < K.length by omega] using this
            repeat' (first
              | refine IOps_nil ?_
              | refine oS ?_
              | refine IOps_s rfl rfl ?_
              | refine oT ?_
              | refine IOps_s0 rfl ?_
              | refine oC (π := []) (hs := by first | exact hhs | fail) (hx := ?_)
              | refine oC (π := []) (hs := by first | exact hks | fail) (hx := ?_)
              | refine oZ ?_
              | refine oI ?_
              | refine thenI_n ?_
              | refine IWP_seq ?_
              | refine IWP_region ?_
              | refine IWP_ct rfl ?_
              | refine IWP_cf rfl ?_
              | refine IWP_skip ?_
              | refine IWP_ret ?_
              | refine IWP_block ?_
              | refine inB_n ?_
              | refine thenI_r ?_
              | refine thenI_e ?_
              | refine inB_r ?_
              | refine inB_hit ?_
              | refine inB_miss rfl ?_
              | refine IWP_exit ?_
              | refine IWP_scope ?_
              | refine IWP_label ?_
              | refine noG_n ?_
              | refine noG_r ?_
              | refine noG_e ?_
              | refine jmp_n ?_
              | refine jmp_r ?_
              | refine jmp_e ?_
              | refine jmp_g ?_
              | refine thenI_g ?_
              | refine inB_g ?_
              | refine IWP_goto ?_
              | refine Loop_n ?_
              | refine oD (id := 20) W6_20 [] O6_20 [_, _, _, _, _, _, _, _, _, _, _, _, _, _, _, _, _, _, _, _, _, _, _, _, _, _, _, _, _, _, _] [_] rfl (by repeat' (first | exact trivial | refine And.intro ?_ ?_ | exact bS | exact bX | exact bZ | exact bI | exact bC (π := []) (hs := by first | exact hhs | fail) | exact bC (π := []) (hs := by first | exact hks | fail) | fail)) ?_
              | fail)
            exact ⟨q + 1, by omega, by omega, lP []⟩
          · repeat' (first
              | refine IOps_nil ?_
              | refine oS ?_
              | refine IOps_s rfl rfl ?_
              | refine oT ?_
              | refine IOps_s0 rfl ?_
              | refine oC (π := []) (hs := by first | exact hhs | fail) (hx := ?_)
              | refine oC (π := []) (hs := by first | exact hks | fail) (hx := ?_)
              | refine oZ ?_
              | refine oI ?_
              | refine thenI_n ?_
              | refine IWP_seq ?_
              | refine IWP_region ?_
              | refine IWP_ct rfl ?_
              | refine IWP_cf rfl ?_
              | refine IWP_skip ?_
              | refine IWP_ret ?_
              | refine IWP_block ?_
              | refine inB_n ?_
              | refine thenI_r ?_
              | refine thenI_e ?_
              | refine inB_r ?_
              | refine inB_hit ?_
              | refine inB_miss rfl ?_
              | refine IWP_exit ?_
              | refine IWP_scope ?_
              | refine IWP_label ?_
              | refine noG_n ?_
              | refine noG_r ?_
              | refine noG_e ?_
              | refine jmp_n ?_
              | refine jmp_r ?_
              | refine jmp_e ?_
              | refine jmp_g ?_
              | refine thenI_g ?_
              | refine inB_g ?_
              | refine IWP_goto ?_
              | refine Loop_n ?_
              | refine oD (id := 20) W6_20 [] O6_20 [_, _, _, _, _, _, _, _, _, _, _, _, _, _, _, _, _, _, _, _, _, _, _, _, _, _, _, _, _, _, _] [_] rfl (by repeat' (first | exact trivial | refine And.intro ?_ ?_ | exact bS | exact bX | exact bZ | exact bI | exact bC (π := []) (hs := by first | exact hhs | fail) | exact bC (π := []) (hs := by first | exact hks | fail) | fail)) ?_
              | fail)
            exact ⟨q + 1, by omega, by omega, lP []⟩
        · repeat' (first
            | refine IOps_nil ?_
            | refine oS ?_
            | refine IOps_s rfl rfl ?_
            | refine oT ?_
            | refine IOps_s0 rfl ?_
            | refine oZ ?_
            | refine oI ?_
            | refine thenI_n ?_
            | refine IWP_seq ?_
            | refine IWP_region ?_
            | refine IWP_ct rfl ?_
            | refine IWP_cf rfl ?_
            | refine IWP_skip ?_
            | refine IWP_ret ?_
            | refine IWP_block ?_
            | refine inB_n ?_
            | refine thenI_r ?_
            | refine thenI_e ?_
            | refine inB_r ?_
            | refine inB_hit ?_
            | refine inB_miss rfl ?_
            | refine IWP_exit ?_
            | refine IWP_scope ?_
            | refine IWP_label ?_
            | refine noG_n ?_
            | refine noG_r ?_
            | refine noG_e ?_
            | refine jmp_n ?_
            | refine jmp_r ?_
            | refine jmp_e ?_
            | refine jmp_g ?_
            | refine thenI_g ?_
            | refine inB_g ?_
            | refine IWP_goto ?_
            | refine Loop_n ?_
            | refine oD (id := 20) W6_20 [] O6_20 [_, _, _, _, _, _, _, _, _, _, _, _, _, _, _, _, _, _, _, _, _, _, _, _, _, _, _, _, _, _, _] [_] rfl (by repeat' (first | exact trivial | refine And.intro ?_ ?_ | exact bS | exact bX | exact bZ | exact bI | fail)) ?_
            | fail)
          exact pD [] ⟨rfl, rfl⟩
  · rw [decide_eq_false hf] at hfs
    refine sB Try.func6 Try.ntmps6 ?_
    repeat' (first
      | refine IOps_nil ?_
      | refine oS ?_
      | refine IOps_s rfl rfl ?_
      | refine oT ?_
      | refine IOps_s0 rfl ?_
      | refine oC (π := []) (hs := by first | exact table_awake | fail) (hx := ?_)
      | refine oC (π := []) (hs := by first | exact hfs | fail) (hx := ?_)
      | refine oZ ?_
      | refine oI ?_
      | refine thenI_n ?_
      | refine IWP_seq ?_
      | refine IWP_region ?_
      | refine IWP_ct rfl ?_
      | refine IWP_cf rfl ?_
      | refine IWP_skip ?_
      | refine IWP_ret ?_
      | refine IWP_block ?_
      | refine inB_n ?_
      | refine thenI_r ?_
      | refine thenI_e ?_
      | refine inB_r ?_
      | refine inB_hit ?_
      | refine inB_miss rfl ?_
      | refine IWP_exit ?_
      | refine IWP_scope ?_
      | refine IWP_label ?_
      | refine noG_n ?_
      | refine noG_r ?_
      | refine noG_e ?_
      | refine jmp_n ?_
      | refine jmp_r ?_
      | refine jmp_e ?_
      | refine jmp_g ?_
      | refine thenI_g ?_
      | refine inB_g ?_
      | refine IWP_goto ?_
      | refine Loop_n ?_
      | refine oD (id := 20) W6_20 [] O6_20 [_, _, _, _, _, _, _, _, _, _, _, _, _, _, _, _, _, _, _, _, _, _, _, _, _, _, _, _, _, _, _] [_] rfl (by repeat' (first | exact trivial | refine And.intro ?_ ?_ | exact bS | exact bX | exact bZ | exact bI | exact bC (π := []) (hs := by first | exact table_awake | fail) | exact bC (π := []) (hs := by first | exact hfs | fail) | fail)) ?_
      | fail)
    exact pD [] ⟨rfl, rfl⟩
end Go.Proofs.Ytgchgdfigbonhaa
