/-
  Things: the laws.
-/
import Derived.Test.YtmgcoopmbohkoaaThM
namespace Go.Proofs.Ytmgcoopmbohkoaa
open Go Go.Idl
set_option linter.unusedSimpArgs false
set_option linter.unusedVariables false
set_option maxRecDepth 100000
set_option maxHeartbeats 8000000
theorem unbyte_u8 (a : UInt8) : unbyte (.sc (.int .u8 (a.toNat : Int))) = a := by
  have := u8_unbyte (l := [a])
  exact List.head_eq_of_cons_eq this
theorem mod60 (b : UInt8) : ((b.toNat : Int) % 60).toNat = b.toNat % 60 := by omega
attribute [local irreducible] Go.Idl.IWP Go.Idl.IOps Go.Idl.Obl Go.Idl.OpG Go.Idl.thenI Go.Idl.inBlockI Go.Idl.LoopU Go.Idl.noGotoI Go.Idl.jumpI
attribute [local go_sem] List.length_set bl_of bl_no List.drop_length Nat.sub_self unbyte_u8 mod60 Int.one_mul
theorem thing_awake : Idl.Spec Try.prog 12 [] [] (Only (.sc (.bool true)) []) := by
  have s1 := tags_spec [[98], [97], [98]] (by decide) (by decide)
  rw [tagsV_of (l := [[98], [97], [98]]) (M := [[97], [98]]) (by decide) (by decide) (by decide) (by intro x; simp only [List.mem_cons, List.not_mem_nil, or_false]; exact ⟨fun h => h.elim (fun h => .inr (.inl h)) .inl, fun h => h.elim .inr fun h => h.elim .inl .inr⟩) (by decide)] at s1
  have s2 := tags_spec [[]] (by decide) (by decide)
  rw [tagsV_no (l := [[]]) (by decide)] at s2
  have s3 := tags_spec [[97], [98], [99], [100]] (by decide) (by decide)
  rw [tagsV_no (l := [[97], [98], [99], [100]]) (by decide)] at s3
  have k1 := key_spec [97]
  have k2 := key_spec []
  have k3 := key_spec [48, 49, 50, 51, 52, 53, 54, 55, 56, 57, 97, 98, 99, 100, 101, 102]
  have k4 := key_spec [48, 49, 50, 51, 52, 53, 54, 55, 56, 57, 97, 98, 99, 100, 101, 102, 103]
  rw [decide_eq_true (by decide)] at k1 k3
  rw [decide_eq_false (by decide)] at k2 k4
  have h1 := hash_spec [] (by decide)
  rw [show hashV [] = 14695981039346656037 from rfl] at h1
  have h2 := hash_spec [97] (by decide)
  rw [show hashV [97] = 12638187200555641996 by decide +kernel] at h2
  have m1 := home_spec [97] 10 (by decide) (by decide)
  rw [show homeV [97] 10 = 6 by decide +kernel] at m1
  have m2 := home_spec [97] 0 (by decide) (by decide)
  rw [show homeV [97] 0 = 0 by decide +kernel] at m2
  have e1 := ssame_spec [[97], [98]] [[97], [98]] (by decide)
  rw [show decide (([[97], [98]] : List Ks) = [[97], [98]]) = true by decide] at e1
  refine sB Try.func12 Try.ntmps12 ?_
  repeat' (first
    | refine IOps_nil ?_
    | refine oS ?_
    | refine IOps_s rfl rfl ?_
    | refine oT ?_
    | refine IOps_s0 rfl ?_
    | refine oC (π := []) (hs := by first | exact s1 | fail) (hx := ?_)
    | refine oC (π := []) (hs := by first | exact s2 | fail) (hx := ?_)
    | refine oC (π := []) (hs := by first | exact s3 | fail) (hx := ?_)
    | refine oC (π := []) (hs := by first | exact k1 | fail) (hx := ?_)
    | refine oC (π := []) (hs := by first | exact k2 | fail) (hx := ?_)
    | refine oC (π := []) (hs := by first | exact k3 | fail) (hx := ?_)
    | refine oC (π := []) (hs := by first | exact k4 | fail) (hx := ?_)
    | refine oC (π := []) (hs := by first | exact h1 | fail) (hx := ?_)
    | refine oC (π := []) (hs := by first | exact h2 | fail) (hx := ?_)
    | refine oC (π := []) (hs := by first | exact m1 | fail) (hx := ?_)
    | refine oC (π := []) (hs := by first | exact m2 | fail) (hx := ?_)
    | refine oC (π := []) (hs := by first | exact e1 | fail) (hx := ?_)
    | refine oZ ?_
    | refine oI ?_
    | refine thenI_n ?_
    | refine IWP_seq ?_
    | refine IWP_region ?_
    | refine IWP_ct rfl ?_
    | refine IWP_cf rfl ?_
    | refine IWP_skip ?_
    | refine IWP_ret ?_
    | refine IWP_block ?_
    | refine inB_n ?_
    | refine thenI_r ?_
    | refine thenI_e ?_
    | refine inB_r ?_
    | refine inB_hit ?_
    | refine inB_miss rfl ?_
    | refine IWP_exit ?_
    | refine IWP_scope ?_
    | refine IWP_label ?_
    | refine noG_n ?_
    | refine noG_r ?_
    | refine noG_e ?_
    | refine jmp_n ?_
    | refine jmp_r ?_
    | refine jmp_e ?_
    | refine jmp_g ?_
    | refine thenI_g ?_
    | refine inB_g ?_
    | refine IWP_goto ?_
    | refine Loop_n ?_
    | fail)
  exact pD [] ⟨rfl, rfl⟩
theorem tells_law (k : Ks) (l : List Ks) (n : Int) (hk : k.length ≤ 9223372036854775807) (hL : l.length ≤ 9223372036854775807) (hn : n ≤ 9223372036854775807) : Idl.Spec Try.prog 3 [.sc (.string ⟨⟨k⟩⟩), .fz false (strs l) l.length, .i64 n] [] (Only (.sc (.bool true)) []) := by
  by_cases h1 : k.length ≤ 1000
  · have hfs := kfew_spec l 100 hL
    by_cases hf : fewK l 100
    · rw [decide_eq_true hf] at hfs
      obtain ⟨f1, f2⟩ := hf
      have s1 := tags_spec l (by omega) (fun t ht => by have := f1 t ht; omega)
      have s2 := rtags_spec l (by omega)
      have hle : (tagsV l).1.length ≤ 3 := by
        unfold tagsV
        split
        · next h => rw [(srtK_perm _).length_eq]; exact h.2
        · simp
      generalize tagsV l = r at s1 s2 hle
      obtain ⟨M, e⟩ := r
      simp only at s1 s2 hle
      have s3 := ssame_spec M M (by omega)
      rw [decide_eq_true (rfl : M = M)] at s3
      refine sB Try.func3 Try.ntmps3 ?_
      repeat' (first
        | refine IOps_nil ?_
        | refine oS ?_
        | refine IOps_s rfl rfl ?_
        | refine oT ?_
        | refine IOps_s0 rfl ?_
        | refine oC (π := []) (hs := by first | exact thing_awake | fail) (hx := ?_)
        | refine oC (π := []) (hs := by first | exact hfs | fail) (hx := ?_)
        | refine oC (π := []) (hs := by first | exact s1 | fail) (hx := ?_)
        | refine oA (π := []) (hs := by first | exact s2 | fail) (hx := ?_)
        | refine oC (π := []) (hs := by first | exact key_spec k | fail) (hx := ?_)
        | refine oC (π := []) (hs := by first | exact rkey_spec k | fail) (hx := ?_)
        | refine oC (π := []) (hs := by first | exact s3 | fail) (hx := ?_)
        | refine oC (π := []) (hs := by first | exact hash_spec k (by omega) | fail) (hx := ?_)
        | refine oC (π := []) (hs := by first | exact rhash_spec k (by omega) | fail) (hx := ?_)
        | refine oC (π := []) (hs := by first | exact home_spec k n (by omega) hn | fail) (hx := ?_)
        | refine oC (π := []) (hs := by first | exact rhome_spec k n (by omega) hn | fail) (hx := ?_)
        | refine oZ ?_
        | refine oI ?_
        | refine thenI_n ?_
        | refine IWP_seq ?_
        | refine IWP_region ?_
        | refine IWP_ct rfl ?_
        | refine IWP_cf rfl ?_
        | refine IWP_skip ?_
        | refine IWP_ret ?_
        | refine IWP_block ?_
        | refine inB_n ?_
        | refine thenI_r ?_
        | refine thenI_e ?_
        | refine inB_r ?_
        | refine inB_hit ?_
        | refine inB_miss rfl ?_
        | refine IWP_exit ?_
        | refine IWP_scope ?_
        | refine IWP_label ?_
        | refine noG_n ?_
        | refine noG_r ?_
        | refine noG_e ?_
        | refine jmp_n ?_
        | refine jmp_r ?_
        | refine jmp_e ?_
        | refine jmp_g ?_
        | refine thenI_g ?_
        | refine inB_g ?_
        | refine IWP_goto ?_
        | refine Loop_n ?_
        | fail)
      exact pD [] ⟨rfl, rfl⟩
    · rw [decide_eq_false hf] at hfs
      refine sB Try.func3 Try.ntmps3 ?_
      repeat' (first
        | refine IOps_nil ?_
        | refine oS ?_
        | refine IOps_s rfl rfl ?_
        | refine oT ?_
        | refine IOps_s0 rfl ?_
        | refine oC (π := []) (hs := by first | exact thing_awake | fail) (hx := ?_)
        | refine oC (π := []) (hs := by first | exact hfs | fail) (hx := ?_)
        | refine oZ ?_
        | refine oI ?_
        | refine thenI_n ?_
        | refine IWP_seq ?_
        | refine IWP_region ?_
        | refine IWP_ct rfl ?_
        | refine IWP_cf rfl ?_
        | refine IWP_skip ?_
        | refine IWP_ret ?_
        | refine IWP_block ?_
        | refine inB_n ?_
        | refine thenI_r ?_
        | refine thenI_e ?_
        | refine inB_r ?_
        | refine inB_hit ?_
        | refine inB_miss rfl ?_
        | refine IWP_exit ?_
        | refine IWP_scope ?_
        | refine IWP_label ?_
        | refine noG_n ?_
        | refine noG_r ?_
        | refine noG_e ?_
        | refine jmp_n ?_
        | refine jmp_r ?_
        | refine jmp_e ?_
        | refine jmp_g ?_
        | refine thenI_g ?_
        | refine inB_g ?_
        | refine IWP_goto ?_
        | refine Loop_n ?_
        | fail)
      exact pD [] ⟨rfl, rfl⟩
  · refine sB Try.func3 Try.ntmps3 ?_
    repeat' (first
      | refine IOps_nil ?_
      | refine oS ?_
      | refine IOps_s rfl rfl ?_
      | refine oT ?_
      | refine IOps_s0 rfl ?_
      | refine oC (π := []) (hs := by first | exact thing_awake | fail) (hx := ?_)
      | refine oZ ?_
      | refine oI ?_
      | refine thenI_n ?_
      | refine IWP_seq ?_
      | refine IWP_region ?_
      | refine IWP_ct rfl ?_
      | refine IWP_cf rfl ?_
      | refine IWP_skip ?_
      | refine IWP_ret ?_
      | refine IWP_block ?_
      | refine inB_n ?_
      | refine thenI_r ?_
      | refine thenI_e ?_
      | refine inB_r ?_
      | refine inB_hit ?_
      | refine inB_miss rfl ?_
      | refine IWP_exit ?_
      | refine IWP_scope ?_
      | refine IWP_label ?_
      | refine noG_n ?_
      | refine noG_r ?_
      | refine noG_e ?_
      | refine jmp_n ?_
      | refine jmp_r ?_
      | refine jmp_e ?_
      | refine jmp_g ?_
      | refine thenI_g ?_
      | refine inB_g ?_
      | refine IWP_goto ?_
      | refine Loop_n ?_
      | fail)
    exact pD [] ⟨rfl, rfl⟩
theorem few_law (l : List Ks) (hL : l.length ≤ 9223372036854775807) : Idl.Spec Try.prog 5 [.fz false (strs l) l.length] [] (Only (.sc (.bool true)) []) := by
  have hfs := kfew_spec l 100 hL
  by_cases hf : fewK l 100
  · rw [decide_eq_true hf] at hfs
    obtain ⟨f1, f2⟩ := hf
    have s1 := tags_spec l (by omega) (fun t ht => by have := f1 t ht; omega)
    refine sB Try.func5 Try.ntmps5 ?_
    repeat' (first
      | refine IOps_nil ?_
      | refine oS ?_
      | refine IOps_s rfl rfl ?_
      | refine oT ?_
      | refine IOps_s0 rfl ?_
      | refine oC (π := []) (hs := by first | exact thing_awake | fail) (hx := ?_)
      | refine oC (π := []) (hs := by first | exact hfs | fail) (hx := ?_)
      | refine oC (π := []) (hs := by first | exact s1 | fail) (hx := ?_)
      | refine oZ ?_
      | refine oI ?_
      | refine thenI_n ?_
      | refine IWP_seq ?_
      | refine IWP_region ?_
      | refine IWP_ct rfl ?_
      | refine IWP_cf rfl ?_
      | refine IWP_skip ?_
      | refine IWP_ret ?_
      | refine IWP_block ?_
      | refine inB_n ?_
      | refine thenI_r ?_
      | refine thenI_e ?_
      | refine inB_r ?_
      | refine inB_hit ?_
      | refine inB_miss rfl ?_
      | refine IWP_exit ?_
      | refine IWP_scope ?_
      | refine IWP_label ?_
      | refine noG_n ?_
      | refine noG_r ?_
      | refine noG_e ?_
      | refine jmp_n ?_
      | refine jmp_r ?_
      | refine jmp_e ?_
      | refine jmp_g ?_
      | refine thenI_g ?_
      | refine inB_g ?_
      | refine IWP_goto ?_
      | refine Loop_n ?_
      | refine oD (id := 11) W5_11 [] O5_11 [_, _, _, _, _, _, _, _, _] [_] rfl (by repeat' (first | exact trivial | refine And.intro ?_ ?_ | exact bS | exact bX | exact bZ | exact bI | exact bC (π := []) (hs := by first | exact thing_awake | fail) | exact bC (π := []) (hs := by first | exact hfs | fail) | exact bC (π := []) (hs := by first | exact s1 | fail) | fail)) ?_
      | fail)
    refine IWP_loop (fun x : Bool × Nat × Nat => ⟨64, [(0, .fz false (strs l) l.length), (2, .sc (.bool false)), (3, .sc (.bool true)), (5, .i64 (tagsV l).2), (6, .i64 x.2.1), (7, .sc (.bool x.1)), (8, .i64 x.2.2)], []⟩)
      (fun x => x.2.2 ≤ l.length ∧ (x.1 = true ↔ ∀ j, j < x.2.2 → tagOk (l.getD j [])) ∧ x.2.1 = (dd (l.take x.2.2)).length) (fun x => l.length - x.2.2) (true, 0, 0) (lP []) ⟨Nat.zero_le _, by simp, rfl⟩ ?_
    rintro ⟨b, m, i⟩ ⟨hi, hb, hm⟩
    simp only at hi hb hm ⊢
    have hdl := dd_len (l.take i)
    rw [List.length_take, ← hm] at hdl
    by_cases h : i < l.length
    · have hdt := dd_take h
      have hs := khas_spec (l.take i) (l.getD i []) (by rw [List.length_take]; omega)
      rw [List.length_take, Nat.min_eq_left hi] at hs
      have hnext : ∀ c : Bool, (c = true ↔ b = true ∧ tagOk (l.getD i [])) → (c = true ↔ ∀ j, j < i + 1 → tagOk (l.getD j [])) := fun c hc => by
        rw [hc, hb]
        constructor
        · rintro ⟨h1, h2⟩ j hj
          rcases Nat.lt_succ_iff_lt_or_eq.1 hj with h' | rfl
          · exact h1 j h'
          · exact h2
        · exact fun hx => ⟨fun j hj => hx j (by omega), hx i (by omega)⟩
      by_cases hin : l.getD i [] ∈ l.take i
      · rw [decide_eq_true hin] at hs
        rw [if_pos (dd_mem.2 hin)] at hdt
        cases b
        · repeat' (first
            | refine IOps_nil ?_
            | refine oS ?_
            | refine IOps_s rfl rfl ?_
            | refine oT ?_
            | refine IOps_s0 rfl ?_
            | refine oC (π := []) (hs := by first | exact hs | fail) (hx := ?_)
            | refine oZ ?_
            | refine oI ?_
            | refine thenI_n ?_
            | refine IWP_seq ?_
            | refine IWP_region ?_
            | refine IWP_ct rfl ?_
            | refine IWP_cf rfl ?_
            | refine IWP_skip ?_
            | refine IWP_ret ?_
            | refine IWP_block ?_
            | refine inB_n ?_
            | refine thenI_r ?_
            | refine thenI_e ?_
            | refine inB_r ?_
            | refine inB_hit ?_
            | refine inB_miss rfl ?_
            | refine IWP_exit ?_
            | refine IWP_scope ?_
            | refine IWP_label ?_
            | refine noG_n ?_
            | refine noG_r ?_
            | refine noG_e ?_
            | refine jmp_n ?_
            | refine jmp_r ?_
            | refine jmp_e ?_
            | refine jmp_g ?_
            | refine thenI_g ?_
            | refine inB_g ?_
            | refine IWP_goto ?_
            | refine Loop_n ?_
            | refine oD (id := 11) W5_11 [] O5_11 [_, _, _, _, _, _, _, _, _] [_] rfl (by repeat' (first | exact trivial | refine And.intro ?_ ?_ | exact bS | exact bX | exact bZ | exact bI | exact bC (π := []) (hs := by first | exact hs | fail) | fail)) ?_
            | fail)
          exact ⟨(false, m, i + 1), ⟨h, hnext false (by simp), by simp only; rw [hdt]; exact hm⟩, by simp only; omega, lP []⟩
        · by_cases h1 : 1 ≤ (l.getD i []).length
          · by_cases h8 : (l.getD i []).length ≤ 8
            · repeat' (first
                | refine IOps_nil ?_
                | refine oS ?_
                | refine IOps_s rfl rfl ?_
                | refine oT ?_
                | refine IOps_s0 rfl ?_
                | refine oC (π := []) (hs := by first | exact hs | fail) (hx := ?_)
                | refine oZ ?_
                | refine oI ?_
                | refine thenI_n ?_
                | refine IWP_seq ?_
                | refine IWP_region ?_
                | refine IWP_ct rfl ?_
                | refine IWP_cf rfl ?_
                | refine IWP_skip ?_
                | refine IWP_ret ?_
                | refine IWP_block ?_
                | refine inB_n ?_
                | refine thenI_r ?_
                | refine thenI_e ?_
                | refine inB_r ?_
                | refine inB_hit ?_
                | refine inB_miss rfl ?_
                | refine IWP_exit ?_
                | refine IWP_scope ?_
                | refine IWP_label ?_
                | refine noG_n ?_
                | refine noG_r ?_
                | refine noG_e ?_
                | refine jmp_n ?_
                | refine jmp_r ?_
                | refine jmp_e ?_
                | refine jmp_g ?_
                | refine thenI_g ?_
                | refine inB_g ?_
                | refine IWP_goto ?_
                | refine Loop_n ?_
                | refine oD (id := 11) W5_11 [] O5_11 [_, _, _, _, _, _, _, _, _] [_] rfl (by repeat' (first | exact trivial | refine And.intro ?_ ?_ | exact bS | exact bX | exact bZ | exact bI | exact bC (π := []) (hs := by first | exact hs | fail) | fail)) ?_
                | fail)
              exact ⟨(true, m, i + 1), ⟨h, hnext true ⟨fun _ => ⟨rfl, h1, h8⟩, fun _ => rfl⟩, by simp only; rw [hdt]; exact hm⟩, by simp only; omega, lP []⟩
            · repeat' (first
                | refine IOps_nil ?_
                | refine oS ?_
                | refine IOps_s rfl rfl ?_
                | refine oT ?_
                | refine IOps_s0 rfl ?_
                | refine oC (π := []) (hs := by first | exact hs | fail) (hx := ?_)
                | refine oZ ?_
                | refine oI ?_
                | refine thenI_n ?_
                | refine IWP_seq ?_
                | refine IWP_region ?_
                | refine IWP_ct rfl ?_
                | refine IWP_cf rfl ?_
                | refine IWP_skip ?_
                | refine IWP_ret ?_
                | refine IWP_block ?_
                | refine inB_n ?_
                | refine thenI_r ?_
                | refine thenI_e ?_
                | refine inB_r ?_
                | refine inB_hit ?_
                | refine inB_miss rfl ?_
                | refine IWP_exit ?_
                | refine IWP_scope ?_
                | refine IWP_label ?_
                | refine noG_n ?_
                | refine noG_r ?_
                | refine noG_e ?_
                | refine jmp_n ?_
                | refine jmp_r ?_
                | refine jmp_e ?_
                | refine jmp_g ?_
                | refine thenI_g ?_
                | refine inB_g ?_
                | refine IWP_goto ?_
                | refine Loop_n ?_
                | refine oD (id := 11) W5_11 [] O5_11 [_, _, _, _, _, _, _, _, _] [_] rfl (by repeat' (first | exact trivial | refine And.intro ?_ ?_ | exact bS | exact bX | exact bZ | exact bI | exact bC (π := []) (hs := by first | exact hs | fail) | fail)) ?_
                | fail)
              exact ⟨(false, m, i + 1), ⟨h, hnext false ⟨(fun x => by cases x), fun x => absurd x.2.2 h8⟩, by simp only; rw [hdt]; exact hm⟩, by simp only; omega, lP []⟩
          · repeat' (first
              | refine IOps_nil ?_
              | refine oS ?_
              | refine IOps_s rfl rfl ?_
              | refine oT ?_
              | refine IOps_s0 rfl ?_
              | refine oC (π := []) (hs := by first | exact hs | fail) (hx := ?_)
              | refine oZ ?_
              | refine oI ?_
              | refine thenI_n ?_
              | refine IWP_seq ?_
              | refine IWP_region ?_
              | refine IWP_ct rfl ?_
              | refine IWP_cf rfl ?_
              | refine IWP_skip ?_
              | refine IWP_ret ?_
              | refine IWP_block ?_
              | refine inB_n ?_
              | refine thenI_r ?_
              | refine thenI_e ?_
              | refine inB_r ?_
              | refine inB_hit ?_
              | refine inB_miss rfl ?_
              | refine IWP_exit ?_
              | refine IWP_scope ?_
              | refine IWP_label ?_
              | refine noG_n ?_
              | refine noG_r ?_
              | refine noG_e ?_
              | refine jmp_n ?_
              | refine jmp_r ?_
              | refine jmp_e ?_
              | refine jmp_g ?_
              | refine thenI_g ?_
              | refine inB_g ?_
              | refine IWP_goto ?_
              | refine Loop_n ?_
              | refine oD (id := 11) W5_11 [] O5_11 [_, _, _, _, _, _, _, _, _] [_] rfl (by repeat' (first | exact trivial | refine And.intro ?_ ?_ | exact bS | exact bX | exact bZ | exact bI | exact bC (π := []) (hs := by first | exact hs | fail) | fail)) ?_
              | fail)
            exact ⟨(false, m, i + 1), ⟨h, hnext false ⟨(fun x => by cases x), fun x => absurd x.2.1 h1⟩, by simp only; rw [hdt]; exact hm⟩, by simp only; omega, lP []⟩
      · rw [decide_eq_false hin] at hs
        rw [if_neg fun x => hin (dd_mem.1 x)] at hdt
        have hm2 : m + 1 = (dd (l.take (i + 1))).length := by rw [hdt, List.length_append, hm]; rfl
        cases b
        · repeat' (first
            | refine IOps_nil ?_
            | refine oS ?_
            | refine IOps_s rfl rfl ?_
            | refine oT ?_
            | refine IOps_s0 rfl ?_
            | refine oC (π := []) (hs := by first | exact hs | fail) (hx := ?_)
            | refine oZ ?_
            | refine oI ?_
            | refine thenI_n ?_
            | refine IWP_seq ?_
            | refine IWP_region ?_
            | refine IWP_ct rfl ?_
            | refine IWP_cf rfl ?_
            | refine IWP_skip ?_
            | refine IWP_ret ?_
            | refine IWP_block ?_
            | refine inB_n ?_
            | refine thenI_r ?_
            | refine thenI_e ?_
            | refine inB_r ?_
            | refine inB_hit ?_
            | refine inB_miss rfl ?_
            | refine IWP_exit ?_
            | refine IWP_scope ?_
            | refine IWP_label ?_
            | refine noG_n ?_
            | refine noG_r ?_
            | refine noG_e ?_
            | refine jmp_n ?_
            | refine jmp_r ?_
            | refine jmp_e ?_
            | refine jmp_g ?_
            | refine thenI_g ?_
            | refine inB_g ?_
            | refine IWP_goto ?_
            | refine Loop_n ?_
            | refine oD (id := 11) W5_11 [] O5_11 [_, _, _, _, _, _, _, _, _] [_] rfl (by repeat' (first | exact trivial | refine And.intro ?_ ?_ | exact bS | exact bX | exact bZ | exact bI | exact bC (π := []) (hs := by first | exact hs | fail) | fail)) ?_
            | fail)
          exact ⟨(false, m + 1, i + 1), ⟨h, hnext false (by simp), hm2⟩, by simp only; omega, lP []⟩
        · by_cases h1 : 1 ≤ (l.getD i []).length
          · by_cases h8 : (l.getD i []).length ≤ 8
            · repeat' (first
                | refine IOps_nil ?_
                | refine oS ?_
                | refine IOps_s rfl rfl ?_
                | refine oT ?_
                | refine IOps_s0 rfl ?_
                | refine oC (π := []) (hs := by first | exact hs | fail) (hx := ?_)
                | refine oZ ?_
                | refine oI ?_
                | refine thenI_n ?_
                | refine IWP_seq ?_
                | refine IWP_region ?_
                | refine IWP_ct rfl ?_
                | refine IWP_cf rfl ?_
                | refine IWP_skip ?_
                | refine IWP_ret ?_
                | refine IWP_block ?_
                | refine inB_n ?_
                | refine thenI_r ?_
                | refine thenI_e ?_
                | refine inB_r ?_
                | refine inB_hit ?_
                | refine inB_miss rfl ?_
                | refine IWP_exit ?_
                | refine IWP_scope ?_
                | refine IWP_label ?_
                | refine noG_n ?_
                | refine noG_r ?_
                | refine noG_e ?_
                | refine jmp_n ?_
                | refine jmp_r ?_
                | refine jmp_e ?_
                | refine jmp_g ?_
                | refine thenI_g ?_
                | refine inB_g ?_
                | refine IWP_goto ?_
                | refine Loop_n ?_
                | refine oD (id := 11) W5_11 [] O5_11 [_, _, _, _, _, _, _, _, _] [_] rfl (by repeat' (first | exact trivial | refine And.intro ?_ ?_ | exact bS | exact bX | exact bZ | exact bI | exact bC (π := []) (hs := by first | exact hs | fail) | fail)) ?_
                | fail)
              exact ⟨(true, m + 1, i + 1), ⟨h, hnext true ⟨fun _ => ⟨rfl, h1, h8⟩, fun _ => rfl⟩, hm2⟩, by simp only; omega, lP []⟩
            · repeat' (first
                | refine IOps_nil ?_
                | refine oS ?_
                | refine IOps_s rfl rfl ?_
                | refine oT ?_
                | refine IOps_s0 rfl ?_
                | refine oC (π := []) (hs := by first | exact hs | fail) (hx := ?_)
                | refine oZ ?_
                | refine oI ?_
                | refine thenI_n ?_
                | refine IWP_seq ?_
                | refine IWP_region ?_
                | refine IWP_ct rfl ?_
                | refine IWP_cf rfl ?_
                | refine IWP_skip ?_
                | refine IWP_ret ?_
                | refine IWP_block ?_
                | refine inB_n ?_
                | refine thenI_r ?_
                | refine thenI_e ?_
                | refine inB_r ?_
                | refine inB_hit ?_
                | refine inB_miss rfl ?_
                | refine IWP_exit ?_
                | refine IWP_scope ?_
                | refine IWP_label ?_
                | refine noG_n ?_
                | refine noG_r ?_
                | refine noG_e ?_
                | refine jmp_n ?_
                | refine jmp_r ?_
                | refine jmp_e ?_
                | refine jmp_g ?_
                | refine thenI_g ?_
                | refine inB_g ?_
                | refine IWP_goto ?_
                | refine Loop_n ?_
                | refine oD (id := 11) W5_11 [] O5_11 [_, _, _, _, _, _, _, _, _] [_] rfl (by repeat' (first | exact trivial | refine And.intro ?_ ?_ | exact bS | exact bX | exact bZ | exact bI | exact bC (π := []) (hs := by first | exact hs | fail) | fail)) ?_
                | fail)
              exact ⟨(false, m + 1, i + 1), ⟨h, hnext false ⟨(fun x => by cases x), fun x => absurd x.2.2 h8⟩, hm2⟩, by simp only; omega, lP []⟩
          · repeat' (first
              | refine IOps_nil ?_
              | refine oS ?_
              | refine IOps_s rfl rfl ?_
              | refine oT ?_
              | refine IOps_s0 rfl ?_
              | refine oC (π := []) (hs := by first | exact hs | fail) (hx := ?_)
              | refine oZ ?_
              | refine oI ?_
              | refine thenI_n ?_
              | refine IWP_seq ?_
              | refine IWP_region ?_
              | refine IWP_ct rfl ?_
              | refine IWP_cf rfl ?_
              | refine IWP_skip ?_
              | refine IWP_ret ?_
              | refine IWP_block ?_
              | refine inB_n ?_
              | refine thenI_r ?_
              | refine thenI_e ?_
              | refine inB_r ?_
              | refine inB_hit ?_
              | refine inB_miss rfl ?_
              | refine IWP_exit ?_
              | refine IWP_scope ?_
              | refine IWP_label ?_
              | refine noG_n ?_
              | refine noG_r ?_
              | refine noG_e ?_
              | refine jmp_n ?_
              | refine jmp_r ?_
              | refine jmp_e ?_
              | refine jmp_g ?_
              | refine thenI_g ?_
              | refine inB_g ?_
              | refine IWP_goto ?_
              | refine Loop_n ?_
              | refine oD (id := 11) W5_11 [] O5_11 [_, _, _, _, _, _, _, _, _] [_] rfl (by repeat' (first | exact trivial | refine And.intro ?_ ?_ | exact bS | exact bX | exact bZ | exact bI | exact bC (π := []) (hs := by first | exact hs | fail) | fail)) ?_
              | fail)
            exact ⟨(false, m + 1, i + 1), ⟨h, hnext false ⟨(fun x => by cases x), fun x => absurd x.2.1 h1⟩, hm2⟩, by simp only; omega, lP []⟩
    · obtain rfl : i = l.length := by omega
      rw [List.take_length] at hm
      have hall : b = true ↔ ∀ t, t ∈ l → tagOk t := by
        rw [hb]
        exact ⟨fun hx t ht => by obtain ⟨j, hj, rfl⟩ := mem_getD [] ht; exact hx j hj, fun hx j hj => hx _ (getD_mem hj)⟩
      by_cases hok : tagsOk l
      · have hbt : b = true := hall.2 hok.1
        subst hbt
        have h3 := hok.2
        rw [tagsV_ok hok]
        repeat' (first
          | refine IOps_nil ?_
          | refine oS ?_
          | refine IOps_s rfl rfl ?_
          | refine oT ?_
          | refine IOps_s0 rfl ?_
          | refine oZ ?_
          | refine oI ?_
          | refine thenI_n ?_
          | refine IWP_seq ?_
          | refine IWP_region ?_
          | refine IWP_ct rfl ?_
          | refine IWP_cf rfl ?_
          | refine IWP_skip ?_
          | refine IWP_ret ?_
          | refine IWP_block ?_
          | refine inB_n ?_
          | refine thenI_r ?_
          | refine thenI_e ?_
          | refine inB_r ?_
          | refine inB_hit ?_
          | refine inB_miss rfl ?_
          | refine IWP_exit ?_
          | refine IWP_scope ?_
          | refine IWP_label ?_
          | refine noG_n ?_
          | refine noG_r ?_
          | refine noG_e ?_
          | refine jmp_n ?_
          | refine jmp_r ?_
          | refine jmp_e ?_
          | refine jmp_g ?_
          | refine thenI_g ?_
          | refine inB_g ?_
          | refine IWP_goto ?_
          | refine Loop_n ?_
          | refine oD (id := 11) W5_11 [] O5_11 [_, _, _, _, _, _, _, _, _] [_] rfl (by repeat' (first | exact trivial | refine And.intro ?_ ?_ | exact bS | exact bX | exact bZ | exact bI | fail)) ?_
          | fail)
        exact pD [] ⟨rfl, rfl⟩
      · rw [tagsV_no hok]
        cases b
        · repeat' (first
            | refine IOps_nil ?_
            | refine oS ?_
            | refine IOps_s rfl rfl ?_
            | refine oT ?_
            | refine IOps_s0 rfl ?_
            | refine oZ ?_
            | refine oI ?_
            | refine thenI_n ?_
            | refine IWP_seq ?_
            | refine IWP_region ?_
            | refine IWP_ct rfl ?_
            | refine IWP_cf rfl ?_
            | refine IWP_skip ?_
            | refine IWP_ret ?_
            | refine IWP_block ?_
            | refine inB_n ?_
            | refine thenI_r ?_
            | refine thenI_e ?_
            | refine inB_r ?_
            | refine inB_hit ?_
            | refine inB_miss rfl ?_
            | refine IWP_exit ?_
            | refine IWP_scope ?_
            | refine IWP_label ?_
            | refine noG_n ?_
            | refine noG_r ?_
            | refine noG_e ?_
            | refine jmp_n ?_
            | refine jmp_r ?_
            | refine jmp_e ?_
            | refine jmp_g ?_
            | refine thenI_g ?_
            | refine inB_g ?_
            | refine IWP_goto ?_
            | refine Loop_n ?_
            | refine oD (id := 11) W5_11 [] O5_11 [_, _, _, _, _, _, _, _, _] [_] rfl (by repeat' (first | exact trivial | refine And.intro ?_ ?_ | exact bS | exact bX | exact bZ | exact bI | fail)) ?_
            | fail)
          exact pD [] ⟨rfl, rfl⟩
        · have h3 : ¬ (dd l).length ≤ 3 := fun x => hok ⟨hall.1 rfl, x⟩
          repeat' (first
            | refine IOps_nil ?_
            | refine oS ?_
            | refine IOps_s rfl rfl ?_
            | refine oT ?_
            | refine IOps_s0 rfl ?_
            | refine oZ ?_
            | refine oI ?_
            | refine thenI_n ?_
            | refine IWP_seq ?_
            | refine IWP_region ?_
            | refine IWP_ct rfl ?_
            | refine IWP_cf rfl ?_
            | refine IWP_skip ?_
            | refine IWP_ret ?_
            | refine IWP_block ?_
            | refine inB_n ?_
            | refine thenI_r ?_
            | refine thenI_e ?_
            | refine inB_r ?_
            | refine inB_hit ?_
            | refine inB_miss rfl ?_
            | refine IWP_exit ?_
            | refine IWP_scope ?_
            | refine IWP_label ?_
            | refine noG_n ?_
            | refine noG_r ?_
            | refine noG_e ?_
            | refine jmp_n ?_
            | refine jmp_r ?_
            | refine jmp_e ?_
            | refine jmp_g ?_
            | refine thenI_g ?_
            | refine inB_g ?_
            | refine IWP_goto ?_
            | refine Loop_n ?_
            | refine oD (id := 11) W5_11 [] O5_11 [_, _, _, _, _, _, _, _, _] [_] rfl (by repeat' (first | exact trivial | refine And.intro ?_ ?_ | exact bS | exact bX | exact bZ | exact bI | fail)) ?_
            | fail)
          exact pD [] ⟨rfl, rfl⟩
  · rw [decide_eq_false hf] at hfs
    refine sB Try.func5 Try.ntmps5 ?_
    repeat' (first
      | refine IOps_nil ?_
      | refine oS ?_
      | refine IOps_s rfl rfl ?_
      | refine oT ?_
      | refine IOps_s0 rfl ?_
      | refine oC (π := []) (hs := by first | exact thing_awake | fail) (hx := ?_)
      | refine oC (π := []) (hs := by first | exact hfs | fail) (hx := ?_)
      | refine oZ ?_
      | refine oI ?_
      | refine thenI_n ?_
      | refine IWP_seq ?_
      | refine IWP_region ?_
      | refine IWP_ct rfl ?_
      | refine IWP_cf rfl ?_
      | refine IWP_skip ?_
      | refine IWP_ret ?_
      | refine IWP_block ?_
      | refine inB_n ?_
      | refine thenI_r ?_
      | refine thenI_e ?_
      | refine inB_r ?_
      | refine inB_hit ?_
      | refine inB_miss rfl ?_
      | refine IWP_exit ?_
      | refine IWP_scope ?_
      | refine IWP_label ?_
      | refine noG_n ?_
      | refine noG_r ?_
      | refine noG_e ?_
      | refine jmp_n ?_
      | refine jmp_r ?_
      | refine jmp_e ?_
      | refine jmp_g ?_
      | refine thenI_g ?_
      | refine inB_g ?_
      | refine IWP_goto ?_
      | refine Loop_n ?_
      | refine oD (id := 11) W5_11 [] O5_11 [_, _, _, _, _, _, _, _, _] [_] rfl (by repeat' (first | exact trivial | refine And.intro ?_ ?_ | exact bS | exact bX | exact bZ | exact bI | exact bC (π := []) (hs := by first | exact thing_awake | fail) | exact bC (π := []) (hs := by first | exact hfs | fail) | fail)) ?_
      | fail)
    exact pD [] ⟨rfl, rfl⟩
theorem lhash_law (k : Ks) (a b : UInt8) (hk : k.length ≤ 9223372036854775807) : Idl.Spec Try.prog 6 [.sc (.string ⟨⟨k⟩⟩), .sc (.int .u8 a.toNat), .sc (.int .u8 b.toNat)] [] (Only (.sc (.bool true)) []) := by
  by_cases h1 : k.length ≤ 1000
  · have s1 := hash_spec k (by omega)
    have s2 := hash_spec (k ++ [a]) (by simp; omega)
    have s3 := hash_spec (k ++ [b]) (by simp; omega)
    have hl := hash_lt k
    have hla := hash_lt (k ++ [a])
    have hlb := hash_lt (k ++ [b])
    have e1 := hash_snoc k a
    have ha := a.toNat_lt; have hb := b.toNat_lt
    unfold hashStep at e1
    by_cases hab : a = b
    · subst hab
      refine sB Try.func6 Try.ntmps6 ?_
      repeat' (first
        | refine IOps_nil ?_
        | refine oS ?_
        | refine IOps_s rfl rfl ?_
        | refine oT ?_
        | refine IOps_s0 rfl ?_
        | refine oC (π := []) (hs := by first | exact thing_awake | fail) (hx := ?_)
        | refine oC (π := []) (hs := by first | exact s1 | fail) (hx := ?_)
        | refine oC (π := []) (hs := by first | exact s2 | fail) (hx := ?_)
        | refine oZ ?_
        | refine oI ?_
        | refine thenI_n ?_
        | refine IWP_seq ?_
        | refine IWP_region ?_
        | refine IWP_ct rfl ?_
        | refine IWP_cf rfl ?_
        | refine IWP_skip ?_
        | refine IWP_ret ?_
        | refine IWP_block ?_
        | refine inB_n ?_
        | refine thenI_r ?_
        | refine thenI_e ?_
        | refine inB_r ?_
        | refine inB_hit ?_
        | refine inB_miss rfl ?_
        | refine IWP_exit ?_
        | refine IWP_scope ?_
        | refine IWP_label ?_
        | refine noG_n ?_
        | refine noG_r ?_
        | refine noG_e ?_
        | refine jmp_n ?_
        | refine jmp_r ?_
        | refine jmp_e ?_
        | refine jmp_g ?_
        | refine thenI_g ?_
        | refine inB_g ?_
        | refine IWP_goto ?_
        | refine Loop_n ?_
        | fail)
      exact pD [] ⟨rfl, rfl⟩
    · have hne : ¬ hashV (k ++ [a]) = hashV (k ++ [b]) := fun x => hab (step_inj hl.1 hl.2 (by rw [← hash_snoc, ← hash_snoc]; exact x))
      have hne2 : ¬ a.toNat = b.toNat := fun x => hab (UInt8.toNat_inj.1 x)
      refine sB Try.func6 Try.ntmps6 ?_
      repeat' (first
        | refine IOps_nil ?_
        | refine oS ?_
        | refine IOps_s rfl rfl ?_
        | refine oT ?_
        | refine IOps_s0 rfl ?_
        | refine oC (π := []) (hs := by first | exact thing_awake | fail) (hx := ?_)
        | refine oC (π := []) (hs := by first | exact s1 | fail) (hx := ?_)
        | refine oC (π := []) (hs := by first | exact s2 | fail) (hx := ?_)
        | refine oC (π := []) (hs := by first | exact s3 | fail) (hx := ?_)
        | refine oZ ?_
        | refine oI ?_
        | refine thenI_n ?_
        | refine IWP_seq ?_
        | refine IWP_region ?_
        | refine IWP_ct rfl ?_
        | refine IWP_cf rfl ?_
        | refine IWP_skip ?_
        | refine IWP_ret ?_
        | refine IWP_block ?_
        | refine inB_n ?_
        | refine thenI_r ?_
        | refine thenI_e ?_
        | refine inB_r ?_
        | refine inB_hit ?_
        | refine inB_miss rfl ?_
        | refine IWP_exit ?_
        | refine IWP_scope ?_
        | refine IWP_label ?_
        | refine noG_n ?_
        | refine noG_r ?_
        | refine noG_e ?_
        | refine jmp_n ?_
        | refine jmp_r ?_
        | refine jmp_e ?_
        | refine jmp_g ?_
        | refine thenI_g ?_
        | refine inB_g ?_
        | refine IWP_goto ?_
        | refine Loop_n ?_
        | fail)
      exact pD [] ⟨rfl, rfl⟩
  · refine sB Try.func6 Try.ntmps6 ?_
    repeat' (first
      | refine IOps_nil ?_
      | refine oS ?_
      | refine IOps_s rfl rfl ?_
      | refine oT ?_
      | refine IOps_s0 rfl ?_
      | refine oC (π := []) (hs := by first | exact thing_awake | fail) (hx := ?_)
      | refine oZ ?_
      | refine oI ?_
      | refine thenI_n ?_
      | refine IWP_seq ?_
      | refine IWP_region ?_
      | refine IWP_ct rfl ?_
      | refine IWP_cf rfl ?_
      | refine IWP_skip ?_
      | refine IWP_ret ?_
      | refine IWP_block ?_
      | refine inB_n ?_
      | refine thenI_r ?_
      | refine thenI_e ?_
      | refine inB_r ?_
      | refine inB_hit ?_
      | refine inB_miss rfl ?_
      | refine IWP_exit ?_
      | refine IWP_scope ?_
      | refine IWP_label ?_
      | refine noG_n ?_
      | refine noG_r ?_
      | refine noG_e ?_
      | refine jmp_n ?_
      | refine jmp_r ?_
      | refine jmp_e ?_
      | refine jmp_g ?_
      | refine thenI_g ?_
      | refine inB_g ?_
      | refine IWP_goto ?_
      | refine Loop_n ?_
      | fail)
    exact pD [] ⟨rfl, rfl⟩
theorem lhome_law (k : Ks) (n : Int) (b : UInt8) (hk : k.length ≤ 9223372036854775807) (hn0 : -9223372036854775808 ≤ n) (hn : n ≤ 9223372036854775807) : Idl.Spec Try.prog 7 [.sc (.string ⟨⟨k⟩⟩), .i64 n, .sc (.int .u8 b.toNat)] [] (Only (.sc (.bool true)) []) := by
  by_cases h1 : k.length ≤ 1000
  · have s1 := home_spec k n (by omega) hn
    have hl := hash_lt k
    have hb : b.toNat % 60 < 60 := Nat.mod_lt _ (by decide)
    have hp : (2 : Int) ^ (b.toNat % 60) ≤ 2 ^ 59 := by
      have : 2 ^ (b.toNat % 60) ≤ 2 ^ 59 := Nat.pow_le_pow_right (by decide) (by omega)
      exact_mod_cast this
    have hp0 : (1 : Int) ≤ (2 : Int) ^ (b.toNat % 60) := by
      have : 1 ≤ 2 ^ (b.toNat % 60) := Nat.pow_pos (by decide)
      exact_mod_cast this
    have hlow := iand_low hl.1 hl.2 hb
    have s2 := home_spec k ((2 : Int) ^ (b.toNat % 60)) (by omega) (by omega)
    rw [show homeV k ((2 : Int) ^ (b.toNat % 60)) = hashV k % (2 : Int) ^ (b.toNat % 60) from if_neg (by omega)] at s2
    have s3 := home_spec k 1 (by omega) (by omega)
    rw [show homeV k 1 = 0 by unfold homeV; rw [if_neg (by omega)]; omega] at s3
    have s4 := hash_spec k (by omega)
    by_cases hn1 : n < 1
    · rw [show homeV k n = 0 from if_pos hn1] at s1
      refine sB Try.func7 Try.ntmps7 ?_
      repeat' (first
        | refine IOps_nil ?_
        | refine oS ?_
        | refine IOps_s rfl rfl ?_
        | refine oT ?_
        | refine IOps_s0 rfl ?_
        | refine oC (π := []) (hs := by first | exact thing_awake | fail) (hx := ?_)
        | refine oC (π := []) (hs := by first | exact s1 | fail) (hx := ?_)
        | refine oC (π := []) (hs := by first | exact s2 | fail) (hx := ?_)
        | refine oC (π := []) (hs := by first | exact s3 | fail) (hx := ?_)
        | refine oC (π := []) (hs := by first | exact s4 | fail) (hx := ?_)
        | refine oZ ?_
        | refine oI ?_
        | refine thenI_n ?_
        | refine IWP_seq ?_
        | refine IWP_region ?_
        | refine IWP_ct rfl ?_
        | refine IWP_cf rfl ?_
        | refine IWP_skip ?_
        | refine IWP_ret ?_
        | refine IWP_block ?_
        | refine inB_n ?_
        | refine thenI_r ?_
        | refine thenI_e ?_
        | refine inB_r ?_
        | refine inB_hit ?_
        | refine inB_miss rfl ?_
        | refine IWP_exit ?_
        | refine IWP_scope ?_
        | refine IWP_label ?_
        | refine noG_n ?_
        | refine noG_r ?_
        | refine noG_e ?_
        | refine jmp_n ?_
        | refine jmp_r ?_
        | refine jmp_e ?_
        | refine jmp_g ?_
        | refine thenI_g ?_
        | refine inB_g ?_
        | refine IWP_goto ?_
        | refine Loop_n ?_
        | fail)
      exact pD [] ⟨rfl, rfl⟩
    · have m0 : 0 ≤ homeV k n := by unfold homeV; rw [if_neg hn1]; exact Int.emod_nonneg _ (by omega)
      have m1 : homeV k n < n := by unfold homeV; rw [if_neg hn1]; exact Int.emod_lt_of_pos _ (by omega)
      generalize homeV k n = m at s1 m0 m1
      refine sB Try.func7 Try.ntmps7 ?_
      repeat' (first
        | refine IOps_nil ?_
        | refine oS ?_
        | refine IOps_s rfl rfl ?_
        | refine oT ?_
        | refine IOps_s0 rfl ?_
        | refine oC (π := []) (hs := by first | exact thing_awake | fail) (hx := ?_)
        | refine oC (π := []) (hs := by first | exact s1 | fail) (hx := ?_)
        | refine oC (π := []) (hs := by first | exact s2 | fail) (hx := ?_)
        | refine oC (π := []) (hs := by first | exact s3 | fail) (hx := ?_)
        | refine oC (π := []) (hs := by first | exact s4 | fail) (hx := ?_)
        | refine oZ ?_
        | refine oI ?_
        | refine thenI_n ?_
        | refine IWP_seq ?_
        | refine IWP_region ?_
        | refine IWP_ct rfl ?_
        | refine IWP_cf rfl ?_
        | refine IWP_skip ?_
        | refine IWP_ret ?_
        | refine IWP_block ?_
        | refine inB_n ?_
        | refine thenI_r ?_
        | refine thenI_e ?_
        | refine inB_r ?_
        | refine inB_hit ?_
        | refine inB_miss rfl ?_
        | refine IWP_exit ?_
        | refine IWP_scope ?_
        | refine IWP_label ?_
        | refine noG_n ?_
        | refine noG_r ?_
        | refine noG_e ?_
        | refine jmp_n ?_
        | refine jmp_r ?_
        | refine jmp_e ?_
        | refine jmp_g ?_
        | refine thenI_g ?_
        | refine inB_g ?_
        | refine IWP_goto ?_
        | refine Loop_n ?_
        | fail)
      exact pD [] ⟨rfl, rfl⟩
  · refine sB Try.func7 Try.ntmps7 ?_
    repeat' (first
      | refine IOps_nil ?_
      | refine oS ?_
      | refine IOps_s rfl rfl ?_
      | refine oT ?_
      | refine IOps_s0 rfl ?_
      | refine oC (π := []) (hs := by first | exact thing_awake | fail) (hx := ?_)
      | refine oZ ?_
      | refine oI ?_
      | refine thenI_n ?_
      | refine IWP_seq ?_
      | refine IWP_region ?_
      | refine IWP_ct rfl ?_
      | refine IWP_cf rfl ?_
      | refine IWP_skip ?_
      | refine IWP_ret ?_
      | refine IWP_block ?_
      | refine inB_n ?_
      | refine thenI_r ?_
      | refine thenI_e ?_
      | refine inB_r ?_
      | refine inB_hit ?_
      | refine inB_miss rfl ?_
      | refine IWP_exit ?_
      | refine IWP_scope ?_
      | refine IWP_label ?_
      | refine noG_n ?_
      | refine noG_r ?_
      | refine noG_e ?_
      | refine jmp_n ?_
      | refine jmp_r ?_
      | refine jmp_e ?_
      | refine jmp_g ?_
      | refine thenI_g ?_
      | refine inB_g ?_
      | refine IWP_goto ?_
      | refine Loop_n ?_
      | fail)
    exact pD [] ⟨rfl, rfl⟩
end Go.Proofs.Ytmgcoopmbohkoaa
