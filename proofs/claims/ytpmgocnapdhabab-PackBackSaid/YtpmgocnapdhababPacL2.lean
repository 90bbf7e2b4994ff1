/-
  The laws PackBack and PackOwn.
-/
import Derived.Test.YtpmgocnapdhababPacL1
namespace Go.Proofs.Ytpmgocnapdhabab
open Go Go.Idl
set_option linter.unusedSimpArgs false
set_option linter.unusedVariables false
set_option maxRecDepth 100000
set_option maxHeartbeats 1000000
attribute [local irreducible] Go.Idl.IWP Go.Idl.IOps Go.Idl.Obl Go.Idl.OpG Go.Idl.thenI Go.Idl.inBlockI Go.Idl.LoopU Go.Idl.noGotoI Go.Idl.jumpI
attribute [local go_sem] List.append_assoc
theorem encs_drop {l : List Int} {i : Nat} (h : i < l.length) : encs (l.drop i) = enc (l.getD i 0) ++ encs (l.drop (i + 1)) := by
  rw [List.getD_eq_getElem?_getD, List.getElem?_eq_getElem h, Option.getD_some, List.drop_eq_getElem_cons h]
  rfl
theorem mem_drop_len {l : List Int} {i : Nat} : (encs (l.drop i)).length ≤ 10 * l.length := by
  have := encs_len (l.drop i); simp at this; omega
theorem taken {n : Int} (h0 : 0 ≤ n) (h1 : n < 18446744073709551616) (r : List UInt8) : tv (enc n ++ r) = n ∧ tr (enc n ++ r) = r ∧ te (enc n ++ r) = 0 := by
  unfold tv tr te; rw [takeV_enc h0 h1]; exact ⟨rfl, rfl, rfl⟩
theorem takenL {l : List (List UInt8)} (hl : l.length ≤ 100) (ht : ∀ t ∈ l, t.length ≤ 1000) (r : List UInt8) : lv (encL l ++ r) = l ∧ lr (encL l ++ r) = r ∧ le (encL l ++ r) = 0 := by
  unfold lv lr le; rw [takeL_enc l r (by omega) (fun t h => by have := ht t h; omega)]; exact ⟨rfl, rfl, rfl⟩
theorem encL_len {l : List (List UInt8)} (hl : l.length ≤ 100) (ht : ∀ t ∈ l, t.length ≤ 1000) : (encL l).length ≤ 200000 := by
  have h1 := enc_len l.length
  have : (encTs l).length ≤ 1010 * l.length := by
    clear h1 hl
    induction l with
    | nil => simp [encTs]
    | cons t l ih =>
      have h1 := enc_len t.length
      have h2 := ht t (by simp)
      have e : encTs (t :: l) = encT t ++ encTs l := rfl
      have := ih fun x hx => ht x (by simp [hx])
      rw [e]; simp [encT]; omega
  unfold encL; simp; omega

theorem back_spec (l : List Int) (t : List (List UInt8)) (b : List UInt8) (hl : l.length ≤ 9223372036854775807) (hn : ∀ n ∈ l, 0 ≤ n ∧ n < 18446744073709551616)
    (ht : t.length ≤ 9223372036854775807) (ht2 : ∀ x ∈ t, x.length ≤ 9223372036854775807) (hb : b.length ≤ 9223372036854775807) :
    Idl.Spec Try.prog 4 [.fz false (u64s l) l.length, .fz false (strs t) t.length, .str b] [] (Only (.sc (.bool true)) []) := by
  have hf := few_spec t 100 ht ht2
  refine sB Try.func4 Try.ntmps4 ?_
  by_cases hl1 : l.length > 100
  · repeat' (first
      | refine IOps_nil ?_
      | refine oS ?_
      | refine IOps_s rfl rfl ?_
      | refine oT ?_
      | refine IOps_s0 rfl ?_
      | refine oC (π := []) (hs := by first | exact awake_spec | fail) (hx := ?_)
      | refine oZ ?_
      | refine oI ?_
      | refine thenI_n ?_
      | refine IWP_seq ?_
      | refine IWP_region ?_
      | refine IWP_ct rfl ?_
      | refine IWP_cf rfl ?_
      | refine IWP_skip ?_
      | refine IWP_ret ?_
      | refine IWP_block ?_
      | refine inB_n ?_
      | refine thenI_r ?_
      | refine thenI_e ?_
      | refine inB_r ?_
      | refine inB_hit ?_
      | refine inB_miss rfl ?_
      | refine IWP_exit ?_
      | refine IWP_scope ?_
      | refine IWP_label ?_
      | refine noG_n ?_
      | refine noG_r ?_
      | refine noG_e ?_
      | refine jmp_n ?_
      | refine jmp_r ?_
      | refine jmp_e ?_
      | refine jmp_g ?_
      | refine thenI_g ?_
      | refine inB_g ?_
      | refine IWP_goto ?_
      | refine Loop_n ?_
      | fail)
    exact pD [] ⟨rfl, rfl⟩
  · cases hfw : few t 100 with
    | false =>
      rw [hfw] at hf
      repeat' (first
        | refine IOps_nil ?_
        | refine oS ?_
        | refine IOps_s rfl rfl ?_
        | refine oT ?_
        | refine IOps_s0 rfl ?_
        | refine oC (π := []) (hs := by first | exact awake_spec | fail) (hx := ?_)
        | refine oC (π := []) (hs := by first | exact hf | fail) (hx := ?_)
        | refine oZ ?_
        | refine oI ?_
        | refine thenI_n ?_
        | refine IWP_seq ?_
        | refine IWP_region ?_
        | refine IWP_ct rfl ?_
        | refine IWP_cf rfl ?_
        | refine IWP_skip ?_
        | refine IWP_ret ?_
        | refine IWP_block ?_
        | refine inB_n ?_
        | refine thenI_r ?_
        | refine thenI_e ?_
        | refine inB_r ?_
        | refine inB_hit ?_
        | refine inB_miss rfl ?_
        | refine IWP_exit ?_
        | refine IWP_scope ?_
        | refine IWP_label ?_
        | refine noG_n ?_
        | refine noG_r ?_
        | refine noG_e ?_
        | refine jmp_n ?_
        | refine jmp_r ?_
        | refine jmp_e ?_
        | refine jmp_g ?_
        | refine thenI_g ?_
        | refine inB_g ?_
        | refine IWP_goto ?_
        | refine Loop_n ?_
        | fail)
      exact pD [] ⟨rfl, rfl⟩
    | true =>
      rw [hfw] at hf
      obtain ⟨f1, f2⟩ := few_true hfw
      by_cases hb1 : b.length > 1000
      · repeat' (first
          | refine IOps_nil ?_
          | refine oS ?_
          | refine IOps_s rfl rfl ?_
          | refine oT ?_
          | refine IOps_s0 rfl ?_
          | refine oC (π := []) (hs := by first | exact awake_spec | fail) (hx := ?_)
          | refine oC (π := []) (hs := by first | exact hf | fail) (hx := ?_)
          | refine oZ ?_
          | refine oI ?_
          | refine thenI_n ?_
          | refine IWP_seq ?_
          | refine IWP_region ?_
          | refine IWP_ct rfl ?_
          | refine IWP_cf rfl ?_
          | refine IWP_skip ?_
          | refine IWP_ret ?_
          | refine IWP_block ?_
          | refine inB_n ?_
          | refine thenI_r ?_
          | refine thenI_e ?_
          | refine inB_r ?_
          | refine inB_hit ?_
          | refine inB_miss rfl ?_
          | refine IWP_exit ?_
          | refine IWP_scope ?_
          | refine IWP_label ?_
          | refine noG_n ?_
          | refine noG_r ?_
          | refine noG_e ?_
          | refine jmp_n ?_
          | refine jmp_r ?_
          | refine jmp_e ?_
          | refine jmp_g ?_
          | refine thenI_g ?_
          | refine inB_g ?_
          | refine IWP_goto ?_
          | refine Loop_n ?_
          | fail)
        exact pD [] ⟨rfl, rfl⟩
      · have hel := encs_len l
        have hLl := encL_len f1 f2
        have hts := texts_spec ([] ++ encs l) t (by simp; omega) (by omega) (fun x hx => by have := f2 x hx; omega)
        have hp := put_spec [] l (by simp) (by omega) hn
        rw [List.nil_append] at hts hp
        have htk := takenL f1 f2 b
        have hlt := texts1 (encL t ++ b) (by simp; omega)
        rw [htk.1, htk.2.1, htk.2.2] at hlt
        have hsm := same_spec t t (by omega) (by omega)
        rw [decide_eq_true rfl] at hsm
        repeat' (first
          | refine IOps_nil ?_
          | refine oS ?_
          | refine IOps_s rfl rfl ?_
          | refine oT ?_
          | refine IOps_s0 rfl ?_
          | refine oC (π := []) (hs := by first | exact awake_spec | fail) (hx := ?_)
          | refine oC (π := []) (hs := by first | exact hf | fail) (hx := ?_)
          | refine oC (π := []) (hs := by first | exact hp | fail) (hx := ?_)
          | refine oC (π := []) (hs := by first | exact hts | fail) (hx := ?_)
          | refine oZ ?_
          | refine oI ?_
          | refine thenI_n ?_
          | refine IWP_seq ?_
          | refine IWP_region ?_
          | refine IWP_ct rfl ?_
          | refine IWP_cf rfl ?_
          | refine IWP_skip ?_
          | refine IWP_ret ?_
          | refine IWP_block ?_
          | refine inB_n ?_
          | refine thenI_r ?_
          | refine thenI_e ?_
          | refine inB_r ?_
          | refine inB_hit ?_
          | refine inB_miss rfl ?_
          | refine IWP_exit ?_
          | refine IWP_scope ?_
          | refine IWP_label ?_
          | refine noG_n ?_
          | refine noG_r ?_
          | refine noG_e ?_
          | refine jmp_n ?_
          | refine jmp_r ?_
          | refine jmp_e ?_
          | refine jmp_g ?_
          | refine thenI_g ?_
          | refine inB_g ?_
          | refine IWP_goto ?_
          | refine Loop_n ?_
          | fail)
        refine IWP_loop (fun i : Nat => ⟨91, [(0, .fz false (u64s l) l.length), (1, .fz false (strs t) t.length), (2, .str b), (7, .sc (.bool true)), (8, .str (encs (l.drop i) ++ (encL t ++ b))), (9, .i64 i)], []⟩)
          (fun i => i ≤ l.length) (fun i => l.length - i) 0 (lP []) (Nat.zero_le _) ?_
        intro i hi
        by_cases hil : i < l.length
        · have hg := hn _ (mem_getD (z := 0) hil)
          have hm := mem_drop_len (l := l) (i := i + 1)
          have he := enc_len (l.getD i 0)
          have htk := taken hg.1 hg.2 (encs (l.drop (i + 1)) ++ (encL t ++ b))
          have htv := take1 (enc (l.getD i 0) ++ (encs (l.drop (i + 1)) ++ (encL t ++ b))) (by simp only [List.length_append]; omega)
          rw [htk.1, htk.2.1, htk.2.2] at htv
          rw [encs_drop hil, List.append_assoc]
          repeat' (first
            | refine IOps_nil ?_
            | refine oS ?_
            | refine IOps_s rfl rfl ?_
            | refine oT ?_
            | refine IOps_s0 rfl ?_
            | refine oC (π := []) (hs := by first | exact htv | fail) (hx := ?_)
            | refine oC (π := []) (hs := by first | exact (size_spec _ hg.1 hg.2) | fail) (hx := ?_)
            | refine oZ ?_
            | refine oI ?_
            | refine thenI_n ?_
            | refine IWP_seq ?_
            | refine IWP_region ?_
            | refine IWP_ct rfl ?_
            | refine IWP_cf rfl ?_
            | refine IWP_skip ?_
            | refine IWP_ret ?_
            | refine IWP_block ?_
            | refine inB_n ?_
            | refine thenI_r ?_
            | refine thenI_e ?_
            | refine inB_r ?_
            | refine inB_hit ?_
            | refine inB_miss rfl ?_
            | refine IWP_exit ?_
            | refine IWP_scope ?_
            | refine IWP_label ?_
            | refine noG_n ?_
            | refine noG_r ?_
            | refine noG_e ?_
            | refine jmp_n ?_
            | refine jmp_r ?_
            | refine jmp_e ?_
            | refine jmp_g ?_
            | refine thenI_g ?_
            | refine inB_g ?_
            | refine IWP_goto ?_
            | refine Loop_n ?_
            | fail)
          exact ⟨i + 1, hil, by omega, lP []⟩
        · obtain rfl : i = l.length := by omega
          rw [show encs (l.drop l.length) ++ (encL t ++ b) = encL t ++ b by simp [encs]]
          repeat' (first
            | refine IOps_nil ?_
            | refine oS ?_
            | refine IOps_s rfl rfl ?_
            | refine oT ?_
            | refine IOps_s0 rfl ?_
            | refine oC (π := []) (hs := by first | exact hlt | fail) (hx := ?_)
            | refine oC (π := []) (hs := by first | exact hsm | fail) (hx := ?_)
            | refine oZ ?_
            | refine oI ?_
            | refine thenI_n ?_
            | refine IWP_seq ?_
            | refine IWP_region ?_
            | refine IWP_ct rfl ?_
            | refine IWP_cf rfl ?_
            | refine IWP_skip ?_
            | refine IWP_ret ?_
            | refine IWP_block ?_
            | refine inB_n ?_
            | refine thenI_r ?_
            | refine thenI_e ?_
            | refine inB_r ?_
            | refine inB_hit ?_
            | refine inB_miss rfl ?_
            | refine IWP_exit ?_
            | refine IWP_scope ?_
            | refine IWP_label ?_
            | refine noG_n ?_
            | refine noG_r ?_
            | refine noG_e ?_
            | refine jmp_n ?_
            | refine jmp_r ?_
            | refine jmp_e ?_
            | refine jmp_g ?_
            | refine thenI_g ?_
            | refine inB_g ?_
            | refine IWP_goto ?_
            | refine Loop_n ?_
            | fail)
          exact pD [] ⟨rfl, rfl⟩

theorem encL_mem {l : List (List UInt8)} {t : List UInt8} (h : t ∈ l) : t.length ≤ (encL l).length := by
  have : t.length ≤ (encTs l).length := by
    induction l with
    | nil => cases h
    | cons x l ih =>
      have e : encTs (x :: l) = encT x ++ encTs l := rfl
      rw [e]
      rcases List.mem_cons.1 h with rfl | h
      · simp [encT]; omega
      · have := ih h; simp; omega
  unfold encL; simp; omega
theorem own_texts (l : List (List UInt8)) (hl : l.length ≤ 1000) (ht : ∀ t ∈ l, t.length ≤ 1000) : Idl.Spec Try.prog 22 [.str [], .fz false (strs l) l.length] [] (Only (.str (encL l)) []) := by
  have := texts_spec [] l (by simp) (by omega) (fun t h => by have := ht t h; omega)
  rwa [List.nil_append] at this

theorem own_spec (b : List UInt8) (hb : b.length ≤ 9223372036854775807) : Idl.Spec Try.prog 5 [.str b] [] (Only (.sc (.bool true)) []) := by
  refine sB Try.func5 Try.ntmps5 ?_
  by_cases hb1 : b.length > 1000
  · repeat' (first
      | refine IOps_nil ?_
      | refine oS ?_
      | refine IOps_s rfl rfl ?_
      | refine oT ?_
      | refine IOps_s0 rfl ?_
      | refine oC (π := []) (hs := by first | exact awake_spec | fail) (hx := ?_)
      | refine oZ ?_
      | refine oI ?_
      | refine thenI_n ?_
      | refine IWP_seq ?_
      | refine IWP_region ?_
      | refine IWP_ct rfl ?_
      | refine IWP_cf rfl ?_
      | refine IWP_skip ?_
      | refine IWP_ret ?_
      | refine IWP_block ?_
      | refine inB_n ?_
      | refine thenI_r ?_
      | refine thenI_e ?_
      | refine inB_r ?_
      | refine inB_hit ?_
      | refine inB_miss rfl ?_
      | refine IWP_exit ?_
      | refine IWP_scope ?_
      | refine IWP_label ?_
      | refine noG_n ?_
      | refine noG_r ?_
      | refine noG_e ?_
      | refine jmp_n ?_
      | refine jmp_r ?_
      | refine jmp_e ?_
      | refine jmp_g ?_
      | refine thenI_g ?_
      | refine inB_g ?_
      | refine IWP_goto ?_
      | refine Loop_n ?_
      | fail)
    exact pD [] ⟨rfl, rfl⟩
  · have a1 := take_spec b (by omega)
    have a2 := takeText_spec b (by omega)
    have a3 := takeTexts_spec b (by omega)
    unfold takeR at a1
    unfold takeTR at a2
    unfold takeLR at a3
    cases c1 : takeV b with
    | none =>
      have c2 : takeT b = none := by unfold takeT; rw [c1]
      have c3 : takeL b = none := by unfold takeL; rw [c1]
      rw [c1] at a1; rw [c2] at a2; rw [c3] at a3
      repeat' (first
        | refine IOps_nil ?_
        | refine oS ?_
        | refine IOps_s rfl rfl ?_
        | refine oT ?_
        | refine IOps_s0 rfl ?_
        | refine oC (π := []) (hs := by first | exact awake_spec | fail) (hx := ?_)
        | refine oC (π := []) (hs := by first | exact a1 | fail) (hx := ?_)
        | refine oC (π := []) (hs := by first | exact a2 | fail) (hx := ?_)
        | refine oC (π := []) (hs := by first | exact a3 | fail) (hx := ?_)
        | refine oZ ?_
        | refine oI ?_
        | refine thenI_n ?_
        | refine IWP_seq ?_
        | refine IWP_region ?_
        | refine IWP_ct rfl ?_
        | refine IWP_cf rfl ?_
        | refine IWP_skip ?_
        | refine IWP_ret ?_
        | refine IWP_block ?_
        | refine inB_n ?_
        | refine thenI_r ?_
        | refine thenI_e ?_
        | refine inB_r ?_
        | refine inB_hit ?_
        | refine inB_miss rfl ?_
        | refine IWP_exit ?_
        | refine IWP_scope ?_
        | refine IWP_label ?_
        | refine noG_n ?_
        | refine noG_r ?_
        | refine noG_e ?_
        | refine jmp_n ?_
        | refine jmp_r ?_
        | refine jmp_e ?_
        | refine jmp_g ?_
        | refine thenI_g ?_
        | refine inB_g ?_
        | refine IWP_goto ?_
        | refine Loop_n ?_
        | fail)
      exact pD [] ⟨rfl, rfl⟩
    | some x =>
      obtain ⟨n, r⟩ := x
      obtain ⟨o1, o2, o3⟩ := takeV_own c1
      have hp := put_spec [] [n] (by simp) (by simp) (fun m hm => by simp at hm; omega)
      rw [show [] ++ encs [n] = enc n by simp [encs]] at hp
      rw [c1] at a1
      have b1 := congrArg List.length o1
      simp only [List.length_append] at b1
      simp only at a1
      have o1' := o1.symm
      cases c2 : takeT b with
      | none =>
        rw [c2] at a2
        cases c3 : takeL b with
        | none =>
          rw [c3] at a3
          repeat' (first
            | refine IOps_nil ?_
            | refine oS ?_
            | refine IOps_s rfl rfl ?_
            | refine oT ?_
            | refine IOps_s0 rfl ?_
            | refine oC (π := []) (hs := by first | exact awake_spec | fail) (hx := ?_)
            | refine oC (π := []) (hs := by first | exact a1 | fail) (hx := ?_)
            | refine oC (π := []) (hs := by first | exact a2 | fail) (hx := ?_)
            | refine oC (π := []) (hs := by first | exact a3 | fail) (hx := ?_)
            | refine oC (π := []) (hs := by first | exact hp | fail) (hx := ?_)
            | refine oZ ?_
            | refine oI ?_
            | refine thenI_n ?_
            | refine IWP_seq ?_
            | refine IWP_region ?_
            | refine IWP_ct rfl ?_
            | refine IWP_cf rfl ?_
            | refine IWP_skip ?_
            | refine IWP_ret ?_
            | refine IWP_block ?_
            | refine inB_n ?_
            | refine thenI_r ?_
            | refine thenI_e ?_
            | refine inB_r ?_
            | refine inB_hit ?_
            | refine inB_miss rfl ?_
            | refine IWP_exit ?_
            | refine IWP_scope ?_
            | refine IWP_label ?_
            | refine noG_n ?_
            | refine noG_r ?_
            | refine noG_e ?_
            | refine jmp_n ?_
            | refine jmp_r ?_
            | refine jmp_e ?_
            | refine jmp_g ?_
            | refine thenI_g ?_
            | refine inB_g ?_
            | refine IWP_goto ?_
            | refine Loop_n ?_
            | fail)
          exact pD [] ⟨rfl, rfl⟩
        | some z =>
          obtain ⟨l, q⟩ := z
          obtain ⟨l1, l2, l3⟩ := takeL_own c3
          have l1' := l1.symm
          have b3 := congrArg List.length l1
          simp only [List.length_append] at b3
          rw [c3] at a3
          simp only at a3
          have ht := own_texts l (by omega) (fun t ht => by
            have := encL_mem ht
            omega)
          repeat' (first
            | refine IOps_nil ?_
            | refine oS ?_
            | refine IOps_s rfl rfl ?_
            | refine oT ?_
            | refine IOps_s0 rfl ?_
            | refine oC (π := []) (hs := by first | exact awake_spec | fail) (hx := ?_)
            | refine oC (π := []) (hs := by first | exact a1 | fail) (hx := ?_)
            | refine oC (π := []) (hs := by first | exact a2 | fail) (hx := ?_)
            | refine oC (π := []) (hs := by first | exact a3 | fail) (hx := ?_)
            | refine oC (π := []) (hs := by first | exact hp | fail) (hx := ?_)
            | refine oC (π := []) (hs := by first | exact ht | fail) (hx := ?_)
            | refine oZ ?_
            | refine oI ?_
            | refine thenI_n ?_
            | refine IWP_seq ?_
            | refine IWP_region ?_
            | refine IWP_ct rfl ?_
            | refine IWP_cf rfl ?_
            | refine IWP_skip ?_
            | refine IWP_ret ?_
            | refine IWP_block ?_
            | refine inB_n ?_
            | refine thenI_r ?_
            | refine thenI_e ?_
            | refine inB_r ?_
            | refine inB_hit ?_
            | refine inB_miss rfl ?_
            | refine IWP_exit ?_
            | refine IWP_scope ?_
            | refine IWP_label ?_
            | refine noG_n ?_
            | refine noG_r ?_
            | refine noG_e ?_
            | refine jmp_n ?_
            | refine jmp_r ?_
            | refine jmp_e ?_
            | refine jmp_g ?_
            | refine thenI_g ?_
            | refine inB_g ?_
            | refine IWP_goto ?_
            | refine Loop_n ?_
            | fail)
          exact pD [] ⟨rfl, rfl⟩
      | some y =>
        obtain ⟨t, p⟩ := y
        obtain ⟨t1, t2, t3, t4⟩ := takeT_own c2
        have t1' := t1.symm
        have b2 := congrArg List.length t1
        simp only [List.length_append] at b2
        rw [c2] at a2
        simp only at a2
        have htx := text_spec [] t (by simp) (by omega)
        rw [List.nil_append] at htx
        cases c3 : takeL b with
        | none =>
          rw [c3] at a3
          repeat' (first
            | refine IOps_nil ?_
            | refine oS ?_
            | refine IOps_s rfl rfl ?_
            | refine oT ?_
            | refine IOps_s0 rfl ?_
            | refine oC (π := []) (hs := by first | exact awake_spec | fail) (hx := ?_)
            | refine oC (π := []) (hs := by first | exact a1 | fail) (hx := ?_)
            | refine oC (π := []) (hs := by first | exact a2 | fail) (hx := ?_)
            | refine oC (π := []) (hs := by first | exact a3 | fail) (hx := ?_)
            | refine oC (π := []) (hs := by first | exact hp | fail) (hx := ?_)
            | refine oC (π := []) (hs := by first | exact htx | fail) (hx := ?_)
            | refine oZ ?_
            | refine oI ?_
            | refine thenI_n ?_
            | refine IWP_seq ?_
            | refine IWP_region ?_
            | refine IWP_ct rfl ?_
            | refine IWP_cf rfl ?_
            | refine IWP_skip ?_
            | refine IWP_ret ?_
            | refine IWP_block ?_
            | refine inB_n ?_
            | refine thenI_r ?_
            | refine thenI_e ?_
            | refine inB_r ?_
            | refine inB_hit ?_
            | refine inB_miss rfl ?_
            | refine IWP_exit ?_
            | refine IWP_scope ?_
            | refine IWP_label ?_
            | refine noG_n ?_
            | refine noG_r ?_
            | refine noG_e ?_
            | refine jmp_n ?_
            | refine jmp_r ?_
            | refine jmp_e ?_
            | refine jmp_g ?_
            | refine thenI_g ?_
            | refine inB_g ?_
            | refine IWP_goto ?_
            | refine Loop_n ?_
            | fail)
          exact pD [] ⟨rfl, rfl⟩
        | some z =>
          obtain ⟨l, q⟩ := z
          obtain ⟨l1, l2, l3⟩ := takeL_own c3
          have l1' := l1.symm
          have b3 := congrArg List.length l1
          simp only [List.length_append] at b3
          rw [c3] at a3
          simp only at a3
          have ht := own_texts l (by omega) (fun t ht => by
            have := encL_mem ht
            omega)
          repeat' (first
            | refine IOps_nil ?_
            | refine oS ?_
            | refine IOps_s rfl rfl ?_
            | refine oT ?_
            | refine IOps_s0 rfl ?_
            | refine oC (π := []) (hs := by first | exact awake_spec | fail) (hx := ?_)
            | refine oC (π := []) (hs := by first | exact a1 | fail) (hx := ?_)
            | refine oC (π := []) (hs := by first | exact a2 | fail) (hx := ?_)
            | refine oC (π := []) (hs := by first | exact a3 | fail) (hx := ?_)
            | refine oC (π := []) (hs := by first | exact hp | fail) (hx := ?_)
            | refine oC (π := []) (hs := by first | exact htx | fail) (hx := ?_)
            | refine oC (π := []) (hs := by first | exact ht | fail) (hx := ?_)
            | refine oZ ?_
            | refine oI ?_
            | refine thenI_n ?_
            | refine IWP_seq ?_
            | refine IWP_region ?_
            | refine IWP_ct rfl ?_
            | refine IWP_cf rfl ?_
            | refine IWP_skip ?_
            | refine IWP_ret ?_
            | refine IWP_block ?_
            | refine inB_n ?_
            | refine thenI_r ?_
            | refine thenI_e ?_
            | refine inB_r ?_
            | refine inB_hit ?_
            | refine inB_miss rfl ?_
            | refine IWP_exit ?_
            | refine IWP_scope ?_
            | refine IWP_label ?_
            | refine noG_n ?_
            | refine noG_r ?_
            | refine noG_e ?_
            | refine jmp_n ?_
            | refine jmp_r ?_
            | refine jmp_e ?_
            | refine jmp_g ?_
            | refine thenI_g ?_
            | refine inB_g ?_
            | refine IWP_goto ?_
            | refine Loop_n ?_
            | fail)
          exact pD [] ⟨rfl, rfl⟩
end Go.Proofs.Ytpmgocnapdhabab
