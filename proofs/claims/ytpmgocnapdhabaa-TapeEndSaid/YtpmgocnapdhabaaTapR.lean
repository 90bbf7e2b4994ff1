import Derived.Test.YtpmgocnapdhabaaTapS
namespace Go.Proofs.Ytpmgocnapdhabaa
open Go Go.Idl
set_option linter.unusedSimpArgs false
set_option linter.unusedVariables false
set_option maxRecDepth 100000
set_option maxHeartbeats 1000000
attribute [local irreducible] Go.Idl.IWP Go.Idl.IOps Go.Idl.Obl Go.Idl.OpG Go.Idl.thenI Go.Idl.inBlockI Go.Idl.LoopU

/-- The places from i on that are not taken. -/
def fr (tk : List Bool) (n i : Nat) : List Nat := (List.range' i (n - i)).filter fun j => !tk.getD j default
theorem fr_end (tk : List Bool) (n : Nat) : fr tk n n = [] := by simp [fr]
theorem fr_step {tk : List Bool} {n i : Nat} (h : i < n) : fr tk n i = if tk.getD i default then fr tk n (i + 1) else i :: fr tk n (i + 1) := by
  unfold fr
  rw [show n - i = (n - (i + 1)) + 1 by omega, List.range'_succ, List.filter_cons]
  cases tk.getD i default <;> rfl
theorem fr_new (n : Nat) : (fr (List.replicate n false) n 0).map Int.ofNat = upto n := by
  have : fr (List.replicate n false) n 0 = List.range n := by
    unfold fr
    rw [Nat.sub_zero, ← List.range_eq_range', List.filter_eq_self]
    intro a ha
    have : a < n := List.mem_range.1 ha
    simp [List.getD_eq_getElem?_getD, this]
  rw [this]; rfl
theorem fr_nodup (tk : List Bool) (n i : Nat) : (fr tk n i).Nodup := (List.nodup_range').filter _
theorem fr_take {tk : List Bool} {n a x : Nat} (hx : (fr tk n 0)[a]? = some x) (hn : n = tk.length) : fr (tk.set x true) n 0 = (fr tk n 0).eraseIdx a := by
  have ha : a < (fr tk n 0).length := by
    rcases Nat.lt_or_ge a (fr tk n 0).length with h | h
    · exact h
    · rw [List.getElem?_eq_none h] at hx; cases hx
  have hxa : (fr tk n 0)[a] = x := by rw [List.getElem?_eq_getElem ha] at hx; exact Option.some.inj hx
  have h1 := List.erase_eq_eraseIdx_of_idxOf ((fr_nodup tk n 0).idxOf_getElem a ha)
  rw [← h1, hxa, (fr_nodup tk n 0).erase_eq_filter]
  have hmem : x ∈ fr tk n 0 := by rw [← hxa]; exact List.getElem_mem ha
  have hxn : x < tk.length := by
    unfold fr at hmem
    have := List.mem_range'.1 (List.mem_filter.1 hmem).1
    omega
  unfold fr
  rw [List.filter_filter]
  apply List.filter_congr
  intro j hj
  by_cases e : j = x
  · subst e; simp [List.getD_eq_getElem?_getD, hxn]
  · rw [List.getD_eq_getElem?_getD, List.getElem?_set_ne (Ne.symm e), ← List.getD_eq_getElem?_getD]
    simp [e]

theorem rsome_spec1 (l : List UInt8) (p : Int) (n : Nat) (asked : Int) (hl : l.length ≤ 1000000) (hp1 : -9223372036854775808 ≤ p) (hp2 : p ≤ 9223372036854775807) (hn1 : 1 ≤ n) (hn2 : n ≤ 1000) (ha : 1 ≤ asked) :
    Idl.Spec Try.prog 15 [tape l p, .i64 n, .i64 asked] [] (Only (.tup [isl (someGo l (min (n : Int) asked).toNat (upto n) [] p).1, tape l (someGo l (min (n : Int) asked).toNat (upto n) [] p).2]) []) := by
  obtain ⟨m, hm⟩ := Int.eq_ofNat_of_zero_le (a := min (n : Int) asked) (by omega)
  rw [hm, Int.toNat_natCast]
  refine sB Try.func15 Try.ntmps15 ?_
  repeat' (first
    | refine IOps_nil ?_
    | refine oS ?_
    | refine IOps_s rfl rfl ?_
    | refine oT ?_
    | refine IOps_s0 rfl ?_
    | refine oZ ?_
    | refine oI ?_
    | refine thenI_n ?_
    | refine IWP_seq ?_
    | refine IWP_region ?_
    | refine IWP_ct rfl ?_
    | refine IWP_cf rfl ?_
    | refine IWP_skip ?_
    | refine IWP_ret ?_
    | refine IWP_block ?_
    | refine inB_n ?_
    | refine thenI_r ?_
    | refine thenI_e ?_
    | refine inB_r ?_
    | refine inB_hit ?_
    | refine inB_miss rfl ?_
    | refine IWP_exit ?_
    | refine Loop_n ?_
    | refine oD (id := 2) W15_2 [2] O15_2 [_, _, _] [_, _] rfl (by repeat' (first | exact trivial | refine And.intro ?_ ?_ | exact bS | exact bX | exact bZ | exact bI | fail)) ?_
    | refine oD (id := 16) W15_16 [3] O15_16 [_, _, _, _] [_, _] rfl (by repeat' (first | exact trivial | refine And.intro ?_ ?_ | exact bS | exact bX | exact bZ | exact bI | fail)) ?_
    | fail)
  refine wV 8 1 ?_
  refine IWP_loop (fun x : Nat × List Int × Int × List Bool => ⟨68, [(3, .ptr 0 0), (7, .ptr 1 0), (1, .i64 n), (2, .i64 asked), (8, .sl 3 0 x.1 x.1 1), (9, .sl 2 0 n n 1)],
      [.box [.str l, .i64 x.2.2.1], .box [.str [], .i64 0], .arr true (bools x.2.2.2), .arr true (ints x.2.1)]⟩)
    (fun x => x.1 ≤ m ∧ x.2.1.length = x.1 ∧ x.2.2.2.length = n ∧ -9223372036854775808 ≤ x.2.2.1 ∧ x.2.2.1 ≤ 9223372036854775807 ∧ (fr x.2.2.2 n 0).length = n - x.1 ∧ someGo l (m - x.1) ((fr x.2.2.2 n 0).map Int.ofNat) x.2.1 x.2.2.1 = someGo l m (upto n) [] p)
    (fun x => m - x.1) (0, [], p, List.replicate n false) (lP [0, 1, 2, 3]) ⟨Nat.zero_le _, rfl, by simp, hp1, hp2, by rw [Nat.sub_zero]; exact (by rw [← List.length_map (f := Int.ofNat), fr_new, upto_length] : (fr (List.replicate n false) n 0).length = n), by rw [fr_new]; rfl⟩ ?_
  rintro ⟨j, out, q, tk⟩ ⟨hj, hol, htl, hq1, hq2, hfl, hgo⟩
  simp only at hj hol htl hq1 hq2 hfl hgo ⊢
  by_cases hjm : j < m
  · have hb := pickV_bd (l := l) (p := q) (n := ((n - j : Nat) : Int)) (by omega) (by omega)
    have hb2 := pickP_bd (l := l) (p := q) (n := ((n - j : Nat) : Int)) hl hq1 hq2
    have hs := rpick_spec l q ((n - j : Nat) : Int) hl hq1 hq2
    rw [show ((n - j : Nat) : Int) = (n : Int) - (j : Int) by omega] at hs hb hb2
    obtain ⟨a, ha'⟩ := Int.eq_ofNat_of_zero_le hb.1
    rw [ha'] at hs hb
    repeat' (first
      | refine IOps_nil ?_
      | refine oS ?_
      | refine IOps_s rfl rfl ?_
      | refine oT ?_
      | refine IOps_s0 rfl ?_
      | refine oC (π := []) (hs := by first | exact hs | fail) (hx := ?_)
      | refine oZ ?_
      | refine oI ?_
      | refine thenI_n ?_
      | refine IWP_seq ?_
      | refine IWP_region ?_
      | refine IWP_ct rfl ?_
      | refine IWP_cf rfl ?_
      | refine IWP_skip ?_
      | refine IWP_ret ?_
      | refine IWP_block ?_
      | refine inB_n ?_
      | refine thenI_r ?_
      | refine thenI_e ?_
      | refine inB_r ?_
      | refine inB_hit ?_
      | refine inB_miss rfl ?_
      | refine IWP_exit ?_
      | refine Loop_n ?_
      | refine oD (id := 2) W15_2 [2] O15_2 [_, _, _] [_, _] rfl (by repeat' (first | exact trivial | refine And.intro ?_ ?_ | exact bS | exact bX | exact bZ | exact bI | exact bC (π := []) (hs := by first | exact hs | fail) | fail)) ?_
      | refine oD (id := 16) W15_16 [3] O15_16 [_, _, _, _] [_, _] rfl (by repeat' (first | exact trivial | refine And.intro ?_ ?_ | exact bS | exact bX | exact bZ | exact bI | exact bC (π := []) (hs := by first | exact hs | fail) | fail)) ?_
      | fail)
    have hal : a < (fr tk n 0).length := by omega
    obtain ⟨x, hx⟩ : ∃ x, (fr tk n 0)[a]? = some x := ⟨_, List.getElem?_eq_getElem hal⟩
    have hgo' : someGo l (m - (j + 1)) ((fr (tk.set x true) n 0).map Int.ofNat) (out ++ [(x : Int)]) (pickP l q ((n : Int) - (j : Int))) = someGo l m (upto n) [] p := by
      rw [← hgo, show m - j = (m - (j + 1)) + 1 by omega, fr_take hx htl.symm]
      have e1 : (((fr tk n 0).map Int.ofNat).length : Int) = (n : Int) - (j : Int) := by rw [List.length_map]; omega
      have e2 : ((fr tk n 0).map Int.ofNat).getD a 0 = (x : Int) := by simp [List.getD_eq_getElem?_getD, hx]
      generalize hz : m - (j + 1) = z
      show _ = someGo l z (((fr tk n 0).map Int.ofNat).eraseIdx (pickV l q (((fr tk n 0).map Int.ofNat).length : Int)).toNat) (out ++ [((fr tk n 0).map Int.ofNat).getD (pickV l q (((fr tk n 0).map Int.ofNat).length : Int)).toNat 0]) (pickP l q (((fr tk n 0).map Int.ofNat).length : Int))
      rw [e1, ha', Int.toNat_natCast, e2]
      simp [List.eraseIdx_eq_take_drop_succ, List.map_take, List.map_drop]
    clear hgo
    refine IWP_loop (fun y : Nat × Nat => ⟨68, [(3, .ptr 0 0), (7, .ptr 1 0), (1, .i64 n), (2, .i64 asked), (8, .sl 3 0 j j 1), (9, .sl 2 0 n n 1), (10, .i64 y.2), (12, .i64 y.1)],
        [.box [.str l, .i64 (pickP l q ((n : Int) - (j : Int)))], .box [.str [], .i64 0], .arr true (bools tk), .arr true (ints out)]⟩)
      (fun y => y.1 ≤ n ∧ y.2 ≤ 1000 ∧ (fr tk n y.1)[y.2]? = some x) (fun y => n - y.1) (0, a) (lP [0, 1, 2, 3]) ⟨Nat.zero_le _, by simp only; omega, hx⟩ ?_
    rintro ⟨i, c⟩ ⟨hi, hc9, hc⟩
    simp only at hi hc hc9 ⊢
    have hin : i < n := by
      rcases Nat.lt_or_ge i n with h | h
      · exact h
      · obtain rfl : i = n := by omega
        rw [fr_end] at hc; simp at hc
    rw [fr_step hin] at hc
    cases ht : tk.getD i false with
    | true =>
      rw [show tk.getD i default = true from ht, if_pos rfl] at hc
      repeat' (first
        | refine IOps_nil ?_
        | refine oS ?_
        | refine IOps_s rfl rfl ?_
        | refine oT ?_
        | refine IOps_s0 rfl ?_
        | refine oZ ?_
        | refine oI ?_
        | refine thenI_n ?_
        | refine IWP_seq ?_
        | refine IWP_region ?_
        | refine IWP_ct rfl ?_
        | refine IWP_cf rfl ?_
        | refine IWP_skip ?_
        | refine IWP_ret ?_
        | refine IWP_block ?_
        | refine inB_n ?_
        | refine thenI_r ?_
        | refine thenI_e ?_
        | refine inB_r ?_
        | refine inB_hit ?_
        | refine inB_miss rfl ?_
        | refine IWP_exit ?_
        | refine Loop_n ?_
        | refine oD (id := 2) W15_2 [2] O15_2 [_, _, _] [_, _] rfl (by repeat' (first | exact trivial | refine And.intro ?_ ?_ | exact bS | exact bX | exact bZ | exact bI | fail)) ?_
        | refine oD (id := 16) W15_16 [3] O15_16 [_, _, _, _] [_, _] rfl (by repeat' (first | exact trivial | refine And.intro ?_ ?_ | exact bS | exact bX | exact bZ | exact bI | fail)) ?_
        | fail)
      rw [ht]
      repeat' (first
        | refine IOps_nil ?_
        | refine oS ?_
        | refine IOps_s rfl rfl ?_
        | refine oT ?_
        | refine IOps_s0 rfl ?_
        | refine oZ ?_
        | refine oI ?_
        | refine thenI_n ?_
        | refine IWP_seq ?_
        | refine IWP_region ?_
        | refine IWP_ct rfl ?_
        | refine IWP_cf rfl ?_
        | refine IWP_skip ?_
        | refine IWP_ret ?_
        | refine IWP_block ?_
        | refine inB_n ?_
        | refine thenI_r ?_
        | refine thenI_e ?_
        | refine inB_r ?_
        | refine inB_hit ?_
        | refine inB_miss rfl ?_
        | refine IWP_exit ?_
        | refine Loop_n ?_
        | refine oD (id := 2) W15_2 [2] O15_2 [_, _, _] [_, _] rfl (by repeat' (first | exact trivial | refine And.intro ?_ ?_ | exact bS | exact bX | exact bZ | exact bI | fail)) ?_
        | refine oD (id := 16) W15_16 [3] O15_16 [_, _, _, _] [_, _] rfl (by repeat' (first | exact trivial | refine And.intro ?_ ?_ | exact bS | exact bX | exact bZ | exact bI | fail)) ?_
        | fail)
      exact ⟨(i + 1, c), ⟨hin, hc9, hc⟩, by simp only; omega, lP [0, 1, 2, 3]⟩
    | false =>
      rw [show tk.getD i default = false from ht, if_neg (by simp)] at hc
      cases c with
      | zero =>
        obtain rfl : i = x := by simpa using hc
        repeat' (first
          | refine IOps_nil ?_
          | refine oS ?_
          | refine IOps_s rfl rfl ?_
          | refine oT ?_
          | refine IOps_s0 rfl ?_
          | refine oZ ?_
          | refine oI ?_
          | refine thenI_n ?_
          | refine IWP_seq ?_
          | refine IWP_region ?_
          | refine IWP_ct rfl ?_
          | refine IWP_cf rfl ?_
          | refine IWP_skip ?_
          | refine IWP_ret ?_
          | refine IWP_block ?_
          | refine inB_n ?_
          | refine thenI_r ?_
          | refine thenI_e ?_
          | refine inB_r ?_
          | refine inB_hit ?_
          | refine inB_miss rfl ?_
          | refine IWP_exit ?_
          | refine Loop_n ?_
          | refine oD (id := 2) W15_2 [2] O15_2 [_, _, _] [_, _] rfl (by repeat' (first | exact trivial | refine And.intro ?_ ?_ | exact bS | exact bX | exact bZ | exact bI | fail)) ?_
          | refine oD (id := 16) W15_16 [3] O15_16 [_, _, _, _] [_, _] rfl (by repeat' (first | exact trivial | refine And.intro ?_ ?_ | exact bS | exact bX | exact bZ | exact bI | fail)) ?_
          | fail)
        rw [ht]
        repeat' (first
          | refine IOps_nil ?_
          | refine oS ?_
          | refine IOps_s rfl rfl ?_
          | refine oT ?_
          | refine IOps_s0 rfl ?_
          | refine oZ ?_
          | refine oI ?_
          | refine thenI_n ?_
          | refine IWP_seq ?_
          | refine IWP_region ?_
          | refine IWP_ct rfl ?_
          | refine IWP_cf rfl ?_
          | refine IWP_skip ?_
          | refine IWP_ret ?_
          | refine IWP_block ?_
          | refine inB_n ?_
          | refine thenI_r ?_
          | refine thenI_e ?_
          | refine inB_r ?_
          | refine inB_hit ?_
          | refine inB_miss rfl ?_
          | refine IWP_exit ?_
          | refine Loop_n ?_
          | refine oD (id := 2) W15_2 [2] O15_2 [_, _, _] [_, _] rfl (by repeat' (first | exact trivial | refine And.intro ?_ ?_ | exact bS | exact bX | exact bZ | exact bI | fail)) ?_
          | refine oD (id := 16) W15_16 [3] O15_16 [_, _, _, _] [_, _] rfl (by repeat' (first | exact trivial | refine And.intro ?_ ?_ | exact bS | exact bX | exact bZ | exact bI | fail)) ?_
          | fail)
        refine ⟨(j + 1, out ++ [(i : Int)], pickP l q ((n : Int) - (j : Int)), tk.set i true), ⟨by omega, by simp; omega, by simp; omega, hb2.1, hb2.2, ?_, hgo'⟩, by simp only; omega, lP [0, 1, 2, 5]⟩
        simp only
        rw [fr_take hx htl.symm, List.length_eraseIdx_of_lt hal]
        omega
      | succ c =>
        repeat' (first
          | refine IOps_nil ?_
          | refine oS ?_
          | refine IOps_s rfl rfl ?_
          | refine oT ?_
          | refine IOps_s0 rfl ?_
          | refine oZ ?_
          | refine oI ?_
          | refine thenI_n ?_
          | refine IWP_seq ?_
          | refine IWP_region ?_
          | refine IWP_ct rfl ?_
          | refine IWP_cf rfl ?_
          | refine IWP_skip ?_
          | refine IWP_ret ?_
          | refine IWP_block ?_
          | refine inB_n ?_
          | refine thenI_r ?_
          | refine thenI_e ?_
          | refine inB_r ?_
          | refine inB_hit ?_
          | refine inB_miss rfl ?_
          | refine IWP_exit ?_
          | refine Loop_n ?_
          | refine oD (id := 2) W15_2 [2] O15_2 [_, _, _] [_, _] rfl (by repeat' (first | exact trivial | refine And.intro ?_ ?_ | exact bS | exact bX | exact bZ | exact bI | fail)) ?_
          | refine oD (id := 16) W15_16 [3] O15_16 [_, _, _, _] [_, _] rfl (by repeat' (first | exact trivial | refine And.intro ?_ ?_ | exact bS | exact bX | exact bZ | exact bI | fail)) ?_
          | fail)
        rw [ht]
        repeat' (first
          | refine IOps_nil ?_
          | refine oS ?_
          | refine IOps_s rfl rfl ?_
          | refine oT ?_
          | refine IOps_s0 rfl ?_
          | refine oZ ?_
          | refine oI ?_
          | refine thenI_n ?_
          | refine IWP_seq ?_
          | refine IWP_region ?_
          | refine IWP_ct rfl ?_
          | refine IWP_cf rfl ?_
          | refine IWP_skip ?_
          | refine IWP_ret ?_
          | refine IWP_block ?_
          | refine inB_n ?_
          | refine thenI_r ?_
          | refine thenI_e ?_
          | refine inB_r ?_
          | refine inB_hit ?_
          | refine inB_miss rfl ?_
          | refine IWP_exit ?_
          | refine Loop_n ?_
          | refine oD (id := 2) W15_2 [2] O15_2 [_, _, _] [_, _] rfl (by repeat' (first | exact trivial | refine And.intro ?_ ?_ | exact bS | exact bX | exact bZ | exact bI | fail)) ?_
          | refine oD (id := 16) W15_16 [3] O15_16 [_, _, _, _] [_, _] rfl (by repeat' (first | exact trivial | refine And.intro ?_ ?_ | exact bS | exact bX | exact bZ | exact bI | fail)) ?_
          | fail)
        exact ⟨(i + 1, c), ⟨hin, by simp only; omega, by simpa using hc⟩, by simp only; omega, lP [0, 1, 2, 3]⟩
  · obtain rfl : j = m := by omega
    rw [Nat.sub_self] at hgo
    rw [← hgo]
    refine wF 8 ?_
    have hjn : ¬ ((j : Int) < n ∧ (j : Int) < asked) := by omega
    by_cases h1 : (j : Int) < n
    · repeat' (first
        | refine IOps_nil ?_
        | refine oS ?_
        | refine IOps_s rfl rfl ?_
        | refine oT ?_
        | refine IOps_s0 rfl ?_
        | refine oZ ?_
        | refine oI ?_
        | refine thenI_n ?_
        | refine IWP_seq ?_
        | refine IWP_region ?_
        | refine IWP_ct rfl ?_
        | refine IWP_cf rfl ?_
        | refine IWP_skip ?_
        | refine IWP_ret ?_
        | refine IWP_block ?_
        | refine inB_n ?_
        | refine thenI_r ?_
        | refine thenI_e ?_
        | refine inB_r ?_
        | refine inB_hit ?_
        | refine inB_miss rfl ?_
        | refine IWP_exit ?_
        | refine Loop_n ?_
        | refine oD (id := 2) W15_2 [2] O15_2 [_, _, _] [_, _] rfl (by repeat' (first | exact trivial | refine And.intro ?_ ?_ | exact bS | exact bX | exact bZ | exact bI | fail)) ?_
        | refine oD (id := 16) W15_16 [3] O15_16 [_, _, _, _] [_, _] rfl (by repeat' (first | exact trivial | refine And.intro ?_ ?_ | exact bS | exact bX | exact bZ | exact bI | fail)) ?_
        | fail)
      refine pE [] ?_
      subst hol
      rfl
    · repeat' (first
        | refine IOps_nil ?_
        | refine oS ?_
        | refine IOps_s rfl rfl ?_
        | refine oT ?_
        | refine IOps_s0 rfl ?_
        | refine oZ ?_
        | refine oI ?_
        | refine thenI_n ?_
        | refine IWP_seq ?_
        | refine IWP_region ?_
        | refine IWP_ct rfl ?_
        | refine IWP_cf rfl ?_
        | refine IWP_skip ?_
        | refine IWP_ret ?_
        | refine IWP_block ?_
        | refine inB_n ?_
        | refine thenI_r ?_
        | refine thenI_e ?_
        | refine inB_r ?_
        | refine inB_hit ?_
        | refine inB_miss rfl ?_
        | refine IWP_exit ?_
        | refine Loop_n ?_
        | refine oD (id := 2) W15_2 [2] O15_2 [_, _, _] [_, _] rfl (by repeat' (first | exact trivial | refine And.intro ?_ ?_ | exact bS | exact bX | exact bZ | exact bI | fail)) ?_
        | refine oD (id := 16) W15_16 [3] O15_16 [_, _, _, _] [_, _] rfl (by repeat' (first | exact trivial | refine And.intro ?_ ?_ | exact bS | exact bX | exact bZ | exact bI | fail)) ?_
        | fail)
      refine pE [] ?_
      subst hol
      rfl
end Go.Proofs.Ytpmgocnapdhabaa
