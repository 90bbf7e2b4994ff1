import Derived.Test.YtpmgocnapdhabaaTapL1
namespace Go.Proofs.Ytpmgocnapdhabaa
open Go Go.Idl
set_option linter.unusedSimpArgs false
set_option linter.unusedVariables false
set_option maxRecDepth 100000
set_option maxHeartbeats 1000000
attribute [local irreducible] Go.Idl.IWP Go.Idl.IOps Go.Idl.Obl Go.Idl.OpG Go.Idl.thenI Go.Idl.inBlockI Go.Idl.LoopU

theorem perm_pick {l : List Int} {a : Nat} (h : a < l.length) : (l.getD a 0 :: l.eraseIdx a).Perm l := by
  rw [List.eraseIdx_eq_take_drop_succ]
  have e : l = l.take a ++ l.getD a 0 :: l.drop (a + 1) := by
    rw [List.getD_eq_getElem?_getD, List.getElem?_eq_getElem h, Option.getD_some, List.getElem_cons_drop, List.take_append_drop]
  exact (List.perm_middle.symm.trans (by rw [← e]))

theorem someGo_pre (l : List UInt8) : ∀ (k : Nat) (left told : List Int) (p : Int), ∃ r, (someGo l k left told p).1 = told ++ r ∧ r.length = k
  | 0, _, told, _ => ⟨[], by simp [someGo], rfl⟩
  | k + 1, left, told, p => by
    obtain ⟨r, hr, hl⟩ := someGo_pre l k (left.eraseIdx (pickV l p left.length).toNat) (told ++ [left.getD (pickV l p left.length).toNat 0]) (pickP l p left.length)
    exact ⟨left.getD (pickV l p left.length).toNat 0 :: r, by unfold someGo; rw [hr]; simp, by simp [hl]⟩

theorem someGo_perm (l : List UInt8) : ∀ (k : Nat) (left told : List Int) (p : Int), k ≤ left.length → left.length ≤ 1000 → ∃ r s, (someGo l k left told p).1 = told ++ r ∧ (r ++ s).Perm left
  | 0, left, told, _, _, _ => ⟨[], left, by simp [someGo], List.Perm.refl _⟩
  | k + 1, left, told, p, h1, h2 => by
    have hb := pickV_bd (l := l) (p := p) (n := (left.length : Int)) (by omega) (by omega)
    have ha : (pickV l p left.length).toNat < left.length := by omega
    have hle : (left.eraseIdx (pickV l p left.length).toNat).length = left.length - 1 := List.length_eraseIdx_of_lt ha
    obtain ⟨r, s, hr, hp⟩ := someGo_perm l k (left.eraseIdx (pickV l p left.length).toNat) (told ++ [left.getD (pickV l p left.length).toNat 0]) (pickP l p left.length) (by omega) (by omega)
    exact ⟨left.getD (pickV l p left.length).toNat 0 :: r, s, by unfold someGo; rw [hr]; simp, (hp.cons _).trans (perm_pick ha)⟩

theorem someGo_prefix (l : List UInt8) : ∀ (k m : Nat) (left told : List Int) (p : Int), k ≤ m → (someGo l m left told p).1.take (told.length + k) = (someGo l k left told p).1
  | 0, m, left, told, p, _ => by
    obtain ⟨r, hr, _⟩ := someGo_pre l m left told p
    rw [hr]; simp [someGo]
  | k + 1, 0, _, _, _, h => by omega
  | k + 1, m + 1, left, told, p, h => by
    have := someGo_prefix l k m (left.eraseIdx (pickV l p left.length).toNat) (told ++ [left.getD (pickV l p left.length).toNat 0]) (pickP l p left.length) (by omega)
    simp only [List.length_append, List.length_cons, List.length_nil] at this
    show List.take (told.length + (k + 1)) (someGo l m _ _ _).1 = (someGo l k _ _ _).1
    rw [← this]
    congr 1; omega

theorem someGo_at (l : List UInt8) : ∀ (k : Nat) (left told : List Int) (p : Int), k ≤ left.length → left.length ≤ 1000 →
    (someGo l k left told p).2 = if p < 0 then p else p + min (k : Int) (max 0 ((l.length : Int) / 4 - p))
  | 0, _, _, p, _, _ => by
    show p = _
    split <;> omega
  | k + 1, left, told, p, h1, h2 => by
    have hb := pickV_bd (l := l) (p := p) (n := (left.length : Int)) (by omega) (by omega)
    have ha : (pickV l p left.length).toNat < left.length := by omega
    have hle : (left.eraseIdx (pickV l p left.length).toNat).length = left.length - 1 := List.length_eraseIdx_of_lt ha
    show (someGo l k _ _ _).2 = _
    rw [someGo_at l k _ _ _ (by omega) (by omega), show pickP l p left.length = drawP l p from if_pos (by omega)]
    unfold drawP
    by_cases hd : 0 ≤ p ∧ p < (l.length : Int) / 4
    · rw [if_pos hd, if_neg (by omega), if_neg (by omega)]; omega
    · rw [if_neg hd]
      by_cases h0 : p < 0
      · rw [if_pos h0, if_pos h0]
      · rw [if_neg h0, if_neg h0]; omega

theorem upto_nodup (n : Nat) : (upto n).Nodup := by
  unfold upto
  exact List.Pairwise.map _ (fun a b (h : a ≠ b) => fun e => h (Int.ofNat.inj e)) List.nodup_range
theorem mem_upto {n : Nat} {x : Int} (h : x ∈ upto n) : 0 ≤ x ∧ x < n := by
  obtain ⟨i, hi, rfl⟩ := List.mem_map.1 h
  have := List.mem_range.1 hi
  exact ⟨Int.natCast_nonneg _, Int.ofNat_lt.2 this⟩

structure SomeFact (l : List UInt8) (p : Int) (k m : Nat) (L A : List Int) (q : Int) : Prop where
  len : L.length = m
  lenA : A.length = k
  inr : ∀ i : Nat, i < m → 0 ≤ L.getD i 0 ∧ L.getD i 0 < k
  ne : ∀ i j : Nat, j < i → i < m → L.getD i 0 ≠ L.getD j 0
  pre : A.take m = L
  at_ : q = if p < 0 then p else p + min (m : Int) (max 0 ((l.length : Int) / 4 - p))

theorem some_facts (l : List UInt8) (p : Int) (k m : Nat) (hm : m ≤ k) (hk : k ≤ 1000) :
    SomeFact l p k m (someGo l m (upto k) [] p).1 (someGo l k (upto k) [] p).1 (someGo l m (upto k) [] p).2 := by
  obtain ⟨r, s, h1, h2⟩ := someGo_perm l m (upto k) [] p (by rw [upto_length]; exact hm) (by rw [upto_length]; exact hk)
  rw [List.nil_append] at h1
  have hnd : (r ++ s).Nodup := h2.nodup_iff.2 (upto_nodup k)
  have hr := (List.nodup_append.1 hnd).1
  have hlen : r.length = m := by
    have := someGo_len l m (upto k) [] p
    rw [h1] at this; simpa using this
  refine ⟨by rw [h1]; exact hlen, by rw [someGo_len]; simp, fun i hi => ?_, fun i j hj hi => ?_, ?_, someGo_at l m _ _ p (by rw [upto_length]; exact hm) (by rw [upto_length]; exact hk)⟩
  · rw [h1, List.getD_eq_getElem?_getD, List.getElem?_eq_getElem (by omega), Option.getD_some]
    exact mem_upto (h2.mem_iff.1 (List.mem_append_left _ (List.getElem_mem _)))
  · rw [h1, List.getD_eq_getElem?_getD, List.getElem?_eq_getElem (by omega), List.getD_eq_getElem?_getD, List.getElem?_eq_getElem (by omega), Option.getD_some, Option.getD_some]
    intro e
    have := (List.getElem_inj hr).1 e
    omega
  · have := someGo_prefix l m k (upto k) [] p hm
    simpa using this

theorem lsome_spec (l : List UInt8) (p n many : Int) (hl : l.length ≤ 9223372036854775807) (hp1 : -9223372036854775808 ≤ p) (hp2 : p ≤ 9223372036854775807) (hn1 : 0 ≤ n) (hn2 : n ≤ 255) (hm1 : 0 ≤ many) (hm2 : many ≤ 255) :
    Idl.Spec Try.prog 6 [tape l p, .sc (.int .u8 n), .sc (.int .u8 many)] [] (Only (.sc (.bool true)) []) := by
  refine sB Try.func6 Try.ntmps6 ?_
  by_cases h : l.length > 1000
  · repeat' (first
      | refine IOps_nil ?_
      | refine oS ?_
      | refine IOps_s rfl rfl ?_
      | refine oT ?_
      | refine IOps_s0 rfl ?_
      | refine oC (π := []) (hs := by first | exact awake_spec | fail) (hx := ?_)
      | refine oZ ?_
      | refine oI ?_
      | refine thenI_n ?_
      | refine IWP_seq ?_
      | refine IWP_region ?_
      | refine IWP_ct rfl ?_
      | refine IWP_cf rfl ?_
      | refine IWP_skip ?_
      | refine IWP_ret ?_
      | refine IWP_block ?_
      | refine inB_n ?_
      | refine thenI_r ?_
      | refine thenI_e ?_
      | refine inB_r ?_
      | refine inB_hit ?_
      | refine inB_miss rfl ?_
      | refine IWP_exit ?_
      | refine Loop_n ?_
      | refine oD (id := 14) W6_14 [] O6_14 [_, _, _, _, _, _, _, _, _] [_] rfl (by repeat' (first | exact trivial | refine And.intro ?_ ?_ | exact bS | exact bX | exact bZ | exact bI | exact bC (π := []) (hs := by first | exact awake_spec | fail) | fail)) ?_
      | refine oD (id := 17) W6_17 [23] O6_17 [_, _, _, _, _, _, _, _, _, _, _, _, _, _, _, _, _, _, _, _, _, _, _, _, _, _, _, _, _] [_, _] rfl (by repeat' (first | exact trivial | refine And.intro ?_ ?_ | exact bS | exact bX | exact bZ | exact bI | exact bC (π := []) (hs := by first | exact awake_spec | fail) | fail)) ?_
      | fail)
    exact pD [] ⟨rfl, rfl⟩
  · have h1 := some_spec l p (1 + n % 50) (1 + many % 60) (by omega) hp1 hp2
    have h2 := some_spec l p (1 + n % 50) (1 + n % 50) (by omega) hp1 hp2
    obtain ⟨k, hk⟩ := Int.eq_ofNat_of_zero_le (a := 1 + n % 50) (by omega)
    obtain ⟨m, hm⟩ := Int.eq_ofNat_of_zero_le (a := min (1 + n % 50) (1 + many % 60)) (by omega)
    have hf := some_facts l p k m (by omega) (by omega)
    rw [show someR l p (1 + n % 50) (1 + many % 60) = someGo l m (upto k) [] p from by
      rw [show someR l p (1 + n % 50) (1 + many % 60) = someGo l (min (1 + n % 50) (1 + many % 60)).toNat (upto (1 + n % 50).toNat) [] p from if_pos (by omega), hm, hk]; rfl] at h1
    rw [show someR l p (1 + n % 50) (1 + n % 50) = someGo l k (upto k) [] p from by
      rw [show someR l p (1 + n % 50) (1 + n % 50) = someGo l (min (1 + n % 50) (1 + n % 50)).toNat (upto (1 + n % 50).toNat) [] p from if_pos (by omega), hk, show min (k : Int) k = k by omega]; rfl] at h2
    generalize (someGo l m (upto k) [] p) = R at *
    generalize (someGo l k (upto k) [] p) = R' at *
    obtain ⟨L, q⟩ := R
    obtain ⟨A, q'⟩ := R'
    obtain ⟨e1, e2, e3, e4, e5, e6⟩ := hf
    simp only at h1 h2 e1 e2 e3 e4 e5 e6
    have hLf := left_spec l p (by omega) hp1 hp2
    repeat' (first
      | refine IOps_nil ?_
      | refine oS ?_
      | refine IOps_s rfl rfl ?_
      | refine oT ?_
      | refine IOps_s0 rfl ?_
      | refine oC (π := []) (hs := by first | exact awake_spec | fail) (hx := ?_)
      | refine oC (π := []) (hs := by first | exact h1 | fail) (hx := ?_)
      | refine oZ ?_
      | refine oI ?_
      | refine thenI_n ?_
      | refine IWP_seq ?_
      | refine IWP_region ?_
      | refine IWP_ct rfl ?_
      | refine IWP_cf rfl ?_
      | refine IWP_skip ?_
      | refine IWP_ret ?_
      | refine IWP_block ?_
      | refine inB_n ?_
      | refine thenI_r ?_
      | refine thenI_e ?_
      | refine inB_r ?_
      | refine inB_hit ?_
      | refine inB_miss rfl ?_
      | refine IWP_exit ?_
      | refine Loop_n ?_
      | refine oD (id := 14) W6_14 [] O6_14 [_, _, _, _, _, _, _, _, _] [_] rfl (by repeat' (first | exact trivial | refine And.intro ?_ ?_ | exact bS | exact bX | exact bZ | exact bI | exact bC (π := []) (hs := by first | exact awake_spec | fail) | exact bC (π := []) (hs := by first | exact h1 | fail) | fail)) ?_
      | refine oD (id := 17) W6_17 [23] O6_17 [_, _, _, _, _, _, _, _, _, _, _, _, _, _, _, _, _, _, _, _, _, _, _, _, _, _, _, _, _] [_, _] rfl (by repeat' (first | exact trivial | refine And.intro ?_ ?_ | exact bS | exact bX | exact bZ | exact bI | exact bC (π := []) (hs := by first | exact awake_spec | fail) | exact bC (π := []) (hs := by first | exact h1 | fail) | fail)) ?_
      | fail)
    refine IWP_loop (fun i : Nat => ⟨143, [(2, .sc (.int .u8 many)), (3, .ptr 0 0), (7, .sc (.bool true)), (8, .i64 (1 + n % 50)), (9, isl L), (10, .ptr 1 0), (11, .i64 i)], [.box [.str l, .i64 p], .box [.str l, .i64 q]]⟩)
      (fun i => i ≤ m) (fun i => m - i) 0 (lP [0, 1]) (Nat.zero_le _) ?_
    intro i hi
    by_cases him : i < m
    · have hr := e3 i him
      repeat' (first
        | refine IOps_nil ?_
        | refine oS ?_
        | refine IOps_s rfl rfl ?_
        | refine oT ?_
        | refine IOps_s0 rfl ?_
        | refine oZ ?_
        | refine oI ?_
        | refine thenI_n ?_
        | refine IWP_seq ?_
        | refine IWP_region ?_
        | refine IWP_ct rfl ?_
        | refine IWP_cf rfl ?_
        | refine IWP_skip ?_
        | refine IWP_ret ?_
        | refine IWP_block ?_
        | refine inB_n ?_
        | refine thenI_r ?_
        | refine thenI_e ?_
        | refine inB_r ?_
        | refine inB_hit ?_
        | refine inB_miss rfl ?_
        | refine IWP_exit ?_
        | refine Loop_n ?_
        | refine oD (id := 14) W6_14 [] O6_14 [_, _, _, _, _, _, _, _, _] [_] rfl (by repeat' (first | exact trivial | refine And.intro ?_ ?_ | exact bS | exact bX | exact bZ | exact bI | fail)) ?_
        | refine oD (id := 17) W6_17 [23] O6_17 [_, _, _, _, _, _, _, _, _, _, _, _, _, _, _, _, _, _, _, _, _, _, _, _, _, _, _, _, _] [_, _] rfl (by repeat' (first | exact trivial | refine And.intro ?_ ?_ | exact bS | exact bX | exact bZ | exact bI | fail)) ?_
        | fail)
      refine IWP_loop (fun j : Nat => ⟨143, [(2, .sc (.int .u8 many)), (3, .ptr 0 0), (7, .sc (.bool true)), (8, .i64 (1 + n % 50)), (9, isl L), (10, .ptr 1 0), (11, .i64 i), (12, .i64 j)], [.box [.str l, .i64 p], .box [.str l, .i64 q]]⟩)
        (fun j => j ≤ i) (fun j => i - j) 0 (lP [0, 1]) (Nat.zero_le _) ?_
      intro j hj
      by_cases hji : j < i
      · have hne := e4 i j hji him
        repeat' (first
          | refine IOps_nil ?_
          | refine oS ?_
          | refine IOps_s rfl rfl ?_
          | refine oT ?_
          | refine IOps_s0 rfl ?_
          | refine oZ ?_
          | refine oI ?_
          | refine thenI_n ?_
          | refine IWP_seq ?_
          | refine IWP_region ?_
          | refine IWP_ct rfl ?_
          | refine IWP_cf rfl ?_
          | refine IWP_skip ?_
          | refine IWP_ret ?_
          | refine IWP_block ?_
          | refine inB_n ?_
          | refine thenI_r ?_
          | refine thenI_e ?_
          | refine inB_r ?_
          | refine inB_hit ?_
          | refine inB_miss rfl ?_
          | refine IWP_exit ?_
          | refine Loop_n ?_
          | refine oD (id := 14) W6_14 [] O6_14 [_, _, _, _, _, _, _, _, _] [_] rfl (by repeat' (first | exact trivial | refine And.intro ?_ ?_ | exact bS | exact bX | exact bZ | exact bI | fail)) ?_
          | refine oD (id := 17) W6_17 [23] O6_17 [_, _, _, _, _, _, _, _, _, _, _, _, _, _, _, _, _, _, _, _, _, _, _, _, _, _, _, _, _] [_, _] rfl (by repeat' (first | exact trivial | refine And.intro ?_ ?_ | exact bS | exact bX | exact bZ | exact bI | fail)) ?_
          | fail)
        exact ⟨j + 1, by omega, by omega, lP [0, 1]⟩
      · repeat' (first
          | refine IOps_nil ?_
          | refine oS ?_
          | refine IOps_s rfl rfl ?_
          | refine oT ?_
          | refine IOps_s0 rfl ?_
          | refine oZ ?_
          | refine oI ?_
          | refine thenI_n ?_
          | refine IWP_seq ?_
          | refine IWP_region ?_
          | refine IWP_ct rfl ?_
          | refine IWP_cf rfl ?_
          | refine IWP_skip ?_
          | refine IWP_ret ?_
          | refine IWP_block ?_
          | refine inB_n ?_
          | refine thenI_r ?_
          | refine thenI_e ?_
          | refine inB_r ?_
          | refine inB_hit ?_
          | refine inB_miss rfl ?_
          | refine IWP_exit ?_
          | refine Loop_n ?_
          | refine oD (id := 14) W6_14 [] O6_14 [_, _, _, _, _, _, _, _, _] [_] rfl (by repeat' (first | exact trivial | refine And.intro ?_ ?_ | exact bS | exact bX | exact bZ | exact bI | fail)) ?_
          | refine oD (id := 17) W6_17 [23] O6_17 [_, _, _, _, _, _, _, _, _, _, _, _, _, _, _, _, _, _, _, _, _, _, _, _, _, _, _, _, _] [_, _] rfl (by repeat' (first | exact trivial | refine And.intro ?_ ?_ | exact bS | exact bX | exact bZ | exact bI | fail)) ?_
          | fail)
        exact ⟨i + 1, by omega, by omega, lP [0, 1]⟩
    · by_cases hka : k ≤ 1 + many % 60
      · obtain rfl : A = L := by rw [← e5]; exact (List.take_of_length_le (by omega)).symm
        have hS := same_spec A A (by omega) (by omega)
        rw [decide_eq_true rfl] at hS
        by_cases hp : p < 0
        · rw [if_pos hp] at e6
          repeat' (first
            | refine IOps_nil ?_
            | refine oS ?_
            | refine IOps_s rfl rfl ?_
            | refine oT ?_
            | refine IOps_s0 rfl ?_
            | refine oC (π := []) (hs := by first | exact h2 | fail) (hx := ?_)
            | refine oC (π := []) (hs := by first | exact hS | fail) (hx := ?_)
            | refine oC (π := []) (hs := by first | exact hLf | fail) (hx := ?_)
            | refine oZ ?_
            | refine oI ?_
            | refine thenI_n ?_
            | refine IWP_seq ?_
            | refine IWP_region ?_
            | refine IWP_ct rfl ?_
            | refine IWP_cf rfl ?_
            | refine IWP_skip ?_
            | refine IWP_ret ?_
            | refine IWP_block ?_
            | refine inB_n ?_
            | refine thenI_r ?_
            | refine thenI_e ?_
            | refine inB_r ?_
            | refine inB_hit ?_
            | refine inB_miss rfl ?_
            | refine IWP_exit ?_
            | refine Loop_n ?_
            | refine oD (id := 14) W6_14 [] O6_14 [_, _, _, _, _, _, _, _, _] [_] rfl (by repeat' (first | exact trivial | refine And.intro ?_ ?_ | exact bS | exact bX | exact bZ | exact bI | exact bC (π := []) (hs := by first | exact h2 | fail) | exact bC (π := []) (hs := by first | exact hS | fail) | exact bC (π := []) (hs := by first | exact hLf | fail) | fail)) ?_
            | refine oD (id := 17) W6_17 [23] O6_17 [_, _, _, _, _, _, _, _, _, _, _, _, _, _, _, _, _, _, _, _, _, _, _, _, _, _, _, _, _] [_, _] rfl (by repeat' (first | exact trivial | refine And.intro ?_ ?_ | exact bS | exact bX | exact bZ | exact bI | exact bC (π := []) (hs := by first | exact h2 | fail) | exact bC (π := []) (hs := by first | exact hS | fail) | exact bC (π := []) (hs := by first | exact hLf | fail) | fail)) ?_
            | fail)
          exact pD [] ⟨rfl, rfl⟩
        · rw [if_neg hp] at e6
          by_cases hll : (A.length : Int) ≤ max 0 ((l.length : Int) / 4 - max 0 p)
          all_goals
            repeat' (first
              | refine IOps_nil ?_
              | refine oS ?_
              | refine IOps_s rfl rfl ?_
              | refine oT ?_
              | refine IOps_s0 rfl ?_
              | refine oC (π := []) (hs := by first | exact h2 | fail) (hx := ?_)
              | refine oC (π := []) (hs := by first | exact hS | fail) (hx := ?_)
              | refine oC (π := []) (hs := by first | exact hLf | fail) (hx := ?_)
              | refine oZ ?_
              | refine oI ?_
              | refine thenI_n ?_
              | refine IWP_seq ?_
              | refine IWP_region ?_
              | refine IWP_ct rfl ?_
              | refine IWP_cf rfl ?_
              | refine IWP_skip ?_
              | refine IWP_ret ?_
              | refine IWP_block ?_
              | refine inB_n ?_
              | refine thenI_r ?_
              | refine thenI_e ?_
              | refine inB_r ?_
              | refine inB_hit ?_
              | refine inB_miss rfl ?_
              | refine IWP_exit ?_
              | refine Loop_n ?_
              | refine oD (id := 14) W6_14 [] O6_14 [_, _, _, _, _, _, _, _, _] [_] rfl (by repeat' (first | exact trivial | refine And.intro ?_ ?_ | exact bS | exact bX | exact bZ | exact bI | exact bC (π := []) (hs := by first | exact h2 | fail) | exact bC (π := []) (hs := by first | exact hS | fail) | exact bC (π := []) (hs := by first | exact hLf | fail) | fail)) ?_
              | refine oD (id := 17) W6_17 [23] O6_17 [_, _, _, _, _, _, _, _, _, _, _, _, _, _, _, _, _, _, _, _, _, _, _, _, _, _, _, _, _] [_, _] rfl (by repeat' (first | exact trivial | refine And.intro ?_ ?_ | exact bS | exact bX | exact bZ | exact bI | exact bC (π := []) (hs := by first | exact h2 | fail) | exact bC (π := []) (hs := by first | exact hS | fail) | exact bC (π := []) (hs := by first | exact hLf | fail) | fail)) ?_
              | fail)
            exact pD [] ⟨rfl, rfl⟩
      · have hS := same_spec (A.take m) L (by simp; omega) (by omega)
        have hlm : (A.take m).length = m := by simp; omega
        rw [decide_eq_true e5] at hS
        simp only [isl', hlm] at hS
        rw [← e1] at hS
        by_cases hp : p < 0
        · rw [if_pos hp] at e6
          repeat' (first
            | refine IOps_nil ?_
            | refine oS ?_
            | refine IOps_s rfl rfl ?_
            | refine oT ?_
            | refine IOps_s0 rfl ?_
            | refine oC (π := []) (hs := by first | exact h2 | fail) (hx := ?_)
            | refine oC (π := []) (hs := by first | exact hS | fail) (hx := ?_)
            | refine oC (π := []) (hs := by first | exact hLf | fail) (hx := ?_)
            | refine oZ ?_
            | refine oI ?_
            | refine thenI_n ?_
            | refine IWP_seq ?_
            | refine IWP_region ?_
            | refine IWP_ct rfl ?_
            | refine IWP_cf rfl ?_
            | refine IWP_skip ?_
            | refine IWP_ret ?_
            | refine IWP_block ?_
            | refine inB_n ?_
            | refine thenI_r ?_
            | refine thenI_e ?_
            | refine inB_r ?_
            | refine inB_hit ?_
            | refine inB_miss rfl ?_
            | refine IWP_exit ?_
            | refine Loop_n ?_
            | refine oD (id := 14) W6_14 [] O6_14 [_, _, _, _, _, _, _, _, _] [_] rfl (by repeat' (first | exact trivial | refine And.intro ?_ ?_ | exact bS | exact bX | exact bZ | exact bI | exact bC (π := []) (hs := by first | exact h2 | fail) | exact bC (π := []) (hs := by first | exact hS | fail) | exact bC (π := []) (hs := by first | exact hLf | fail) | fail)) ?_
            | refine oD (id := 17) W6_17 [23] O6_17 [_, _, _, _, _, _, _, _, _, _, _, _, _, _, _, _, _, _, _, _, _, _, _, _, _, _, _, _, _] [_, _] rfl (by repeat' (first | exact trivial | refine And.intro ?_ ?_ | exact bS | exact bX | exact bZ | exact bI | exact bC (π := []) (hs := by first | exact h2 | fail) | exact bC (π := []) (hs := by first | exact hS | fail) | exact bC (π := []) (hs := by first | exact hLf | fail) | fail)) ?_
            | fail)
          exact pD [] ⟨rfl, rfl⟩
        · rw [if_neg hp] at e6
          by_cases hll : (L.length : Int) ≤ max 0 ((l.length : Int) / 4 - max 0 p)
          all_goals
            repeat' (first
              | refine IOps_nil ?_
              | refine oS ?_
              | refine IOps_s rfl rfl ?_
              | refine oT ?_
              | refine IOps_s0 rfl ?_
              | refine oC (π := []) (hs := by first | exact h2 | fail) (hx := ?_)
              | refine oC (π := []) (hs := by first | exact hS | fail) (hx := ?_)
              | refine oC (π := []) (hs := by first | exact hLf | fail) (hx := ?_)
              | refine oZ ?_
              | refine oI ?_
              | refine thenI_n ?_
              | refine IWP_seq ?_
              | refine IWP_region ?_
              | refine IWP_ct rfl ?_
              | refine IWP_cf rfl ?_
              | refine IWP_skip ?_
              | refine IWP_ret ?_
              | refine IWP_block ?_
              | refine inB_n ?_
              | refine thenI_r ?_
              | refine thenI_e ?_
              | refine inB_r ?_
              | refine inB_hit ?_
              | refine inB_miss rfl ?_
              | refine IWP_exit ?_
              | refine Loop_n ?_
              | refine oD (id := 14) W6_14 [] O6_14 [_, _, _, _, _, _, _, _, _] [_] rfl (by repeat' (first | exact trivial | refine And.intro ?_ ?_ | exact bS | exact bX | exact bZ | exact bI | exact bC (π := []) (hs := by first | exact h2 | fail) | exact bC (π := []) (hs := by first | exact hS | fail) | exact bC (π := []) (hs := by first | exact hLf | fail) | fail)) ?_
              | refine oD (id := 17) W6_17 [23] O6_17 [_, _, _, _, _, _, _, _, _, _, _, _, _, _, _, _, _, _, _, _, _, _, _, _, _, _, _, _, _] [_, _] rfl (by repeat' (first | exact trivial | refine And.intro ?_ ?_ | exact bS | exact bX | exact bZ | exact bI | exact bC (π := []) (hs := by first | exact h2 | fail) | exact bC (π := []) (hs := by first | exact hS | fail) | exact bC (π := []) (hs := by first | exact hLf | fail) | fail)) ?_
              | fail)
            exact pD [] ⟨rfl, rfl⟩
end Go.Proofs.Ytpmgocnapdhabaa
