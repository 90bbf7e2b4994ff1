import Derived.Test.YtpmgocnapdhabaaTapO
namespace Go.Proofs.Ytpmgocnapdhabaa
open Go Go.Idl
set_option linter.unusedSimpArgs false
set_option linter.unusedVariables false
set_option maxRecDepth 100000
set_option maxHeartbeats 1000000
attribute [local irreducible] Go.Idl.IWP Go.Idl.IOps Go.Idl.Obl Go.Idl.OpG Go.Idl.thenI Go.Idl.inBlockI Go.Idl.LoopU

theorem same_spec (a b : List Int) (ha : a.length ≤ 1000000) (hb : b.length ≤ 1000000) : Idl.Spec Try.prog 16 [isl' a, isl' b] [] (Only (.sc (.bool (decide (a = b)))) []) := by
  refine sB Try.func16 Try.ntmps16 ?_
  by_cases h : a.length = b.length
  · repeat' (first
      | refine IOps_nil ?_
      | refine oS ?_
      | refine IOps_s rfl rfl ?_
      | refine oT ?_
      | refine IOps_s0 rfl ?_
      | refine oZ ?_
      | refine oI ?_
      | refine thenI_n ?_
      | refine IWP_seq ?_
      | refine IWP_region ?_
      | refine IWP_ct rfl ?_
      | refine IWP_cf rfl ?_
      | refine IWP_skip ?_
      | refine IWP_ret ?_
      | refine IWP_block ?_
      | refine inB_n ?_
      | refine thenI_r ?_
      | refine thenI_e ?_
      | refine inB_r ?_
      | refine inB_hit ?_
      | refine inB_miss rfl ?_
      | refine IWP_exit ?_
      | refine Loop_n ?_
      | refine oD (id := 6) W16_6 [] O16_6 [_, _, _, _, _, _, _, _, _] [_] rfl (by repeat' (first | exact trivial | refine And.intro ?_ ?_ | exact bS | exact bX | exact bZ | exact bI | fail)) ?_
      | fail)
    refine IWP_loop (fun i : Nat => ⟨26, [(0, isl' a), (1, isl' b), (4, .sc (.bool false)), (5, .i64 i)], []⟩) (fun i => i ≤ a.length ∧ ∀ j, j < i → a.getD j 0 = b.getD j 0) (fun i => a.length - i) 0 (lP []) ⟨by omega, fun j hj => by omega⟩ ?_
    rintro i ⟨hi, hpre⟩
    by_cases hia : i < a.length
    · by_cases hn : a.getD i 0 = b.getD i 0
      · repeat' (first
          | refine IOps_nil ?_
          | refine oS ?_
          | refine IOps_s rfl rfl ?_
          | refine oT ?_
          | refine IOps_s0 rfl ?_
          | refine oZ ?_
          | refine oI ?_
          | refine thenI_n ?_
          | refine IWP_seq ?_
          | refine IWP_region ?_
          | refine IWP_ct rfl ?_
          | refine IWP_cf rfl ?_
          | refine IWP_skip ?_
          | refine IWP_ret ?_
          | refine IWP_block ?_
          | refine inB_n ?_
          | refine thenI_r ?_
          | refine thenI_e ?_
          | refine inB_r ?_
          | refine inB_hit ?_
          | refine inB_miss rfl ?_
          | refine IWP_exit ?_
          | refine Loop_n ?_
          | refine oD (id := 6) W16_6 [] O16_6 [_, _, _, _, _, _, _, _, _] [_] rfl (by repeat' (first | exact trivial | refine And.intro ?_ ?_ | exact bS | exact bX | exact bZ | exact bI | fail)) ?_
          | fail)
        refine ⟨i + 1, ⟨by omega, fun j hj => ?_⟩, by omega, lP []⟩
        rcases Nat.lt_succ_iff_lt_or_eq.1 hj with h' | rfl
        · exact hpre j h'
        · exact hn
      · rw [show decide (a = b) = false from decide_eq_false (by rintro rfl; exact hn rfl)]
        repeat' (first
          | refine IOps_nil ?_
          | refine oS ?_
          | refine IOps_s rfl rfl ?_
          | refine oT ?_
          | refine IOps_s0 rfl ?_
          | refine oZ ?_
          | refine oI ?_
          | refine thenI_n ?_
          | refine IWP_seq ?_
          | refine IWP_region ?_
          | refine IWP_ct rfl ?_
          | refine IWP_cf rfl ?_
          | refine IWP_skip ?_
          | refine IWP_ret ?_
          | refine IWP_block ?_
          | refine inB_n ?_
          | refine thenI_r ?_
          | refine thenI_e ?_
          | refine inB_r ?_
          | refine inB_hit ?_
          | refine inB_miss rfl ?_
          | refine IWP_exit ?_
          | refine Loop_n ?_
          | refine oD (id := 6) W16_6 [] O16_6 [_, _, _, _, _, _, _, _, _] [_] rfl (by repeat' (first | exact trivial | refine And.intro ?_ ?_ | exact bS | exact bX | exact bZ | exact bI | fail)) ?_
          | fail)
        exact pD [] ⟨rfl, rfl⟩
    · rw [show decide (a = b) = true from decide_eq_true (List.ext_getElem h fun j h1 h2 => by
        have := hpre j (by omega)
        simpa [List.getD_eq_getElem?_getD, h1, h2] using this)]
      repeat' (first
        | refine IOps_nil ?_
        | refine oS ?_
        | refine IOps_s rfl rfl ?_
        | refine oT ?_
        | refine IOps_s0 rfl ?_
        | refine oZ ?_
        | refine oI ?_
        | refine thenI_n ?_
        | refine IWP_seq ?_
        | refine IWP_region ?_
        | refine IWP_ct rfl ?_
        | refine IWP_cf rfl ?_
        | refine IWP_skip ?_
        | refine IWP_ret ?_
        | refine IWP_block ?_
        | refine inB_n ?_
        | refine thenI_r ?_
        | refine thenI_e ?_
        | refine inB_r ?_
        | refine inB_hit ?_
        | refine inB_miss rfl ?_
        | refine IWP_exit ?_
        | refine Loop_n ?_
        | refine oD (id := 6) W16_6 [] O16_6 [_, _, _, _, _, _, _, _, _] [_] rfl (by repeat' (first | exact trivial | refine And.intro ?_ ?_ | exact bS | exact bX | exact bZ | exact bI | fail)) ?_
        | fail)
      exact pD [] ⟨rfl, rfl⟩
  · rw [show decide (a = b) = false from decide_eq_false (by rintro rfl; exact h rfl)]
    repeat' (first
      | refine IOps_nil ?_
      | refine oS ?_
      | refine IOps_s rfl rfl ?_
      | refine oT ?_
      | refine IOps_s0 rfl ?_
      | refine oZ ?_
      | refine oI ?_
      | refine thenI_n ?_
      | refine IWP_seq ?_
      | refine IWP_region ?_
      | refine IWP_ct rfl ?_
      | refine IWP_cf rfl ?_
      | refine IWP_skip ?_
      | refine IWP_ret ?_
      | refine IWP_block ?_
      | refine inB_n ?_
      | refine thenI_r ?_
      | refine thenI_e ?_
      | refine inB_r ?_
      | refine inB_hit ?_
      | refine inB_miss rfl ?_
      | refine IWP_exit ?_
      | refine Loop_n ?_
      | refine oD (id := 6) W16_6 [] O16_6 [_, _, _, _, _, _, _, _, _] [_] rfl (by repeat' (first | exact trivial | refine And.intro ?_ ?_ | exact bS | exact bX | exact bZ | exact bI | fail)) ?_
      | fail)
    exact pD [] ⟨rfl, rfl⟩

theorem del_list (L : List Int) (len i : Nat) (hi : i < len) (hl : len ≤ L.length) :
    List.take (i + (len - (i + 1))) (List.take i L ++ (List.take (len - (i + 1)) (List.drop (i + 1) L) ++ List.drop (i + (len - (i + 1))) L)) ++
      (List.replicate (len - (i + (len - (i + 1)))) 0 ++ List.drop (i + (len - (i + 1)) + (len - (i + (len - (i + 1))))) (List.take i L ++ (List.take (len - (i + 1)) (List.drop (i + 1) L) ++ List.drop (i + (len - (i + 1))) L)))
      = (L.take len).eraseIdx i ++ 0 :: L.drop len := by
  have e1 : i + (len - (i + 1)) = len - 1 := by omega
  have e2 : len - 1 + (len - (len - 1)) = len := by omega
  have e3 : len - (len - 1) = 1 := by omega
  rw [e1, e2, e3]
  have l1 : (List.take i L ++ List.take (len - (i + 1)) (List.drop (i + 1) L)).length = len - 1 := by simp; omega
  have a1 : List.take i L ++ (List.take (len - (i + 1)) (List.drop (i + 1) L) ++ List.drop (len - 1) L) = (List.take i L ++ List.take (len - (i + 1)) (List.drop (i + 1) L)) ++ List.drop (len - 1) L := by simp
  have a2 : (L.take len).eraseIdx i = List.take i L ++ List.take (len - (i + 1)) (List.drop (i + 1) L) := by
    rw [List.eraseIdx_eq_take_drop_succ, List.take_take, Nat.min_eq_left (by omega), List.drop_take]
  rw [a1, a2]
  generalize hX : List.take i L ++ List.take (len - (i + 1)) (List.drop (i + 1) L) = X at l1
  rw [List.take_append_of_le_length (by omega), List.take_of_length_le (by omega), List.drop_append, l1, List.drop_of_length_le (by omega), List.drop_drop, show len - 1 + (len - (len - 1)) = len by omega]
  rfl

theorem del_spec (L : List Int) (len cap i : Nat) (hi : i < len) (hl : len ≤ L.length) (hc : len ≤ cap) (hL : L.length ≤ 1000000) :
    Idl.Spec Try.prog 20 [.sl 0 0 len cap 1, .i64 i, .i64 (i + 1)] [.arr false (ints L)] (Only (.sl 0 0 (len - 1) cap 1) [.arr false (ints ((L.take len).eraseIdx i ++ 0 :: L.drop len))]) := by
  refine sB Try.func20 Try.ntmps20 ?_
  repeat' (first
    | refine IOps_nil ?_
    | refine oS ?_
    | refine IOps_s rfl rfl ?_
    | refine oT ?_
    | refine IOps_s0 rfl ?_
    | refine oZ ?_
    | refine oI ?_
    | refine thenI_n ?_
    | refine IWP_seq ?_
    | refine IWP_region ?_
    | refine IWP_ct rfl ?_
    | refine IWP_cf rfl ?_
    | refine IWP_skip ?_
    | refine IWP_ret ?_
    | refine IWP_block ?_
    | refine inB_n ?_
    | refine thenI_r ?_
    | refine thenI_e ?_
    | refine inB_r ?_
    | refine inB_hit ?_
    | refine inB_miss rfl ?_
    | refine IWP_exit ?_
    | refine Loop_n ?_
    | refine oD (id := 5) W20_5 [6] O20_5 [_, _, _, _, _, _, _, _] [_, _] rfl (by repeat' (first | exact trivial | refine And.intro ?_ ?_ | exact bS | exact bX | exact bZ | exact bI | fail)) ?_
    | fail)
  refine pE [0] ?_ (hH := ?_)
  · rw [show i + (len - (i + 1)) = len - 1 from by omega]
  · rw [← del_list L len i hi hl]
theorem del_spec' (left junk : List Int) (len cap i : Nat) (hi : i < len) (hl : left.length = len) (hc : len ≤ cap) (hL : len + junk.length ≤ 1000000) :
    Idl.Spec Try.prog 20 [.sl 0 0 len cap 1, .i64 i, .i64 (i + 1)] [.arr false (ints (left ++ junk))] (Only (.sl 0 0 (len - 1) cap 1) [.arr false (ints (left.eraseIdx i ++ 0 :: junk))]) := by
  have h := del_spec (left ++ junk) len cap i hi (by simp; omega) hc (by simp; omega)
  subst hl
  rwa [List.take_left, List.drop_left] at h
end Go.Proofs.Ytpmgocnapdhabaa
