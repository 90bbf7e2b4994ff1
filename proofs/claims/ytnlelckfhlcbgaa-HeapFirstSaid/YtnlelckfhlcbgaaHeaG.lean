/-
  A heap: finding and telling.
-/
import Derived.Test.YtnlelckfhlcbgaaHeaF
namespace Go.Proofs.Ytnlelckfhlcbgaa
open Go Go.Idl
set_option linter.unusedSimpArgs false
set_option linter.unusedVariables false
set_option maxRecDepth 100000
set_option maxHeartbeats 1000000
attribute [local irreducible] Go.Idl.IWP Go.Idl.IOps Go.Idl.Obl Go.Idl.OpG Go.Idl.thenI Go.Idl.inBlockI Go.Idl.LoopU Go.Idl.noGotoI Go.Idl.jumpI
attribute [local go_sem] List.length_set
abbrev itV (x : It) : IV := .agg [.sc (.int .i64 x.id), .sc (.int .u64 x.pri), .sc (.int .u64 x.seq)]
def findV (L : List It) (id : Int) : It × Bool := if placeI L id < 0 then (default, false) else (gd L (placeI L id).toNat, true)
theorem findV_hit {L : List It} {id : Int} {i : Nat} (h : i < L.length) (he : (gd L i).id = id) (hn : ∀ j, j < i → (gd L j).id ≠ id) : findV L id = (gd L i, true) := by
  unfold findV; rw [placeI_hit h he hn, if_neg (by omega)]; rfl
theorem findV_miss {L : List It} {id : Int} (hn : ∀ j, j < L.length → (gd L j).id ≠ id) : findV L id = (default, false) := by
  unfold findV; rw [placeI_miss hn]; rfl
/-- There is a first one, or none. -/
theorem first_or (L : List It) (id : Int) : (∃ i, i < L.length ∧ (gd L i).id = id ∧ ∀ j, j < i → (gd L j).id ≠ id) ∨ ∀ j, j < L.length → (gd L j).id ≠ id := by
  by_cases h : L.findIdx (fun x => x.id == id) < L.length
  · refine .inl ⟨_, h, ?_, fun j hj => ?_⟩
    · have := List.findIdx_getElem (w := h)
      rw [gd_eq h]; simpa using this
    · have := List.not_of_lt_findIdx hj
      rw [gd_eq (by omega)]; simpa using this
  · refine .inr fun j hj => ?_
    have := List.not_of_lt_findIdx (p := fun x : It => x.id == id) (xs := L) (i := j) (by omega)
    rw [gd_eq hj]; simpa using this
theorem find_spec (h : List It) (id : Int) (hL : h.length ≤ 1000000) : Idl.Spec Try.prog 16 [.fz false (items h) h.length, .i64 id] []
    (Only (.tup [itV (if chk h then findV h id else (default, false)).1, .sc (.bool (if chk h then findV h id else (default, false)).2)]) []) := by
  have hcs := check_spec h (by omega)
  have hps := place_fz h id 0 (by omega)
  cases hc : chk h
  · rw [hc] at hcs
    simp only [Bool.false_eq_true, if_false]
    refine sB Try.func16 Try.ntmps16 ?_
    repeat' (first
      | refine IOps_nil ?_
      | refine oS ?_
      | refine IOps_s rfl rfl ?_
      | refine oT ?_
      | refine IOps_s0 rfl ?_
      | refine oC (π := []) (hs := by first | exact hcs | fail) (hx := ?_)
      | refine oZ ?_
      | refine oI ?_
      | refine thenI_n ?_
      | refine IWP_seq ?_
      | refine IWP_region ?_
      | refine IWP_ct rfl ?_
      | refine IWP_cf rfl ?_
      | refine IWP_skip ?_
      | refine IWP_ret ?_
      | refine IWP_block ?_
      | refine inB_n ?_
      | refine thenI_r ?_
      | refine thenI_e ?_
      | refine inB_r ?_
      | refine inB_hit ?_
      | refine inB_miss rfl ?_
      | refine IWP_exit ?_
      | refine IWP_scope ?_
      | refine IWP_label ?_
      | refine noG_n ?_
      | refine noG_r ?_
      | refine noG_e ?_
      | refine jmp_n ?_
      | refine jmp_r ?_
      | refine jmp_e ?_
      | refine jmp_g ?_
      | refine thenI_g ?_
      | refine inB_g ?_
      | refine IWP_goto ?_
      | refine Loop_n ?_
      | fail)
    exact pD [] ⟨rfl, rfl⟩
  · rw [hc] at hcs
    simp only [if_true]
    rcases first_or h id with ⟨i, hi, he, hn⟩ | hn
    · rw [findV_hit hi he hn]
      rw [placeI_hit hi he hn] at hps
      refine sB Try.func16 Try.ntmps16 ?_
      repeat' (first
        | refine IOps_nil ?_
        | refine oS ?_
        | refine IOps_s rfl rfl ?_
        | refine oT ?_
        | refine IOps_s0 rfl ?_
        | refine oC (π := []) (hs := by first | exact hcs | fail) (hx := ?_)
        | refine oC (π := []) (hs := by first | exact hps | fail) (hx := ?_)
        | refine oZ ?_
        | refine oI ?_
        | refine thenI_n ?_
        | refine IWP_seq ?_
        | refine IWP_region ?_
        | refine IWP_ct rfl ?_
        | refine IWP_cf rfl ?_
        | refine IWP_skip ?_
        | refine IWP_ret ?_
        | refine IWP_block ?_
        | refine inB_n ?_
        | refine thenI_r ?_
        | refine thenI_e ?_
        | refine inB_r ?_
        | refine inB_hit ?_
        | refine inB_miss rfl ?_
        | refine IWP_exit ?_
        | refine IWP_scope ?_
        | refine IWP_label ?_
        | refine noG_n ?_
        | refine noG_r ?_
        | refine noG_e ?_
        | refine jmp_n ?_
        | refine jmp_r ?_
        | refine jmp_e ?_
        | refine jmp_g ?_
        | refine thenI_g ?_
        | refine inB_g ?_
        | refine IWP_goto ?_
        | refine Loop_n ?_
        | fail)
      exact pD [] ⟨rfl, rfl⟩
    · rw [findV_miss hn]
      rw [placeI_miss hn] at hps
      refine sB Try.func16 Try.ntmps16 ?_
      repeat' (first
        | refine IOps_nil ?_
        | refine oS ?_
        | refine IOps_s rfl rfl ?_
        | refine oT ?_
        | refine IOps_s0 rfl ?_
        | refine oC (π := []) (hs := by first | exact hcs | fail) (hx := ?_)
        | refine oC (π := []) (hs := by first | exact hps | fail) (hx := ?_)
        | refine oZ ?_
        | refine oI ?_
        | refine thenI_n ?_
        | refine IWP_seq ?_
        | refine IWP_region ?_
        | refine IWP_ct rfl ?_
        | refine IWP_cf rfl ?_
        | refine IWP_skip ?_
        | refine IWP_ret ?_
        | refine IWP_block ?_
        | refine inB_n ?_
        | refine thenI_r ?_
        | refine thenI_e ?_
        | refine inB_r ?_
        | refine inB_hit ?_
        | refine inB_miss rfl ?_
        | refine IWP_exit ?_
        | refine IWP_scope ?_
        | refine IWP_label ?_
        | refine noG_n ?_
        | refine noG_r ?_
        | refine noG_e ?_
        | refine jmp_n ?_
        | refine jmp_r ?_
        | refine jmp_e ?_
        | refine jmp_g ?_
        | refine thenI_g ?_
        | refine inB_g ?_
        | refine IWP_goto ?_
        | refine Loop_n ?_
        | fail)
      exact pD [] ⟨rfl, rfl⟩
def minV (h : List It) : It × Bool := if 0 < h.length ∧ chk h = true then (gd h 0, true) else (default, false)
theorem min_spec (h : List It) (hL : h.length ≤ 1000000) : Idl.Spec Try.prog 18 [.fz false (items h) h.length] []
    (Only (.tup [itV (minV h).1, .sc (.bool (minV h).2)]) []) := by
  have hcs := check_spec h (by omega)
  by_cases h0 : 0 < h.length
  · cases hc : chk h
    · rw [hc] at hcs
      rw [show minV h = (default, false) from if_neg (by rw [hc]; simp)]
      refine sB Try.func18 Try.ntmps18 ?_
      repeat' (first
        | refine IOps_nil ?_
        | refine oS ?_
        | refine IOps_s rfl rfl ?_
        | refine oT ?_
        | refine IOps_s0 rfl ?_
        | refine oC (π := []) (hs := by first | exact hcs | fail) (hx := ?_)
        | refine oZ ?_
        | refine oI ?_
        | refine thenI_n ?_
        | refine IWP_seq ?_
        | refine IWP_region ?_
        | refine IWP_ct rfl ?_
        | refine IWP_cf rfl ?_
        | refine IWP_skip ?_
        | refine IWP_ret ?_
        | refine IWP_block ?_
        | refine inB_n ?_
        | refine thenI_r ?_
        | refine thenI_e ?_
        | refine inB_r ?_
        | refine inB_hit ?_
        | refine inB_miss rfl ?_
        | refine IWP_exit ?_
        | refine IWP_scope ?_
        | refine IWP_label ?_
        | refine noG_n ?_
        | refine noG_r ?_
        | refine noG_e ?_
        | refine jmp_n ?_
        | refine jmp_r ?_
        | refine jmp_e ?_
        | refine jmp_g ?_
        | refine thenI_g ?_
        | refine inB_g ?_
        | refine IWP_goto ?_
        | refine Loop_n ?_
        | fail)
      exact pD [] ⟨rfl, rfl⟩
    · rw [hc] at hcs
      rw [show minV h = (gd h 0, true) from if_pos ⟨h0, hc⟩]
      refine sB Try.func18 Try.ntmps18 ?_
      repeat' (first
        | refine IOps_nil ?_
        | refine oS ?_
        | refine IOps_s rfl rfl ?_
        | refine oT ?_
        | refine IOps_s0 rfl ?_
        | refine oC (π := []) (hs := by first | exact hcs | fail) (hx := ?_)
        | refine oZ ?_
        | refine oI ?_
        | refine thenI_n ?_
        | refine IWP_seq ?_
        | refine IWP_region ?_
        | refine IWP_ct rfl ?_
        | refine IWP_cf rfl ?_
        | refine IWP_skip ?_
        | refine IWP_ret ?_
        | refine IWP_block ?_
        | refine inB_n ?_
        | refine thenI_r ?_
        | refine thenI_e ?_
        | refine inB_r ?_
        | refine inB_hit ?_
        | refine inB_miss rfl ?_
        | refine IWP_exit ?_
        | refine IWP_scope ?_
        | refine IWP_label ?_
        | refine noG_n ?_
        | refine noG_r ?_
        | refine noG_e ?_
        | refine jmp_n ?_
        | refine jmp_r ?_
        | refine jmp_e ?_
        | refine jmp_g ?_
        | refine thenI_g ?_
        | refine inB_g ?_
        | refine IWP_goto ?_
        | refine Loop_n ?_
        | fail)
      exact pD [] ⟨rfl, rfl⟩
  · rw [show minV h = (default, false) from if_neg (fun h => h0 h.1)]
    refine sB Try.func18 Try.ntmps18 ?_
    repeat' (first
      | refine IOps_nil ?_
      | refine oS ?_
      | refine IOps_s rfl rfl ?_
      | refine oT ?_
      | refine IOps_s0 rfl ?_
      | refine oC (π := []) (hs := by first | exact hcs | fail) (hx := ?_)
      | refine oZ ?_
      | refine oI ?_
      | refine thenI_n ?_
      | refine IWP_seq ?_
      | refine IWP_region ?_
      | refine IWP_ct rfl ?_
      | refine IWP_cf rfl ?_
      | refine IWP_skip ?_
      | refine IWP_ret ?_
      | refine IWP_block ?_
      | refine inB_n ?_
      | refine thenI_r ?_
      | refine thenI_e ?_
      | refine inB_r ?_
      | refine inB_hit ?_
      | refine inB_miss rfl ?_
      | refine IWP_exit ?_
      | refine IWP_scope ?_
      | refine IWP_label ?_
      | refine noG_n ?_
      | refine noG_r ?_
      | refine noG_e ?_
      | refine jmp_n ?_
      | refine jmp_r ?_
      | refine jmp_e ?_
      | refine jmp_g ?_
      | refine thenI_g ?_
      | refine inB_g ?_
      | refine IWP_goto ?_
      | refine Loop_n ?_
      | fail)
    exact pD [] ⟨rfl, rfl⟩
theorem rfind_spec (h : List It) (id : Int) (hL : h.length ≤ 1000000) : Idl.Spec Try.prog 17 [.fz false (items h) h.length, .i64 id] []
    (Only (.tup [itV (findV h id).1, .sc (.bool (findV h id).2)]) []) := by
  refine sB Try.func17 Try.ntmps17 ?_
  repeat' (first
    | refine IOps_nil ?_
    | refine oS ?_
    | refine IOps_s rfl rfl ?_
    | refine oT ?_
    | refine IOps_s0 rfl ?_
    | refine oZ ?_
    | refine oI ?_
    | refine thenI_n ?_
    | refine IWP_seq ?_
    | refine IWP_region ?_
    | refine IWP_ct rfl ?_
    | refine IWP_cf rfl ?_
    | refine IWP_skip ?_
    | refine IWP_ret ?_
    | refine IWP_block ?_
    | refine inB_n ?_
    | refine thenI_r ?_
    | refine thenI_e ?_
    | refine inB_r ?_
    | refine inB_hit ?_
    | refine inB_miss rfl ?_
    | refine IWP_exit ?_
    | refine IWP_scope ?_
    | refine IWP_label ?_
    | refine noG_n ?_
    | refine noG_r ?_
    | refine noG_e ?_
    | refine jmp_n ?_
    | refine jmp_r ?_
    | refine jmp_e ?_
    | refine jmp_g ?_
    | refine thenI_g ?_
    | refine inB_g ?_
    | refine IWP_goto ?_
    | refine Loop_n ?_
    | fail)
  refine IWP_loop (fun i : Nat => ⟨25, [(0, .fz false (items h) h.length), (1, .i64 id), (4, .ptr 0 0), (5, .sc (.bool false)), (6, .i64 i)], [.box [.sc (.int .i64 0), .sc (.int .u64 0), .sc (.int .u64 0)]]⟩) (fun i => i ≤ h.length ∧ ∀ j, j < i → (gd h j).id ≠ id) (fun i => h.length - i) 0 (lP [0]) ⟨Nat.zero_le _, fun j h => by omega⟩ ?_
  rintro i ⟨hi, hn⟩
  by_cases h1 : i < h.length
  · by_cases he : (gd h i).id = id
    · rw [findV_hit h1 he hn]
      repeat' (first
        | refine IOps_nil ?_
        | refine oS ?_
        | refine IOps_s rfl rfl ?_
        | refine oT ?_
        | refine IOps_s0 rfl ?_
        | refine oZ ?_
        | refine oI ?_
        | refine thenI_n ?_
        | refine IWP_seq ?_
        | refine IWP_region ?_
        | refine IWP_ct rfl ?_
        | refine IWP_cf rfl ?_
        | refine IWP_skip ?_
        | refine IWP_ret ?_
        | refine IWP_block ?_
        | refine inB_n ?_
        | refine thenI_r ?_
        | refine thenI_e ?_
        | refine inB_r ?_
        | refine inB_hit ?_
        | refine inB_miss rfl ?_
        | refine IWP_exit ?_
        | refine IWP_scope ?_
        | refine IWP_label ?_
        | refine noG_n ?_
        | refine noG_r ?_
        | refine noG_e ?_
        | refine jmp_n ?_
        | refine jmp_r ?_
        | refine jmp_e ?_
        | refine jmp_g ?_
        | refine thenI_g ?_
        | refine inB_g ?_
        | refine IWP_goto ?_
        | refine Loop_n ?_
        | fail)
      exact pD [] ⟨rfl, rfl⟩
    · repeat' (first
        | refine IOps_nil ?_
        | refine oS ?_
        | refine IOps_s rfl rfl ?_
        | refine oT ?_
        | refine IOps_s0 rfl ?_
        | refine oZ ?_
        | refine oI ?_
        | refine thenI_n ?_
        | refine IWP_seq ?_
        | refine IWP_region ?_
        | refine IWP_ct rfl ?_
        | refine IWP_cf rfl ?_
        | refine IWP_skip ?_
        | refine IWP_ret ?_
        | refine IWP_block ?_
        | refine inB_n ?_
        | refine thenI_r ?_
        | refine thenI_e ?_
        | refine inB_r ?_
        | refine inB_hit ?_
        | refine inB_miss rfl ?_
        | refine IWP_exit ?_
        | refine IWP_scope ?_
        | refine IWP_label ?_
        | refine noG_n ?_
        | refine noG_r ?_
        | refine noG_e ?_
        | refine jmp_n ?_
        | refine jmp_r ?_
        | refine jmp_e ?_
        | refine jmp_g ?_
        | refine thenI_g ?_
        | refine inB_g ?_
        | refine IWP_goto ?_
        | refine Loop_n ?_
        | fail)
      exact ⟨i + 1, ⟨h1, fun j hj => by
        rcases Nat.lt_succ_iff_lt_or_eq.1 hj with h | rfl
        · exact hn j h
        · exact he⟩, by omega, lP [0]⟩
  · rw [findV_miss fun j hj => hn j (by omega)]
    repeat' (first
      | refine IOps_nil ?_
      | refine oS ?_
      | refine IOps_s rfl rfl ?_
      | refine oT ?_
      | refine IOps_s0 rfl ?_
      | refine oZ ?_
      | refine oI ?_
      | refine thenI_n ?_
      | refine IWP_seq ?_
      | refine IWP_region ?_
      | refine IWP_ct rfl ?_
      | refine IWP_cf rfl ?_
      | refine IWP_skip ?_
      | refine IWP_ret ?_
      | refine IWP_block ?_
      | refine inB_n ?_
      | refine thenI_r ?_
      | refine thenI_e ?_
      | refine inB_r ?_
      | refine inB_hit ?_
      | refine inB_miss rfl ?_
      | refine IWP_exit ?_
      | refine IWP_scope ?_
      | refine IWP_label ?_
      | refine noG_n ?_
      | refine noG_r ?_
      | refine noG_e ?_
      | refine jmp_n ?_
      | refine jmp_r ?_
      | refine jmp_e ?_
      | refine jmp_g ?_
      | refine thenI_g ?_
      | refine inB_g ?_
      | refine IWP_goto ?_
      | refine Loop_n ?_
      | fail)
    exact pD [] ⟨rfl, rfl⟩
def sameV (a b : List It) : Bool := decide (a = b)
theorem same_spec (a b : List It) (ha : a.length ≤ 1000000) : Idl.Spec Try.prog 23 [.fz false (items a) a.length, .fz false (items b) b.length] []
    (Only (.sc (.bool (sameV a b))) []) := by
  by_cases hl : a.length = b.length
  · refine sB Try.func23 Try.ntmps23 ?_
    repeat' (first
      | refine IOps_nil ?_
      | refine oS ?_
      | refine IOps_s rfl rfl ?_
      | refine oT ?_
      | refine IOps_s0 rfl ?_
      | refine oZ ?_
      | refine oI ?_
      | refine thenI_n ?_
      | refine IWP_seq ?_
      | refine IWP_region ?_
      | refine IWP_ct rfl ?_
      | refine IWP_cf rfl ?_
      | refine IWP_skip ?_
      | refine IWP_ret ?_
      | refine IWP_block ?_
      | refine inB_n ?_
      | refine thenI_r ?_
      | refine thenI_e ?_
      | refine inB_r ?_
      | refine inB_hit ?_
      | refine inB_miss rfl ?_
      | refine IWP_exit ?_
      | refine IWP_scope ?_
      | refine IWP_label ?_
      | refine noG_n ?_
      | refine noG_r ?_
      | refine noG_e ?_
      | refine jmp_n ?_
      | refine jmp_r ?_
      | refine jmp_e ?_
      | refine jmp_g ?_
      | refine thenI_g ?_
      | refine inB_g ?_
      | refine IWP_goto ?_
      | refine Loop_n ?_
      | refine oD (id := 6) W23_6 [] O23_6 [_, _, _, _, _, _, _, _, _] [_] rfl (by repeat' (first | exact trivial | refine And.intro ?_ ?_ | exact bS | exact bX | exact bZ | exact bI | fail)) ?_
      | fail)
    refine IWP_loop (fun i : Nat => ⟨26, [(0, .fz false (items a) a.length), (1, .fz false (items b) b.length), (4, .sc (.bool false)), (5, .i64 i)], []⟩) (fun i => i ≤ a.length ∧ ∀ j, j < i → gd a j = gd b j) (fun i => a.length - i) 0 (lP []) ⟨Nat.zero_le _, fun j h => by omega⟩ ?_
    rintro i ⟨hi, hn⟩
    by_cases h1 : i < a.length
    · have hne : gd a i ≠ gd b i → sameV a b = false := fun h => decide_eq_false (by rintro rfl; exact h rfl)
      have hex : (a.getD i default).id = (b.getD i default).id → (a.getD i default).pri = (b.getD i default).pri → (a.getD i default).seq = (b.getD i default).seq → gd a i = gd b i := fun h1 h2 h3 => by
        show a.getD i default = b.getD i default
        generalize a.getD i default = x at *; generalize b.getD i default = y at *
        cases x; cases y; simp_all
      by_cases e1 : (a.getD i default).id = (b.getD i default).id
      · by_cases e2 : (a.getD i default).pri = (b.getD i default).pri
        · by_cases e3 : (a.getD i default).seq = (b.getD i default).seq
          · repeat' (first
              | refine IOps_nil ?_
              | refine oS ?_
              | refine IOps_s rfl rfl ?_
              | refine oT ?_
              | refine IOps_s0 rfl ?_
              | refine oZ ?_
              | refine oI ?_
              | refine thenI_n ?_
              | refine IWP_seq ?_
              | refine IWP_region ?_
              | refine IWP_ct rfl ?_
              | refine IWP_cf rfl ?_
              | refine IWP_skip ?_
              | refine IWP_ret ?_
              | refine IWP_block ?_
              | refine inB_n ?_
              | refine thenI_r ?_
              | refine thenI_e ?_
              | refine inB_r ?_
              | refine inB_hit ?_
              | refine inB_miss rfl ?_
              | refine IWP_exit ?_
              | refine IWP_scope ?_
              | refine IWP_label ?_
              | refine noG_n ?_
              | refine noG_r ?_
              | refine noG_e ?_
              | refine jmp_n ?_
              | refine jmp_r ?_
              | refine jmp_e ?_
              | refine jmp_g ?_
              | refine thenI_g ?_
              | refine inB_g ?_
              | refine IWP_goto ?_
              | refine Loop_n ?_
              | refine oD (id := 6) W23_6 [] O23_6 [_, _, _, _, _, _, _, _, _] [_] rfl (by repeat' (first | exact trivial | refine And.intro ?_ ?_ | exact bS | exact bX | exact bZ | exact bI | fail)) ?_
              | fail)
            exact ⟨i + 1, ⟨h1, fun j hj => by
              rcases Nat.lt_succ_iff_lt_or_eq.1 hj with h | rfl
              · exact hn j h
              · exact hex e1 e2 e3⟩, by omega, lP []⟩
          · rw [hne fun h => e3 (congrArg It.seq h)]
            repeat' (first
              | refine IOps_nil ?_
              | refine oS ?_
              | refine IOps_s rfl rfl ?_
              | refine oT ?_
              | refine IOps_s0 rfl ?_
              | refine oZ ?_
              | refine oI ?_
              | refine thenI_n ?_
              | refine IWP_seq ?_
              | refine IWP_region ?_
              | refine IWP_ct rfl ?_
              | refine IWP_cf rfl ?_
              | refine IWP_skip ?_
              | refine IWP_ret ?_
              | refine IWP_block ?_
              | refine inB_n ?_
              | refine thenI_r ?_
              | refine thenI_e ?_
              | refine inB_r ?_
              | refine inB_hit ?_
              | refine inB_miss rfl ?_
              | refine IWP_exit ?_
              | refine IWP_scope ?_
              | refine IWP_label ?_
              | refine noG_n ?_
              | refine noG_r ?_
              | refine noG_e ?_
              | refine jmp_n ?_
              | refine jmp_r ?_
              | refine jmp_e ?_
              | refine jmp_g ?_
              | refine thenI_g ?_
              | refine inB_g ?_
              | refine IWP_goto ?_
              | refine Loop_n ?_
              | refine oD (id := 6) W23_6 [] O23_6 [_, _, _, _, _, _, _, _, _] [_] rfl (by repeat' (first | exact trivial | refine And.intro ?_ ?_ | exact bS | exact bX | exact bZ | exact bI | fail)) ?_
              | fail)
            exact pD [] ⟨rfl, rfl⟩
        · rw [hne fun h => e2 (congrArg It.pri h)]
          repeat' (first
            | refine IOps_nil ?_
            | refine oS ?_
            | refine IOps_s rfl rfl ?_
            | refine oT ?_
            | refine IOps_s0 rfl ?_
            | refine oZ ?_
            | refine oI ?_
            | refine thenI_n ?_
            | refine IWP_seq ?_
            | refine IWP_region ?_
            | refine IWP_ct rfl ?_
            | refine IWP_cf rfl ?_
            | refine IWP_skip ?_
            | refine IWP_ret ?_
            | refine IWP_block ?_
            | refine inB_n ?_
            | refine thenI_r ?_
            | refine thenI_e ?_
            | refine inB_r ?_
            | refine inB_hit ?_
            | refine inB_miss rfl ?_
            | refine IWP_exit ?_
            | refine IWP_scope ?_
            | refine IWP_label ?_
            | refine noG_n ?_
            | refine noG_r ?_
            | refine noG_e ?_
            | refine jmp_n ?_
            | refine jmp_r ?_
            | refine jmp_e ?_
            | refine jmp_g ?_
            | refine thenI_g ?_
            | refine inB_g ?_
            | refine IWP_goto ?_
            | refine Loop_n ?_
            | refine oD (id := 6) W23_6 [] O23_6 [_, _, _, _, _, _, _, _, _] [_] rfl (by repeat' (first | exact trivial | refine And.intro ?_ ?_ | exact bS | exact bX | exact bZ | exact bI | fail)) ?_
            | fail)
          exact pD [] ⟨rfl, rfl⟩
      · rw [hne fun h => e1 (congrArg It.id h)]
        repeat' (first
          | refine IOps_nil ?_
          | refine oS ?_
          | refine IOps_s rfl rfl ?_
          | refine oT ?_
          | refine IOps_s0 rfl ?_
          | refine oZ ?_
          | refine oI ?_
          | refine thenI_n ?_
          | refine IWP_seq ?_
          | refine IWP_region ?_
          | refine IWP_ct rfl ?_
          | refine IWP_cf rfl ?_
          | refine IWP_skip ?_
          | refine IWP_ret ?_
          | refine IWP_block ?_
          | refine inB_n ?_
          | refine thenI_r ?_
          | refine thenI_e ?_
          | refine inB_r ?_
          | refine inB_hit ?_
          | refine inB_miss rfl ?_
          | refine IWP_exit ?_
          | refine IWP_scope ?_
          | refine IWP_label ?_
          | refine noG_n ?_
          | refine noG_r ?_
          | refine noG_e ?_
          | refine jmp_n ?_
          | refine jmp_r ?_
          | refine jmp_e ?_
          | refine jmp_g ?_
          | refine thenI_g ?_
          | refine inB_g ?_
          | refine IWP_goto ?_
          | refine Loop_n ?_
          | refine oD (id := 6) W23_6 [] O23_6 [_, _, _, _, _, _, _, _, _] [_] rfl (by repeat' (first | exact trivial | refine And.intro ?_ ?_ | exact bS | exact bX | exact bZ | exact bI | fail)) ?_
          | fail)
        exact pD [] ⟨rfl, rfl⟩
    · rw [show sameV a b = true from decide_eq_true (List.ext_getElem hl fun j h1 h2 => by rw [← gd_eq h1, ← gd_eq h2]; exact hn j (by omega))]
      repeat' (first
        | refine IOps_nil ?_
        | refine oS ?_
        | refine IOps_s rfl rfl ?_
        | refine oT ?_
        | refine IOps_s0 rfl ?_
        | refine oZ ?_
        | refine oI ?_
        | refine thenI_n ?_
        | refine IWP_seq ?_
        | refine IWP_region ?_
        | refine IWP_ct rfl ?_
        | refine IWP_cf rfl ?_
        | refine IWP_skip ?_
        | refine IWP_ret ?_
        | refine IWP_block ?_
        | refine inB_n ?_
        | refine thenI_r ?_
        | refine thenI_e ?_
        | refine inB_r ?_
        | refine inB_hit ?_
        | refine inB_miss rfl ?_
        | refine IWP_exit ?_
        | refine IWP_scope ?_
        | refine IWP_label ?_
        | refine noG_n ?_
        | refine noG_r ?_
        | refine noG_e ?_
        | refine jmp_n ?_
        | refine jmp_r ?_
        | refine jmp_e ?_
        | refine jmp_g ?_
        | refine thenI_g ?_
        | refine inB_g ?_
        | refine IWP_goto ?_
        | refine Loop_n ?_
        | refine oD (id := 6) W23_6 [] O23_6 [_, _, _, _, _, _, _, _, _] [_] rfl (by repeat' (first | exact trivial | refine And.intro ?_ ?_ | exact bS | exact bX | exact bZ | exact bI | fail)) ?_
        | fail)
      exact pD [] ⟨rfl, rfl⟩
  · rw [show sameV a b = false from decide_eq_false (by rintro rfl; exact hl rfl)]
    refine sB Try.func23 Try.ntmps23 ?_
    repeat' (first
      | refine IOps_nil ?_
      | refine oS ?_
      | refine IOps_s rfl rfl ?_
      | refine oT ?_
      | refine IOps_s0 rfl ?_
      | refine oZ ?_
      | refine oI ?_
      | refine thenI_n ?_
      | refine IWP_seq ?_
      | refine IWP_region ?_
      | refine IWP_ct rfl ?_
      | refine IWP_cf rfl ?_
      | refine IWP_skip ?_
      | refine IWP_ret ?_
      | refine IWP_block ?_
      | refine inB_n ?_
      | refine thenI_r ?_
      | refine thenI_e ?_
      | refine inB_r ?_
      | refine inB_hit ?_
      | refine inB_miss rfl ?_
      | refine IWP_exit ?_
      | refine IWP_scope ?_
      | refine IWP_label ?_
      | refine noG_n ?_
      | refine noG_r ?_
      | refine noG_e ?_
      | refine jmp_n ?_
      | refine jmp_r ?_
      | refine jmp_e ?_
      | refine jmp_g ?_
      | refine thenI_g ?_
      | refine inB_g ?_
      | refine IWP_goto ?_
      | refine Loop_n ?_
      | refine oD (id := 6) W23_6 [] O23_6 [_, _, _, _, _, _, _, _, _] [_] rfl (by repeat' (first | exact trivial | refine And.intro ?_ ?_ | exact bS | exact bX | exact bZ | exact bI | fail)) ?_
      | fail)
    exact pD [] ⟨rfl, rfl⟩
theorem without_spec (h : List It) (id : Int) (hL : h.length ≤ 1000000) : Idl.Spec Try.prog 29 [.fz false (items h) h.length, .i64 id] []
    (Only (.fz true (items (woI id h)) (woI id h).length) []) := by
  refine sB Try.func29 Try.ntmps29 ?_
  repeat' (first
    | refine IOps_nil ?_
    | refine oS ?_
    | refine IOps_s rfl rfl ?_
    | refine oT ?_
    | refine IOps_s0 rfl ?_
    | refine oZ ?_
    | refine oI ?_
    | refine thenI_n ?_
    | refine IWP_seq ?_
    | refine IWP_region ?_
    | refine IWP_ct rfl ?_
    | refine IWP_cf rfl ?_
    | refine IWP_skip ?_
    | refine IWP_ret ?_
    | refine IWP_block ?_
    | refine inB_n ?_
    | refine thenI_r ?_
    | refine thenI_e ?_
    | refine inB_r ?_
    | refine inB_hit ?_
    | refine inB_miss rfl ?_
    | refine IWP_exit ?_
    | refine IWP_scope ?_
    | refine IWP_label ?_
    | refine noG_n ?_
    | refine noG_r ?_
    | refine noG_e ?_
    | refine jmp_n ?_
    | refine jmp_r ?_
    | refine jmp_e ?_
    | refine jmp_g ?_
    | refine thenI_g ?_
    | refine inB_g ?_
    | refine IWP_goto ?_
    | refine Loop_n ?_
    | fail)
  refine wV 5 3 ?_
  refine IWP_loop (fun i : Nat => ⟨28, [(0, .fz false (items h) h.length), (1, .i64 id), (5, .sl 0 0 (woI id (h.take i)).length (woI id (h.take i)).length 3), (6, .i64 i)], [.arr true (items (woI id (h.take i)))]⟩) (fun i => i ≤ h.length) (fun i => h.length - i) 0 (lP [0]) (Nat.zero_le _) ?_
  intro i hi
  have hle : (woI id (h.take i)).length ≤ h.length := Nat.le_trans (List.length_filter_le _ _) (by rw [List.length_take]; omega)
  by_cases h1 : i < h.length
  · have ht : h.take (i + 1) = h.take i ++ [gd h i] := by rw [List.take_succ_eq_append_getElem h1, gd_eq h1]
    by_cases he : (gd h i).id = id
    · have e : woI id (h.take (i + 1)) = woI id (h.take i) := by rw [ht]; simpa [woI] using he
      repeat' (first
        | refine IOps_nil ?_
        | refine oS ?_
        | refine IOps_s rfl rfl ?_
        | refine oT ?_
        | refine IOps_s0 rfl ?_
        | refine oZ ?_
        | refine oI ?_
        | refine thenI_n ?_
        | refine IWP_seq ?_
        | refine IWP_region ?_
        | refine IWP_ct rfl ?_
        | refine IWP_cf rfl ?_
        | refine IWP_skip ?_
        | refine IWP_ret ?_
        | refine IWP_block ?_
        | refine inB_n ?_
        | refine thenI_r ?_
        | refine thenI_e ?_
        | refine inB_r ?_
        | refine inB_hit ?_
        | refine inB_miss rfl ?_
        | refine IWP_exit ?_
        | refine IWP_scope ?_
        | refine IWP_label ?_
        | refine noG_n ?_
        | refine noG_r ?_
        | refine noG_e ?_
        | refine jmp_n ?_
        | refine jmp_r ?_
        | refine jmp_e ?_
        | refine jmp_g ?_
        | refine thenI_g ?_
        | refine inB_g ?_
        | refine IWP_goto ?_
        | refine Loop_n ?_
        | fail)
      refine ⟨i + 1, h1, by omega, ?_⟩
      rw [e]
      exact lP [0]
    · have e : woI id (h.take (i + 1)) = woI id (h.take i) ++ [gd h i] := by rw [ht]; simpa [woI] using he
      repeat' (first
        | refine IOps_nil ?_
        | refine oS ?_
        | refine IOps_s rfl rfl ?_
        | refine oT ?_
        | refine IOps_s0 rfl ?_
        | refine oZ ?_
        | refine oI ?_
        | refine thenI_n ?_
        | refine IWP_seq ?_
        | refine IWP_region ?_
        | refine IWP_ct rfl ?_
        | refine IWP_cf rfl ?_
        | refine IWP_skip ?_
        | refine IWP_ret ?_
        | refine IWP_block ?_
        | refine inB_n ?_
        | refine thenI_r ?_
        | refine thenI_e ?_
        | refine inB_r ?_
        | refine inB_hit ?_
        | refine inB_miss rfl ?_
        | refine IWP_exit ?_
        | refine IWP_scope ?_
        | refine IWP_label ?_
        | refine noG_n ?_
        | refine noG_r ?_
        | refine noG_e ?_
        | refine jmp_n ?_
        | refine jmp_r ?_
        | refine jmp_e ?_
        | refine jmp_g ?_
        | refine thenI_g ?_
        | refine inB_g ?_
        | refine IWP_goto ?_
        | refine Loop_n ?_
        | fail)
      refine ⟨i + 1, h1, by omega, ?_⟩
      rw [e]
      exact lP [2]
  · obtain rfl : i = h.length := by omega
    rw [List.take_length]
    rw [List.take_length] at hle
    refine wF 5 ?_
    repeat' (first
      | refine IOps_nil ?_
      | refine oS ?_
      | refine IOps_s rfl rfl ?_
      | refine oT ?_
      | refine IOps_s0 rfl ?_
      | refine oZ ?_
      | refine oI ?_
      | refine thenI_n ?_
      | refine IWP_seq ?_
      | refine IWP_region ?_
      | refine IWP_ct rfl ?_
      | refine IWP_cf rfl ?_
      | refine IWP_skip ?_
      | refine IWP_ret ?_
      | refine IWP_block ?_
      | refine inB_n ?_
      | refine thenI_r ?_
      | refine thenI_e ?_
      | refine inB_r ?_
      | refine inB_hit ?_
      | refine inB_miss rfl ?_
      | refine IWP_exit ?_
      | refine IWP_scope ?_
      | refine IWP_label ?_
      | refine noG_n ?_
      | refine noG_r ?_
      | refine noG_e ?_
      | refine jmp_n ?_
      | refine jmp_r ?_
      | refine jmp_e ?_
      | refine jmp_g ?_
      | refine thenI_g ?_
      | refine inB_g ?_
      | refine IWP_goto ?_
      | refine Loop_n ?_
      | fail)
    exact pD [] ⟨rfl, rfl⟩
theorem has_spec (h : List It) (id : Int) (hL : h.length ≤ 1000000) : Idl.Spec Try.prog 28 [.fz false (items h) h.length, .i64 id] []
    (Only (.sc (.bool (decide (((woI id h).length : Int) < h.length)))) []) := by
  have hle : (woI id h).length ≤ h.length := List.length_filter_le _ _
  refine sB Try.func28 Try.ntmps28 ?_
  repeat' (first
    | refine IOps_nil ?_
    | refine oS ?_
    | refine IOps_s rfl rfl ?_
    | refine oT ?_
    | refine IOps_s0 rfl ?_
    | refine oC (π := []) (hs := by first | exact without_spec _ _ (by omega) | fail) (hx := ?_)
    | refine oZ ?_
    | refine oI ?_
    | refine thenI_n ?_
    | refine IWP_seq ?_
    | refine IWP_region ?_
    | refine IWP_ct rfl ?_
    | refine IWP_cf rfl ?_
    | refine IWP_skip ?_
    | refine IWP_ret ?_
    | refine IWP_block ?_
    | refine inB_n ?_
    | refine thenI_r ?_
    | refine thenI_e ?_
    | refine inB_r ?_
    | refine inB_hit ?_
    | refine inB_miss rfl ?_
    | refine IWP_exit ?_
    | refine IWP_scope ?_
    | refine IWP_label ?_
    | refine noG_n ?_
    | refine noG_r ?_
    | refine noG_e ?_
    | refine jmp_n ?_
    | refine jmp_r ?_
    | refine jmp_e ?_
    | refine jmp_g ?_
    | refine thenI_g ?_
    | refine inB_g ?_
    | refine IWP_goto ?_
    | refine Loop_n ?_
    | fail)
  exact pD [] ⟨rfl, rfl⟩
end Go.Proofs.Ytnlelckfhlcbgaa
