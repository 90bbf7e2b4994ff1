/-
  A heap: whether one may be.
-/
import Derived.Test.YtnlelckfhlcbgaaHeaA
namespace Go.Proofs.Ytnlelckfhlcbgaa
open Go Go.Idl
set_option linter.unusedSimpArgs false
set_option linter.unusedVariables false
set_option maxRecDepth 100000
set_option maxHeartbeats 1000000
attribute [local irreducible] Go.Idl.IWP Go.Idl.IOps Go.Idl.Obl Go.Idl.OpG Go.Idl.thenI Go.Idl.inBlockI Go.Idl.LoopU Go.Idl.noGotoI Go.Idl.jumpI
attribute [local go_sem] List.length_set
def okAt (L : List It) (i : Nat) : Prop := (0 ≤ (gd L i).id ∧ (gd L i).id < 64) ∧ (∀ k, k < i → (gd L k).id ≠ (gd L i).id) ∧ ¬ (0 < i ∧ lessI (gd L i) (gd L ((i - 1) / 4)) = true)
instance (L : List It) (i : Nat) : Decidable (okAt L i) := by unfold okAt; infer_instance
def Hp (L : List It) : Prop := L.length ≤ 64 ∧ ∀ i, i < L.length → okAt L i
instance (L : List It) : Decidable (Hp L) := by unfold Hp; infer_instance
def chk (L : List It) : Bool := decide (Hp L)
theorem splice_all (L : List It) : splice (items (List.replicate L.length default)) 0 (items L) = items L := by
  simp [splice, items_length]
attribute [local go_sem] splice_all
theorem copied_spec (L : List It) (hL : L.length ≤ 1000000000) : Idl.Spec Try.prog 44 [.fz false (items L) L.length] [] (Only (.sl 0 0 L.length L.length 3) [.arr true (items L)]) := by
  refine sB Try.func44 Try.ntmps44 ?_
  repeat' (first
    | refine IOps_nil ?_
    | refine oS ?_
    | refine IOps_s rfl rfl ?_
    | refine oT ?_
    | refine IOps_s0 rfl ?_
    | refine oZ ?_
    | refine oI ?_
    | refine thenI_n ?_
    | refine IWP_seq ?_
    | refine IWP_region ?_
    | refine IWP_ct rfl ?_
    | refine IWP_cf rfl ?_
    | refine IWP_skip ?_
    | refine IWP_ret ?_
    | refine IWP_block ?_
    | refine inB_n ?_
    | refine thenI_r ?_
    | refine thenI_e ?_
    | refine inB_r ?_
    | refine inB_hit ?_
    | refine inB_miss rfl ?_
    | refine IWP_exit ?_
    | refine IWP_scope ?_
    | refine IWP_label ?_
    | refine noG_n ?_
    | refine noG_r ?_
    | refine noG_e ?_
    | refine jmp_n ?_
    | refine jmp_r ?_
    | refine jmp_e ?_
    | refine jmp_g ?_
    | refine thenI_g ?_
    | refine inB_g ?_
    | refine IWP_goto ?_
    | refine Loop_n ?_
    | fail)
  exact pD [0] ⟨rfl, rfl⟩
def placeI (L : List It) (id : Int) : Int := if L.findIdx (fun x => x.id == id) < L.length then (L.findIdx (fun x => x.id == id) : Int) else -1
theorem placeI_hit {L : List It} {id : Int} {i : Nat} (h : i < L.length) (he : (gd L i).id = id) (hn : ∀ j, j < i → (gd L j).id ≠ id) : placeI L id = i := by
  have : L.findIdx (fun x => x.id == id) = i := by
    rw [List.findIdx_eq h]
    refine ⟨by rw [← gd_eq h]; simpa using he, fun j hj => ?_⟩
    have := hn j hj
    rw [gd_eq (by omega)] at this
    simpa using this
  unfold placeI; rw [this, if_pos h]
theorem placeI_miss {L : List It} {id : Int} (hn : ∀ j, j < L.length → (gd L j).id ≠ id) : placeI L id = -1 := by
  have : L.findIdx (fun x => x.id == id) = L.length := by
    rw [List.findIdx_eq_length]
    intro x hx
    obtain ⟨j, hj, rfl⟩ := List.getElem_of_mem hx
    have := hn j hj
    rw [gd_eq hj] at this
    simpa using this
  unfold placeI; rw [this, if_neg (Nat.lt_irrefl _)]
theorem place1_spec (x : It) (id : Int) : Idl.Spec Try.prog 60 [.agg [.sc (.int .i64 x.id), .sc (.int .u64 x.pri), .sc (.int .u64 x.seq)], .ptr 0 0] [.box [.i64 id]] (Only (.sc (.bool (decide (x.id = id)))) [.box [.i64 id]]) := by
  refine sB Try.func60 Try.ntmps60 ?_
  repeat' (first
    | refine IOps_nil ?_
    | refine oS ?_
    | refine IOps_s rfl rfl ?_
    | refine oT ?_
    | refine IOps_s0 rfl ?_
    | refine oZ ?_
    | refine oI ?_
    | refine thenI_n ?_
    | refine IWP_seq ?_
    | refine IWP_region ?_
    | refine IWP_ct rfl ?_
    | refine IWP_cf rfl ?_
    | refine IWP_skip ?_
    | refine IWP_ret ?_
    | refine IWP_block ?_
    | refine inB_n ?_
    | refine thenI_r ?_
    | refine thenI_e ?_
    | refine inB_r ?_
    | refine inB_hit ?_
    | refine inB_miss rfl ?_
    | refine IWP_exit ?_
    | refine IWP_scope ?_
    | refine IWP_label ?_
    | refine noG_n ?_
    | refine noG_r ?_
    | refine noG_e ?_
    | refine jmp_n ?_
    | refine jmp_r ?_
    | refine jmp_e ?_
    | refine jmp_g ?_
    | refine thenI_g ?_
    | refine inB_g ?_
    | refine IWP_goto ?_
    | refine Loop_n ?_
    | fail)
  exact pD [0] ⟨rfl, rfl⟩
theorem index_fz (L : List It) (id : Int) (cap : Nat) (hL : L.length ≤ 1000000000) : Idl.Spec Try.prog 59 [.fz false (items L) L.length, .fn (.func 60) [] [.ptr 0 0]] [.box [.i64 id]] (Only (.i64 (placeI L id)) [.box [.i64 id]]) := by
  refine sB Try.func59 Try.ntmps59 ?_
  repeat' (first
    | refine IOps_nil ?_
    | refine oS ?_
    | refine IOps_s rfl rfl ?_
    | refine oT ?_
    | refine IOps_s0 rfl ?_
    | refine oC (π := [0]) (hs := by first | exact place1_spec _ _ | fail) (hx := ?_)
    | refine oC0 (π := [0]) (hs := by first | exact place1_spec _ _ | fail) (hx := ?_)
    | refine oZ ?_
    | refine oI ?_
    | refine thenI_n ?_
    | refine IWP_seq ?_
    | refine IWP_region ?_
    | refine IWP_ct rfl ?_
    | refine IWP_cf rfl ?_
    | refine IWP_skip ?_
    | refine IWP_ret ?_
    | refine IWP_block ?_
    | refine inB_n ?_
    | refine thenI_r ?_
    | refine thenI_e ?_
    | refine inB_r ?_
    | refine inB_hit ?_
    | refine inB_miss rfl ?_
    | refine IWP_exit ?_
    | refine IWP_scope ?_
    | refine IWP_label ?_
    | refine noG_n ?_
    | refine noG_r ?_
    | refine noG_e ?_
    | refine jmp_n ?_
    | refine jmp_r ?_
    | refine jmp_e ?_
    | refine jmp_g ?_
    | refine thenI_g ?_
    | refine inB_g ?_
    | refine IWP_goto ?_
    | refine Loop_n ?_
    | fail)
  refine IWP_loop (fun i : Nat => ⟨19, [(0, .fz false (items L) L.length), (1, .fn (.func 60) [] [.ptr 0 0]), (6, .fz false (items L) L.length), (7, .i64 L.length), (8, .i64 i)], [.box [.i64 id]]⟩) (fun i => i ≤ L.length ∧ ∀ j, j < i → (gd L j).id ≠ id) (fun i => L.length - i) 0 (lP [0]) ⟨Nat.zero_le _, fun j h => by omega⟩ ?_
  rintro i ⟨hi, hn⟩
  by_cases h : i < L.length
  · by_cases he : (gd L i).id = id
    · rw [placeI_hit h he hn]
      repeat' (first
        | refine IOps_nil ?_
        | refine oS ?_
        | refine IOps_s rfl rfl ?_
        | refine oT ?_
        | refine IOps_s0 rfl ?_
        | refine oC (π := [0]) (hs := by first | exact place1_spec _ _ | fail) (hx := ?_)
        | refine oC0 (π := [0]) (hs := by first | exact place1_spec _ _ | fail) (hx := ?_)
        | refine oZ ?_
        | refine oI ?_
        | refine thenI_n ?_
        | refine IWP_seq ?_
        | refine IWP_region ?_
        | refine IWP_ct rfl ?_
        | refine IWP_cf rfl ?_
        | refine IWP_skip ?_
        | refine IWP_ret ?_
        | refine IWP_block ?_
        | refine inB_n ?_
        | refine thenI_r ?_
        | refine thenI_e ?_
        | refine inB_r ?_
        | refine inB_hit ?_
        | refine inB_miss rfl ?_
        | refine IWP_exit ?_
        | refine IWP_scope ?_
        | refine IWP_label ?_
        | refine noG_n ?_
        | refine noG_r ?_
        | refine noG_e ?_
        | refine jmp_n ?_
        | refine jmp_r ?_
        | refine jmp_e ?_
        | refine jmp_g ?_
        | refine thenI_g ?_
        | refine inB_g ?_
        | refine IWP_goto ?_
        | refine Loop_n ?_
        | fail)
      exact pD [0] ⟨rfl, rfl⟩
    · repeat' (first
        | refine IOps_nil ?_
        | refine oS ?_
        | refine IOps_s rfl rfl ?_
        | refine oT ?_
        | refine IOps_s0 rfl ?_
        | refine oC (π := [0]) (hs := by first | exact place1_spec _ _ | fail) (hx := ?_)
        | refine oC0 (π := [0]) (hs := by first | exact place1_spec _ _ | fail) (hx := ?_)
        | refine oZ ?_
        | refine oI ?_
        | refine thenI_n ?_
        | refine IWP_seq ?_
        | refine IWP_region ?_
        | refine IWP_ct rfl ?_
        | refine IWP_cf rfl ?_
        | refine IWP_skip ?_
        | refine IWP_ret ?_
        | refine IWP_block ?_
        | refine inB_n ?_
        | refine thenI_r ?_
        | refine thenI_e ?_
        | refine inB_r ?_
        | refine inB_hit ?_
        | refine inB_miss rfl ?_
        | refine IWP_exit ?_
        | refine IWP_scope ?_
        | refine IWP_label ?_
        | refine noG_n ?_
        | refine noG_r ?_
        | refine noG_e ?_
        | refine jmp_n ?_
        | refine jmp_r ?_
        | refine jmp_e ?_
        | refine jmp_g ?_
        | refine thenI_g ?_
        | refine inB_g ?_
        | refine IWP_goto ?_
        | refine Loop_n ?_
        | fail)
      exact ⟨i + 1, ⟨h, fun j hj => by
        by_cases e : j = i
        · subst e; exact he
        · exact hn j (by omega)⟩, by omega, lP [0]⟩
  · rw [placeI_miss fun j hj => hn j (by omega)]
    repeat' (first
      | refine IOps_nil ?_
      | refine oS ?_
      | refine IOps_s rfl rfl ?_
      | refine oT ?_
      | refine IOps_s0 rfl ?_
      | refine oC (π := [0]) (hs := by first | exact place1_spec _ _ | fail) (hx := ?_)
      | refine oC0 (π := [0]) (hs := by first | exact place1_spec _ _ | fail) (hx := ?_)
      | refine oZ ?_
      | refine oI ?_
      | refine thenI_n ?_
      | refine IWP_seq ?_
      | refine IWP_region ?_
      | refine IWP_ct rfl ?_
      | refine IWP_cf rfl ?_
      | refine IWP_skip ?_
      | refine IWP_ret ?_
      | refine IWP_block ?_
      | refine inB_n ?_
      | refine thenI_r ?_
      | refine thenI_e ?_
      | refine inB_r ?_
      | refine inB_hit ?_
      | refine inB_miss rfl ?_
      | refine IWP_exit ?_
      | refine IWP_scope ?_
      | refine IWP_label ?_
      | refine noG_n ?_
      | refine noG_r ?_
      | refine noG_e ?_
      | refine jmp_n ?_
      | refine jmp_r ?_
      | refine jmp_e ?_
      | refine jmp_g ?_
      | refine thenI_g ?_
      | refine inB_g ?_
      | refine IWP_goto ?_
      | refine Loop_n ?_
      | fail)
    exact pD [0] ⟨rfl, rfl⟩
theorem place_fz (L : List It) (id : Int) (cap : Nat) (hL : L.length ≤ 1000000000) : Idl.Spec Try.prog 41 [.fz false (items L) L.length, .i64 id] [] (Only (.i64 (placeI L id)) []) := by
  refine sB Try.func41 Try.ntmps41 ?_
  repeat' (first
    | refine IOps_nil ?_
    | refine oS ?_
    | refine IOps_s rfl rfl ?_
    | refine oT ?_
    | refine IOps_s0 rfl ?_
    | refine oC (π := [0]) (hs := by first | exact index_fz _ _ cap hL | fail) (hx := ?_)
    | refine oC0 (π := [0]) (hs := by first | exact index_fz _ _ cap hL | fail) (hx := ?_)
    | refine oZ ?_
    | refine oI ?_
    | refine thenI_n ?_
    | refine IWP_seq ?_
    | refine IWP_region ?_
    | refine IWP_ct rfl ?_
    | refine IWP_cf rfl ?_
    | refine IWP_skip ?_
    | refine IWP_ret ?_
    | refine IWP_block ?_
    | refine inB_n ?_
    | refine thenI_r ?_
    | refine thenI_e ?_
    | refine inB_r ?_
    | refine inB_hit ?_
    | refine inB_miss rfl ?_
    | refine IWP_exit ?_
    | refine IWP_scope ?_
    | refine IWP_label ?_
    | refine noG_n ?_
    | refine noG_r ?_
    | refine noG_e ?_
    | refine jmp_n ?_
    | refine jmp_r ?_
    | refine jmp_e ?_
    | refine jmp_g ?_
    | refine thenI_g ?_
    | refine inB_g ?_
    | refine IWP_goto ?_
    | refine Loop_n ?_
    | fail)
  exact pD [] ⟨rfl, rfl⟩
theorem index_sl (L : List It) (id : Int) (cap : Nat) (hL : L.length ≤ 1000000000) : Idl.Spec Try.prog 59 [.sl 0 0 L.length cap 3, .fn (.func 60) [] [.ptr 1 0]] [.arr false (items L), .box [.i64 id]] (Only (.i64 (placeI L id)) [.arr false (items L), .box [.i64 id]]) := by
  refine sB Try.func59 Try.ntmps59 ?_
  repeat' (first
    | refine IOps_nil ?_
    | refine oS ?_
    | refine IOps_s rfl rfl ?_
    | refine oT ?_
    | refine IOps_s0 rfl ?_
    | refine oC (π := [1]) (hs := by first | exact place1_spec _ _ | fail) (hx := ?_)
    | refine oC0 (π := [1]) (hs := by first | exact place1_spec _ _ | fail) (hx := ?_)
    | refine oZ ?_
    | refine oI ?_
    | refine thenI_n ?_
    | refine IWP_seq ?_
    | refine IWP_region ?_
    | refine IWP_ct rfl ?_
    | refine IWP_cf rfl ?_
    | refine IWP_skip ?_
    | refine IWP_ret ?_
    | refine IWP_block ?_
    | refine inB_n ?_
    | refine thenI_r ?_
    | refine thenI_e ?_
    | refine inB_r ?_
    | refine inB_hit ?_
    | refine inB_miss rfl ?_
    | refine IWP_exit ?_
    | refine IWP_scope ?_
    | refine IWP_label ?_
    | refine noG_n ?_
    | refine noG_r ?_
    | refine noG_e ?_
    | refine jmp_n ?_
    | refine jmp_r ?_
    | refine jmp_e ?_
    | refine jmp_g ?_
    | refine thenI_g ?_
    | refine inB_g ?_
    | refine IWP_goto ?_
    | refine Loop_n ?_
    | fail)
  refine IWP_loop (fun i : Nat => ⟨19, [(0, .sl 0 0 L.length cap 3), (1, .fn (.func 60) [] [.ptr 1 0]), (6, .sl 0 0 L.length cap 3), (7, .i64 L.length), (8, .i64 i)], [.arr false (items L), .box [.i64 id]]⟩) (fun i => i ≤ L.length ∧ ∀ j, j < i → (gd L j).id ≠ id) (fun i => L.length - i) 0 (lP [0, 1]) ⟨Nat.zero_le _, fun j h => by omega⟩ ?_
  rintro i ⟨hi, hn⟩
  by_cases h : i < L.length
  · by_cases he : (gd L i).id = id
    · rw [placeI_hit h he hn]
      repeat' (first
        | refine IOps_nil ?_
        | refine oS ?_
        | refine IOps_s rfl rfl ?_
        | refine oT ?_
        | refine IOps_s0 rfl ?_
        | refine oC (π := [1]) (hs := by first | exact place1_spec _ _ | fail) (hx := ?_)
        | refine oC0 (π := [1]) (hs := by first | exact place1_spec _ _ | fail) (hx := ?_)
        | refine oZ ?_
        | refine oI ?_
        | refine thenI_n ?_
        | refine IWP_seq ?_
        | refine IWP_region ?_
        | refine IWP_ct rfl ?_
        | refine IWP_cf rfl ?_
        | refine IWP_skip ?_
        | refine IWP_ret ?_
        | refine IWP_block ?_
        | refine inB_n ?_
        | refine thenI_r ?_
        | refine thenI_e ?_
        | refine inB_r ?_
        | refine inB_hit ?_
        | refine inB_miss rfl ?_
        | refine IWP_exit ?_
        | refine IWP_scope ?_
        | refine IWP_label ?_
        | refine noG_n ?_
        | refine noG_r ?_
        | refine noG_e ?_
        | refine jmp_n ?_
        | refine jmp_r ?_
        | refine jmp_e ?_
        | refine jmp_g ?_
        | refine thenI_g ?_
        | refine inB_g ?_
        | refine IWP_goto ?_
        | refine Loop_n ?_
        | fail)
      exact pD [0, 1] ⟨rfl, rfl⟩
    · repeat' (first
        | refine IOps_nil ?_
        | refine oS ?_
        | refine IOps_s rfl rfl ?_
        | refine oT ?_
        | refine IOps_s0 rfl ?_
        | refine oC (π := [1]) (hs := by first | exact place1_spec _ _ | fail) (hx := ?_)
        | refine oC0 (π := [1]) (hs := by first | exact place1_spec _ _ | fail) (hx := ?_)
        | refine oZ ?_
        | refine oI ?_
        | refine thenI_n ?_
        | refine IWP_seq ?_
        | refine IWP_region ?_
        | refine IWP_ct rfl ?_
        | refine IWP_cf rfl ?_
        | refine IWP_skip ?_
        | refine IWP_ret ?_
        | refine IWP_block ?_
        | refine inB_n ?_
        | refine thenI_r ?_
        | refine thenI_e ?_
        | refine inB_r ?_
        | refine inB_hit ?_
        | refine inB_miss rfl ?_
        | refine IWP_exit ?_
        | refine IWP_scope ?_
        | refine IWP_label ?_
        | refine noG_n ?_
        | refine noG_r ?_
        | refine noG_e ?_
        | refine jmp_n ?_
        | refine jmp_r ?_
        | refine jmp_e ?_
        | refine jmp_g ?_
        | refine thenI_g ?_
        | refine inB_g ?_
        | refine IWP_goto ?_
        | refine Loop_n ?_
        | fail)
      exact ⟨i + 1, ⟨h, fun j hj => by
        by_cases e : j = i
        · subst e; exact he
        · exact hn j (by omega)⟩, by omega, lP [0, 1]⟩
  · rw [placeI_miss fun j hj => hn j (by omega)]
    repeat' (first
      | refine IOps_nil ?_
      | refine oS ?_
      | refine IOps_s rfl rfl ?_
      | refine oT ?_
      | refine IOps_s0 rfl ?_
      | refine oC (π := [1]) (hs := by first | exact place1_spec _ _ | fail) (hx := ?_)
      | refine oC0 (π := [1]) (hs := by first | exact place1_spec _ _ | fail) (hx := ?_)
      | refine oZ ?_
      | refine oI ?_
      | refine thenI_n ?_
      | refine IWP_seq ?_
      | refine IWP_region ?_
      | refine IWP_ct rfl ?_
      | refine IWP_cf rfl ?_
      | refine IWP_skip ?_
      | refine IWP_ret ?_
      | refine IWP_block ?_
      | refine inB_n ?_
      | refine thenI_r ?_
      | refine thenI_e ?_
      | refine inB_r ?_
      | refine inB_hit ?_
      | refine inB_miss rfl ?_
      | refine IWP_exit ?_
      | refine IWP_scope ?_
      | refine IWP_label ?_
      | refine noG_n ?_
      | refine noG_r ?_
      | refine noG_e ?_
      | refine jmp_n ?_
      | refine jmp_r ?_
      | refine jmp_e ?_
      | refine jmp_g ?_
      | refine thenI_g ?_
      | refine inB_g ?_
      | refine IWP_goto ?_
      | refine Loop_n ?_
      | fail)
    exact pD [0, 1] ⟨rfl, rfl⟩
theorem place_sl (L : List It) (id : Int) (cap : Nat) (hL : L.length ≤ 1000000000) : Idl.Spec Try.prog 41 [.sl 0 0 L.length cap 3, .i64 id] [.arr false (items L)] (Only (.i64 (placeI L id)) [.arr false (items L)]) := by
  refine sB Try.func41 Try.ntmps41 ?_
  repeat' (first
    | refine IOps_nil ?_
    | refine oS ?_
    | refine IOps_s rfl rfl ?_
    | refine oT ?_
    | refine IOps_s0 rfl ?_
    | refine oC (π := [0, 1]) (hs := by first | exact index_sl _ _ cap hL | fail) (hx := ?_)
    | refine oC0 (π := [0, 1]) (hs := by first | exact index_sl _ _ cap hL | fail) (hx := ?_)
    | refine oZ ?_
    | refine oI ?_
    | refine thenI_n ?_
    | refine IWP_seq ?_
    | refine IWP_region ?_
    | refine IWP_ct rfl ?_
    | refine IWP_cf rfl ?_
    | refine IWP_skip ?_
    | refine IWP_ret ?_
    | refine IWP_block ?_
    | refine inB_n ?_
    | refine thenI_r ?_
    | refine thenI_e ?_
    | refine inB_r ?_
    | refine inB_hit ?_
    | refine inB_miss rfl ?_
    | refine IWP_exit ?_
    | refine IWP_scope ?_
    | refine IWP_label ?_
    | refine noG_n ?_
    | refine noG_r ?_
    | refine noG_e ?_
    | refine jmp_n ?_
    | refine jmp_r ?_
    | refine jmp_e ?_
    | refine jmp_g ?_
    | refine thenI_g ?_
    | refine inB_g ?_
    | refine IWP_goto ?_
    | refine Loop_n ?_
    | fail)
  exact pD [0] ⟨rfl, rfl⟩
attribute [local go_sem] splice
theorem seen_step {L : List It} {S : List Bool} {i : Nat} (hS : S.length = 64) (h1 : 0 ≤ (gd L i).id) (h2 : (gd L i).id < 64)
    (hseen : ∀ v : Nat, v < 64 → (S.getD v false = true ↔ ∃ k, k < i ∧ (gd L k).id = v)) : ∀ v : Nat, v < 64 → ((S.set (gd L i).id.toNat true).getD v false = true ↔ ∃ k, k < i + 1 ∧ (gd L k).id = v) := fun v hv => by
  have hu : (gd L i).id.toNat < S.length := by omega
  rw [List.getD_eq_getElem?_getD, List.getElem?_set]
  by_cases e : (gd L i).id.toNat = v
  · rw [if_pos e, if_pos hu]
    simp only [Option.getD_some, true_iff]
    exact ⟨i, by omega, by omega⟩
  · rw [if_neg e, ← List.getD_eq_getElem?_getD, hseen v hv]
    constructor
    · rintro ⟨k, k1, k2⟩; exact ⟨k, by omega, k2⟩
    · rintro ⟨k, k1, k2⟩
      refine ⟨k, ?_, k2⟩
      rcases Nat.lt_succ_iff_lt_or_eq.1 k1 with h | rfl
      · exact h
      · exact absurd (by omega) e
theorem check_spec (L : List It) (hL : L.length ≤ 1000000000) : Idl.Spec Try.prog 19 [.fz false (items L) L.length] [] (Only (.sc (.bool (chk L))) []) := by
  by_cases h64 : L.length ≤ 64
  · refine sB Try.func19 Try.ntmps19 ?_
    repeat' (first
      | refine IOps_nil ?_
      | refine oS ?_
      | refine IOps_s rfl rfl ?_
      | refine oT ?_
      | refine IOps_s0 rfl ?_
      | refine oZ ?_
      | refine oI ?_
      | refine thenI_n ?_
      | refine IWP_seq ?_
      | refine IWP_region ?_
      | refine IWP_ct rfl ?_
      | refine IWP_cf rfl ?_
      | refine IWP_skip ?_
      | refine IWP_ret ?_
      | refine IWP_block ?_
      | refine inB_n ?_
      | refine thenI_r ?_
      | refine thenI_e ?_
      | refine inB_r ?_
      | refine inB_hit ?_
      | refine inB_miss rfl ?_
      | refine IWP_exit ?_
      | refine IWP_scope ?_
      | refine IWP_label ?_
      | refine noG_n ?_
      | refine noG_r ?_
      | refine noG_e ?_
      | refine jmp_n ?_
      | refine jmp_r ?_
      | refine jmp_e ?_
      | refine jmp_g ?_
      | refine thenI_g ?_
      | refine inB_g ?_
      | refine IWP_goto ?_
      | refine Loop_n ?_
      | refine oD (id := 10) W19_10 [] O19_10 [_, _, _, _, _, _, _, _, _, _, _] [_] rfl (by repeat' (first | exact trivial | refine And.intro ?_ ?_ | exact bS | exact bX | exact bZ | exact bI | fail)) ?_
      | fail)
    refine IWP_loop (fun x : List Bool × Nat => ⟨41, [(3, .ptr 0 0), (9, .fz false (items L) L.length), (10, .i64 L.length), (11, .i64 x.2), (0, .fz false (items L) L.length), (2, .sc (.bool false))], [.box (bools x.1)]⟩)
      (fun x => x.1.length = 64 ∧ x.2 ≤ L.length ∧ (∀ i, i < x.2 → okAt L i) ∧ ∀ v : Nat, v < 64 → (x.1.getD v false = true ↔ ∃ k, k < x.2 ∧ (gd L k).id = v)) (fun x => L.length - x.2) (List.replicate 64 false, 0) (lP [0]) ⟨by simp, by simp, fun i h => by simp at h, fun v h => by simp only [List.getD_eq_getElem?_getD, List.getElem?_replicate, h, if_true]; simp⟩ ?_
    rintro ⟨S, i⟩ ⟨hS, hi, hok, hseen⟩
    simp only at hS hi hok hseen ⊢
    by_cases hi2 : i < L.length
    · by_cases hn : 0 ≤ (gd L i).id ∧ (gd L i).id < 64
      · obtain ⟨hn1, hn2⟩ := hn
        have hm1 : 0 ≤ (L.getD i default).id := hn1
        have hm2 : (L.getD i default).id < 64 := hn2
        have hsv := hseen (gd L i).id.toNat (by omega)
        have hnm := named_spec (gd L i).id
        rw [decide_eq_true ⟨hn1, hn2⟩] at hnm
        repeat' (first
          | refine IOps_nil ?_
          | refine oS ?_
          | refine IOps_s rfl rfl ?_
          | refine oT ?_
          | refine IOps_s0 rfl ?_
          | refine oC (π := []) (hs := by first | exact hnm | fail) (hx := ?_)
          | refine oC (π := []) (hs := by first | exact parent_spec _ (by omega) | fail) (hx := ?_)
          | refine oC (π := []) (hs := by first | exact less_spec _ _ | fail) (hx := ?_)
          | refine oZ ?_
          | refine oI ?_
          | refine thenI_n ?_
          | refine IWP_seq ?_
          | refine IWP_region ?_
          | refine IWP_ct rfl ?_
          | refine IWP_cf rfl ?_
          | refine IWP_skip ?_
          | refine IWP_ret ?_
          | refine IWP_block ?_
          | refine inB_n ?_
          | refine thenI_r ?_
          | refine thenI_e ?_
          | refine inB_r ?_
          | refine inB_hit ?_
          | refine inB_miss rfl ?_
          | refine IWP_exit ?_
          | refine IWP_scope ?_
          | refine IWP_label ?_
          | refine noG_n ?_
          | refine noG_r ?_
          | refine noG_e ?_
          | refine jmp_n ?_
          | refine jmp_r ?_
          | refine jmp_e ?_
          | refine jmp_g ?_
          | refine thenI_g ?_
          | refine inB_g ?_
          | refine IWP_goto ?_
          | refine Loop_n ?_
          | refine oD (id := 10) W19_10 [] O19_10 [_, _, _, _, _, _, _, _, _, _, _] [_] rfl (by repeat' (first | exact trivial | refine And.intro ?_ ?_ | exact bS | exact bX | exact bZ | exact bI | exact bC (π := []) (hs := by first | exact hnm | fail) | exact bC (π := []) (hs := by first | exact parent_spec _ (by omega) | fail) | exact bC (π := []) (hs := by first | exact less_spec _ _ | fail) | fail)) ?_
          | fail)
        rcases Bool.eq_false_or_eq_true (S.getD (L.getD i default).id.toNat false) with hs | hs <;> rw [hs]
        · obtain ⟨q, q1, q2⟩ := hsv.1 hs
          have e : chk L = false := decide_eq_false fun h => (h.2 i hi2).2.1 q q1 (by omega)
          rw [e]
          repeat' (first
            | refine IOps_nil ?_
            | refine oS ?_
            | refine IOps_s rfl rfl ?_
            | refine oT ?_
            | refine IOps_s0 rfl ?_
            | refine oC (π := []) (hs := by first | exact hnm | fail) (hx := ?_)
            | refine oZ ?_
            | refine oI ?_
            | refine thenI_n ?_
            | refine IWP_seq ?_
            | refine IWP_region ?_
            | refine IWP_ct rfl ?_
            | refine IWP_cf rfl ?_
            | refine IWP_skip ?_
            | refine IWP_ret ?_
            | refine IWP_block ?_
            | refine inB_n ?_
            | refine thenI_r ?_
            | refine thenI_e ?_
            | refine inB_r ?_
            | refine inB_hit ?_
            | refine inB_miss rfl ?_
            | refine IWP_exit ?_
            | refine IWP_scope ?_
            | refine IWP_label ?_
            | refine noG_n ?_
            | refine noG_r ?_
            | refine noG_e ?_
            | refine jmp_n ?_
            | refine jmp_r ?_
            | refine jmp_e ?_
            | refine jmp_g ?_
            | refine thenI_g ?_
            | refine inB_g ?_
            | refine IWP_goto ?_
            | refine Loop_n ?_
            | refine oD (id := 10) W19_10 [] O19_10 [_, _, _, _, _, _, _, _, _, _, _] [_] rfl (by repeat' (first | exact trivial | refine And.intro ?_ ?_ | exact bS | exact bX | exact bZ | exact bI | exact bC (π := []) (hs := by first | exact hnm | fail) | fail)) ?_
            | fail)
          exact pD [] ⟨rfl, rfl⟩
        have hns : ∀ q, q < i → (gd L q).id ≠ (gd L i).id := fun q h1 h2 => by
          exact Bool.noConfusion ((hsv.2 ⟨q, h1, by omega⟩).symm.trans hs)
        by_cases h0 : 0 < i
        · cases hs2 : lessI (gd L i) (gd L ((i - 1) / 4))
          · have hl := less_spec (gd L i) (gd L ((i - 1) / 4))
            rw [hs2] at hl
            have hnew : okAt L i := ⟨⟨hn1, hn2⟩, hns, fun h => by rw [hs2] at h; cases h.2⟩
            repeat' (first
              | refine IOps_nil ?_
              | refine oS ?_
              | refine IOps_s rfl rfl ?_
              | refine oT ?_
              | refine IOps_s0 rfl ?_
              | refine oC (π := []) (hs := by first | exact hnm | fail) (hx := ?_)
              | refine oC (π := []) (hs := by first | exact parent_spec _ (by omega) | fail) (hx := ?_)
              | refine oC (π := []) (hs := by first | exact hl | fail) (hx := ?_)
              | refine oZ ?_
              | refine oI ?_
              | refine thenI_n ?_
              | refine IWP_seq ?_
              | refine IWP_region ?_
              | refine IWP_ct rfl ?_
              | refine IWP_cf rfl ?_
              | refine IWP_skip ?_
              | refine IWP_ret ?_
              | refine IWP_block ?_
              | refine inB_n ?_
              | refine thenI_r ?_
              | refine thenI_e ?_
              | refine inB_r ?_
              | refine inB_hit ?_
              | refine inB_miss rfl ?_
              | refine IWP_exit ?_
              | refine IWP_scope ?_
              | refine IWP_label ?_
              | refine noG_n ?_
              | refine noG_r ?_
              | refine noG_e ?_
              | refine jmp_n ?_
              | refine jmp_r ?_
              | refine jmp_e ?_
              | refine jmp_g ?_
              | refine thenI_g ?_
              | refine inB_g ?_
              | refine IWP_goto ?_
              | refine Loop_n ?_
              | refine oD (id := 10) W19_10 [] O19_10 [_, _, _, _, _, _, _, _, _, _, _] [_] rfl (by repeat' (first | exact trivial | refine And.intro ?_ ?_ | exact bS | exact bX | exact bZ | exact bI | exact bC (π := []) (hs := by first | exact hnm | fail) | exact bC (π := []) (hs := by first | exact parent_spec _ (by omega) | fail) | exact bC (π := []) (hs := by first | exact hl | fail) | fail)) ?_
              | fail)
            exact ⟨(S.set (L.getD i default).id.toNat true, i + 1), ⟨by simp only [List.length_set]; exact hS, hi2, fun j hj => by
              rcases Nat.lt_succ_iff_lt_or_eq.1 hj with h | rfl
              · exact hok j h
              · exact hnew, seen_step hS hn1 hn2 hseen⟩, by simp only; omega, lP [0] (h3 := by show [HO.box (IV.renL _ (bools _))] = _; rw [cl_ren])⟩
          · have hl := less_spec (gd L i) (gd L ((i - 1) / 4))
            rw [hs2] at hl
            have e : chk L = false := decide_eq_false fun h => (h.2 i hi2).2.2 ⟨h0, hs2⟩
            rw [e]
            repeat' (first
              | refine IOps_nil ?_
              | refine oS ?_
              | refine IOps_s rfl rfl ?_
              | refine oT ?_
              | refine IOps_s0 rfl ?_
              | refine oC (π := []) (hs := by first | exact hnm | fail) (hx := ?_)
              | refine oC (π := []) (hs := by first | exact parent_spec _ (by omega) | fail) (hx := ?_)
              | refine oC (π := []) (hs := by first | exact hl | fail) (hx := ?_)
              | refine oZ ?_
              | refine oI ?_
              | refine thenI_n ?_
              | refine IWP_seq ?_
              | refine IWP_region ?_
              | refine IWP_ct rfl ?_
              | refine IWP_cf rfl ?_
              | refine IWP_skip ?_
              | refine IWP_ret ?_
              | refine IWP_block ?_
              | refine inB_n ?_
              | refine thenI_r ?_
              | refine thenI_e ?_
              | refine inB_r ?_
              | refine inB_hit ?_
              | refine inB_miss rfl ?_
              | refine IWP_exit ?_
              | refine IWP_scope ?_
              | refine IWP_label ?_
              | refine noG_n ?_
              | refine noG_r ?_
              | refine noG_e ?_
              | refine jmp_n ?_
              | refine jmp_r ?_
              | refine jmp_e ?_
              | refine jmp_g ?_
              | refine thenI_g ?_
              | refine inB_g ?_
              | refine IWP_goto ?_
              | refine Loop_n ?_
              | refine oD (id := 10) W19_10 [] O19_10 [_, _, _, _, _, _, _, _, _, _, _] [_] rfl (by repeat' (first | exact trivial | refine And.intro ?_ ?_ | exact bS | exact bX | exact bZ | exact bI | exact bC (π := []) (hs := by first | exact hnm | fail) | exact bC (π := []) (hs := by first | exact parent_spec _ (by omega) | fail) | exact bC (π := []) (hs := by first | exact hl | fail) | fail)) ?_
              | fail)
            exact pD [] ⟨rfl, rfl⟩
        · have hnew : okAt L i := ⟨⟨hn1, hn2⟩, hns, fun h => absurd h.1 h0⟩
          repeat' (first
            | refine IOps_nil ?_
            | refine oS ?_
            | refine IOps_s rfl rfl ?_
            | refine oT ?_
            | refine IOps_s0 rfl ?_
            | refine oC (π := []) (hs := by first | exact hnm | fail) (hx := ?_)
            | refine oC (π := []) (hs := by first | exact parent_spec _ (by omega) | fail) (hx := ?_)
            | refine oZ ?_
            | refine oI ?_
            | refine thenI_n ?_
            | refine IWP_seq ?_
            | refine IWP_region ?_
            | refine IWP_ct rfl ?_
            | refine IWP_cf rfl ?_
            | refine IWP_skip ?_
            | refine IWP_ret ?_
            | refine IWP_block ?_
            | refine inB_n ?_
            | refine thenI_r ?_
            | refine thenI_e ?_
            | refine inB_r ?_
            | refine inB_hit ?_
            | refine inB_miss rfl ?_
            | refine IWP_exit ?_
            | refine IWP_scope ?_
            | refine IWP_label ?_
            | refine noG_n ?_
            | refine noG_r ?_
            | refine noG_e ?_
            | refine jmp_n ?_
            | refine jmp_r ?_
            | refine jmp_e ?_
            | refine jmp_g ?_
            | refine thenI_g ?_
            | refine inB_g ?_
            | refine IWP_goto ?_
            | refine Loop_n ?_
            | refine oD (id := 10) W19_10 [] O19_10 [_, _, _, _, _, _, _, _, _, _, _] [_] rfl (by repeat' (first | exact trivial | refine And.intro ?_ ?_ | exact bS | exact bX | exact bZ | exact bI | exact bC (π := []) (hs := by first | exact hnm | fail) | exact bC (π := []) (hs := by first | exact parent_spec _ (by omega) | fail) | fail)) ?_
            | fail)
          exact ⟨(S.set (L.getD i default).id.toNat true, i + 1), ⟨by simp only [List.length_set]; exact hS, hi2, fun j hj => by
            rcases Nat.lt_succ_iff_lt_or_eq.1 hj with h | rfl
            · exact hok j h
            · exact hnew, seen_step hS hn1 hn2 hseen⟩, by simp only; omega, lP [0] (h3 := by show [HO.box (IV.renL _ (bools _))] = _; rw [cl_ren])⟩
      · have e : chk L = false := decide_eq_false fun h => hn (h.2 i hi2).1
        have hnm := named_spec (gd L i).id
        rw [decide_eq_false hn] at hnm
        rw [e]
        repeat' (first
          | refine IOps_nil ?_
          | refine oS ?_
          | refine IOps_s rfl rfl ?_
          | refine oT ?_
          | refine IOps_s0 rfl ?_
          | refine oC (π := []) (hs := by first | exact hnm | fail) (hx := ?_)
          | refine oZ ?_
          | refine oI ?_
          | refine thenI_n ?_
          | refine IWP_seq ?_
          | refine IWP_region ?_
          | refine IWP_ct rfl ?_
          | refine IWP_cf rfl ?_
          | refine IWP_skip ?_
          | refine IWP_ret ?_
          | refine IWP_block ?_
          | refine inB_n ?_
          | refine thenI_r ?_
          | refine thenI_e ?_
          | refine inB_r ?_
          | refine inB_hit ?_
          | refine inB_miss rfl ?_
          | refine IWP_exit ?_
          | refine IWP_scope ?_
          | refine IWP_label ?_
          | refine noG_n ?_
          | refine noG_r ?_
          | refine noG_e ?_
          | refine jmp_n ?_
          | refine jmp_r ?_
          | refine jmp_e ?_
          | refine jmp_g ?_
          | refine thenI_g ?_
          | refine inB_g ?_
          | refine IWP_goto ?_
          | refine Loop_n ?_
          | refine oD (id := 10) W19_10 [] O19_10 [_, _, _, _, _, _, _, _, _, _, _] [_] rfl (by repeat' (first | exact trivial | refine And.intro ?_ ?_ | exact bS | exact bX | exact bZ | exact bI | exact bC (π := []) (hs := by first | exact hnm | fail) | fail)) ?_
          | fail)
        exact pD [] ⟨rfl, rfl⟩
    · have e : chk L = true := decide_eq_true ⟨h64, fun j hj => hok j (by omega)⟩
      rw [e]
      repeat' (first
        | refine IOps_nil ?_
        | refine oS ?_
        | refine IOps_s rfl rfl ?_
        | refine oT ?_
        | refine IOps_s0 rfl ?_
        | refine oZ ?_
        | refine oI ?_
        | refine thenI_n ?_
        | refine IWP_seq ?_
        | refine IWP_region ?_
        | refine IWP_ct rfl ?_
        | refine IWP_cf rfl ?_
        | refine IWP_skip ?_
        | refine IWP_ret ?_
        | refine IWP_block ?_
        | refine inB_n ?_
        | refine thenI_r ?_
        | refine thenI_e ?_
        | refine inB_r ?_
        | refine inB_hit ?_
        | refine inB_miss rfl ?_
        | refine IWP_exit ?_
        | refine IWP_scope ?_
        | refine IWP_label ?_
        | refine noG_n ?_
        | refine noG_r ?_
        | refine noG_e ?_
        | refine jmp_n ?_
        | refine jmp_r ?_
        | refine jmp_e ?_
        | refine jmp_g ?_
        | refine thenI_g ?_
        | refine inB_g ?_
        | refine IWP_goto ?_
        | refine Loop_n ?_
        | refine oD (id := 10) W19_10 [] O19_10 [_, _, _, _, _, _, _, _, _, _, _] [_] rfl (by repeat' (first | exact trivial | refine And.intro ?_ ?_ | exact bS | exact bX | exact bZ | exact bI | fail)) ?_
        | fail)
      exact pD [] ⟨rfl, rfl⟩
  · have e : chk L = false := decide_eq_false fun h => h64 h.1
    rw [e]
    refine sB Try.func19 Try.ntmps19 ?_
    repeat' (first
      | refine IOps_nil ?_
      | refine oS ?_
      | refine IOps_s rfl rfl ?_
      | refine oT ?_
      | refine IOps_s0 rfl ?_
      | refine oZ ?_
      | refine oI ?_
      | refine thenI_n ?_
      | refine IWP_seq ?_
      | refine IWP_region ?_
      | refine IWP_ct rfl ?_
      | refine IWP_cf rfl ?_
      | refine IWP_skip ?_
      | refine IWP_ret ?_
      | refine IWP_block ?_
      | refine inB_n ?_
      | refine thenI_r ?_
      | refine thenI_e ?_
      | refine inB_r ?_
      | refine inB_hit ?_
      | refine inB_miss rfl ?_
      | refine IWP_exit ?_
      | refine IWP_scope ?_
      | refine IWP_label ?_
      | refine noG_n ?_
      | refine noG_r ?_
      | refine noG_e ?_
      | refine jmp_n ?_
      | refine jmp_r ?_
      | refine jmp_e ?_
      | refine jmp_g ?_
      | refine thenI_g ?_
      | refine inB_g ?_
      | refine IWP_goto ?_
      | refine Loop_n ?_
      | refine oD (id := 10) W19_10 [] O19_10 [_, _, _, _, _, _, _, _, _, _, _] [_] rfl (by repeat' (first | exact trivial | refine And.intro ?_ ?_ | exact bS | exact bX | exact bZ | exact bI | fail)) ?_
      | fail)
    exact pD [] ⟨rfl, rfl⟩
theorem rcheck_spec (L : List It) (hL : L.length ≤ 1000000000) : Idl.Spec Try.prog 20 [.fz false (items L) L.length] [] (Only (.sc (.bool (chk L))) []) := by
  refine sB Try.func20 Try.ntmps20 ?_
  repeat' (first
    | refine IOps_nil ?_
    | refine oS ?_
    | refine IOps_s rfl rfl ?_
    | refine oT ?_
    | refine IOps_s0 rfl ?_
    | refine oZ ?_
    | refine oI ?_
    | refine thenI_n ?_
    | refine IWP_seq ?_
    | refine IWP_region ?_
    | refine IWP_ct rfl ?_
    | refine IWP_cf rfl ?_
    | refine IWP_skip ?_
    | refine IWP_ret ?_
    | refine IWP_block ?_
    | refine inB_n ?_
    | refine thenI_r ?_
    | refine thenI_e ?_
    | refine inB_r ?_
    | refine inB_hit ?_
    | refine inB_miss rfl ?_
    | refine IWP_exit ?_
    | refine IWP_scope ?_
    | refine IWP_label ?_
    | refine noG_n ?_
    | refine noG_r ?_
    | refine noG_e ?_
    | refine jmp_n ?_
    | refine jmp_r ?_
    | refine jmp_e ?_
    | refine jmp_g ?_
    | refine thenI_g ?_
    | refine inB_g ?_
    | refine IWP_goto ?_
    | refine Loop_n ?_
    | refine oD (id := 9) W20_9 [] O20_9 [_, _, _, _, _, _, _, _, _, _, _] [_] rfl (by repeat' (first | exact trivial | refine And.intro ?_ ?_ | exact bS | exact bX | exact bZ | exact bI | fail)) ?_
    | refine oD (id := 11) W20_11 [] O20_11 [_, _, _, _, _, _, _, _, _, _, _, _, _, _, _, _, _] [_] rfl (by repeat' (first | exact trivial | refine And.intro ?_ ?_ | exact bS | exact bX | exact bZ | exact bI | fail)) ?_
    | fail)
  refine IWP_loop (fun i : Nat => ⟨62, [(0, .fz false (items L) L.length), (3, .i64 i), (2, .sc (.bool false))], []⟩) (fun i => i ≤ L.length ∧ ∀ j, j < i → okAt L j) (fun i => L.length - i) 0 (lP []) ⟨Nat.zero_le _, fun j h => by omega⟩ ?_
  rintro i ⟨hi, hok⟩
  by_cases hi2 : i < L.length
  · by_cases hn : 0 ≤ (L.getD i default).id
    · by_cases hn2 : (L.getD i default).id ≤ 63
      · repeat' (first
          | refine IOps_nil ?_
          | refine oS ?_
          | refine IOps_s rfl rfl ?_
          | refine oT ?_
          | refine IOps_s0 rfl ?_
          | refine oZ ?_
          | refine oI ?_
          | refine thenI_n ?_
          | refine IWP_seq ?_
          | refine IWP_region ?_
          | refine IWP_ct rfl ?_
          | refine IWP_cf rfl ?_
          | refine IWP_skip ?_
          | refine IWP_ret ?_
          | refine IWP_block ?_
          | refine inB_n ?_
          | refine thenI_r ?_
          | refine thenI_e ?_
          | refine inB_r ?_
          | refine inB_hit ?_
          | refine inB_miss rfl ?_
          | refine IWP_exit ?_
          | refine IWP_scope ?_
          | refine IWP_label ?_
          | refine noG_n ?_
          | refine noG_r ?_
          | refine noG_e ?_
          | refine jmp_n ?_
          | refine jmp_r ?_
          | refine jmp_e ?_
          | refine jmp_g ?_
          | refine thenI_g ?_
          | refine inB_g ?_
          | refine IWP_goto ?_
          | refine Loop_n ?_
          | refine oD (id := 9) W20_9 [] O20_9 [_, _, _, _, _, _, _, _, _, _, _] [_] rfl (by repeat' (first | exact trivial | refine And.intro ?_ ?_ | exact bS | exact bX | exact bZ | exact bI | fail)) ?_
          | refine oD (id := 11) W20_11 [] O20_11 [_, _, _, _, _, _, _, _, _, _, _, _, _, _, _, _, _] [_] rfl (by repeat' (first | exact trivial | refine And.intro ?_ ?_ | exact bS | exact bX | exact bZ | exact bI | fail)) ?_
          | fail)
        refine IWP_loop (fun k : Nat => ⟨62, [(0, .fz false (items L) L.length), (3, .i64 i), (4, .i64 k), (2, .sc (.bool false))], []⟩) (fun k => k ≤ i ∧ ∀ q, q < k → (gd L q).id ≠ (gd L i).id) (fun k => i - k) 0 (lP []) ⟨Nat.zero_le _, fun j h => by omega⟩ ?_
        rintro k ⟨hk, hns⟩
        by_cases hk2 : k < i
        · by_cases hs : (L.getD k default).id = (L.getD i default).id
          · have e : chk L = false := decide_eq_false fun h => (h.2 i hi2).2.1 k hk2 hs
            rw [e]
            repeat' (first
              | refine IOps_nil ?_
              | refine oS ?_
              | refine IOps_s rfl rfl ?_
              | refine oT ?_
              | refine IOps_s0 rfl ?_
              | refine oZ ?_
              | refine oI ?_
              | refine thenI_n ?_
              | refine IWP_seq ?_
              | refine IWP_region ?_
              | refine IWP_ct rfl ?_
              | refine IWP_cf rfl ?_
              | refine IWP_skip ?_
              | refine IWP_ret ?_
              | refine IWP_block ?_
              | refine inB_n ?_
              | refine thenI_r ?_
              | refine thenI_e ?_
              | refine inB_r ?_
              | refine inB_hit ?_
              | refine inB_miss rfl ?_
              | refine IWP_exit ?_
              | refine IWP_scope ?_
              | refine IWP_label ?_
              | refine noG_n ?_
              | refine noG_r ?_
              | refine noG_e ?_
              | refine jmp_n ?_
              | refine jmp_r ?_
              | refine jmp_e ?_
              | refine jmp_g ?_
              | refine thenI_g ?_
              | refine inB_g ?_
              | refine IWP_goto ?_
              | refine Loop_n ?_
              | refine oD (id := 9) W20_9 [] O20_9 [_, _, _, _, _, _, _, _, _, _, _] [_] rfl (by repeat' (first | exact trivial | refine And.intro ?_ ?_ | exact bS | exact bX | exact bZ | exact bI | fail)) ?_
              | refine oD (id := 11) W20_11 [] O20_11 [_, _, _, _, _, _, _, _, _, _, _, _, _, _, _, _, _] [_] rfl (by repeat' (first | exact trivial | refine And.intro ?_ ?_ | exact bS | exact bX | exact bZ | exact bI | fail)) ?_
              | fail)
            exact pD [] ⟨rfl, rfl⟩
          · repeat' (first
              | refine IOps_nil ?_
              | refine oS ?_
              | refine IOps_s rfl rfl ?_
              | refine oT ?_
              | refine IOps_s0 rfl ?_
              | refine oZ ?_
              | refine oI ?_
              | refine thenI_n ?_
              | refine IWP_seq ?_
              | refine IWP_region ?_
              | refine IWP_ct rfl ?_
              | refine IWP_cf rfl ?_
              | refine IWP_skip ?_
              | refine IWP_ret ?_
              | refine IWP_block ?_
              | refine inB_n ?_
              | refine thenI_r ?_
              | refine thenI_e ?_
              | refine inB_r ?_
              | refine inB_hit ?_
              | refine inB_miss rfl ?_
              | refine IWP_exit ?_
              | refine IWP_scope ?_
              | refine IWP_label ?_
              | refine noG_n ?_
              | refine noG_r ?_
              | refine noG_e ?_
              | refine jmp_n ?_
              | refine jmp_r ?_
              | refine jmp_e ?_
              | refine jmp_g ?_
              | refine thenI_g ?_
              | refine inB_g ?_
              | refine IWP_goto ?_
              | refine Loop_n ?_
              | refine oD (id := 9) W20_9 [] O20_9 [_, _, _, _, _, _, _, _, _, _, _] [_] rfl (by repeat' (first | exact trivial | refine And.intro ?_ ?_ | exact bS | exact bX | exact bZ | exact bI | fail)) ?_
              | refine oD (id := 11) W20_11 [] O20_11 [_, _, _, _, _, _, _, _, _, _, _, _, _, _, _, _, _] [_] rfl (by repeat' (first | exact trivial | refine And.intro ?_ ?_ | exact bS | exact bX | exact bZ | exact bI | fail)) ?_
              | fail)
            exact ⟨k + 1, ⟨hk2, fun q hq => by
              rcases Nat.lt_succ_iff_lt_or_eq.1 hq with h | rfl
              · exact hns q h
              · exact hs⟩, by omega, lP []⟩
        · obtain rfl : k = i := by omega
          by_cases h0 : 0 < k
          · cases hs2 : lessI (gd L k) (gd L ((k - 1) / 4))
            · have hl := rless_spec (gd L k) (gd L (((k : Int) - 1) / 4).toNat)
              rw [show lessI (gd L k) (gd L (((k : Int) - 1) / 4).toNat) = false by rw [show (((k : Int) - 1) / 4).toNat = (k - 1) / 4 by omega]; exact hs2] at hl
              have hnew : okAt L k := ⟨⟨hn, by have : (gd L k).id ≤ 63 := hn2; omega⟩, hns, fun h => by rw [hs2] at h; cases h.2⟩
              repeat' (first
                | refine IOps_nil ?_
                | refine oS ?_
                | refine IOps_s rfl rfl ?_
                | refine oT ?_
                | refine IOps_s0 rfl ?_
                | refine oC (π := []) (hs := by first | exact hl | fail) (hx := ?_)
                | refine oZ ?_
                | refine oI ?_
                | refine thenI_n ?_
                | refine IWP_seq ?_
                | refine IWP_region ?_
                | refine IWP_ct rfl ?_
                | refine IWP_cf rfl ?_
                | refine IWP_skip ?_
                | refine IWP_ret ?_
                | refine IWP_block ?_
                | refine inB_n ?_
                | refine thenI_r ?_
                | refine thenI_e ?_
                | refine inB_r ?_
                | refine inB_hit ?_
                | refine inB_miss rfl ?_
                | refine IWP_exit ?_
                | refine IWP_scope ?_
                | refine IWP_label ?_
                | refine noG_n ?_
                | refine noG_r ?_
                | refine noG_e ?_
                | refine jmp_n ?_
                | refine jmp_r ?_
                | refine jmp_e ?_
                | refine jmp_g ?_
                | refine thenI_g ?_
                | refine inB_g ?_
                | refine IWP_goto ?_
                | refine Loop_n ?_
                | refine oD (id := 9) W20_9 [] O20_9 [_, _, _, _, _, _, _, _, _, _, _] [_] rfl (by repeat' (first | exact trivial | refine And.intro ?_ ?_ | exact bS | exact bX | exact bZ | exact bI | exact bC (π := []) (hs := by first | exact hl | fail) | fail)) ?_
                | refine oD (id := 11) W20_11 [] O20_11 [_, _, _, _, _, _, _, _, _, _, _, _, _, _, _, _, _] [_] rfl (by repeat' (first | exact trivial | refine And.intro ?_ ?_ | exact bS | exact bX | exact bZ | exact bI | exact bC (π := []) (hs := by first | exact hl | fail) | fail)) ?_
                | fail)
              exact ⟨k + 1, ⟨hi2, fun j hj => by
                rcases Nat.lt_succ_iff_lt_or_eq.1 hj with h | rfl
                · exact hok j h
                · exact hnew⟩, by omega, lP []⟩
            · have hl := rless_spec (gd L k) (gd L (((k : Int) - 1) / 4).toNat)
              rw [show lessI (gd L k) (gd L (((k : Int) - 1) / 4).toNat) = true by rw [show (((k : Int) - 1) / 4).toNat = (k - 1) / 4 by omega]; exact hs2] at hl
              have e : chk L = false := decide_eq_false fun h => (h.2 k hi2).2.2 ⟨h0, hs2⟩
              rw [e]
              repeat' (first
                | refine IOps_nil ?_
                | refine oS ?_
                | refine IOps_s rfl rfl ?_
                | refine oT ?_
                | refine IOps_s0 rfl ?_
                | refine oC (π := []) (hs := by first | exact hl | fail) (hx := ?_)
                | refine oZ ?_
                | refine oI ?_
                | refine thenI_n ?_
                | refine IWP_seq ?_
                | refine IWP_region ?_
                | refine IWP_ct rfl ?_
                | refine IWP_cf rfl ?_
                | refine IWP_skip ?_
                | refine IWP_ret ?_
                | refine IWP_block ?_
                | refine inB_n ?_
                | refine thenI_r ?_
                | refine thenI_e ?_
                | refine inB_r ?_
                | refine inB_hit ?_
                | refine inB_miss rfl ?_
                | refine IWP_exit ?_
                | refine IWP_scope ?_
                | refine IWP_label ?_
                | refine noG_n ?_
                | refine noG_r ?_
                | refine noG_e ?_
                | refine jmp_n ?_
                | refine jmp_r ?_
                | refine jmp_e ?_
                | refine jmp_g ?_
                | refine thenI_g ?_
                | refine inB_g ?_
                | refine IWP_goto ?_
                | refine Loop_n ?_
                | refine oD (id := 9) W20_9 [] O20_9 [_, _, _, _, _, _, _, _, _, _, _] [_] rfl (by repeat' (first | exact trivial | refine And.intro ?_ ?_ | exact bS | exact bX | exact bZ | exact bI | exact bC (π := []) (hs := by first | exact hl | fail) | fail)) ?_
                | refine oD (id := 11) W20_11 [] O20_11 [_, _, _, _, _, _, _, _, _, _, _, _, _, _, _, _, _] [_] rfl (by repeat' (first | exact trivial | refine And.intro ?_ ?_ | exact bS | exact bX | exact bZ | exact bI | exact bC (π := []) (hs := by first | exact hl | fail) | fail)) ?_
                | fail)
              exact pD [] ⟨rfl, rfl⟩
          · have hnew : okAt L k := ⟨⟨hn, by have : (gd L k).id ≤ 63 := hn2; omega⟩, hns, fun h => absurd h.1 h0⟩
            repeat' (first
              | refine IOps_nil ?_
              | refine oS ?_
              | refine IOps_s rfl rfl ?_
              | refine oT ?_
              | refine IOps_s0 rfl ?_
              | refine oZ ?_
              | refine oI ?_
              | refine thenI_n ?_
              | refine IWP_seq ?_
              | refine IWP_region ?_
              | refine IWP_ct rfl ?_
              | refine IWP_cf rfl ?_
              | refine IWP_skip ?_
              | refine IWP_ret ?_
              | refine IWP_block ?_
              | refine inB_n ?_
              | refine thenI_r ?_
              | refine thenI_e ?_
              | refine inB_r ?_
              | refine inB_hit ?_
              | refine inB_miss rfl ?_
              | refine IWP_exit ?_
              | refine IWP_scope ?_
              | refine IWP_label ?_
              | refine noG_n ?_
              | refine noG_r ?_
              | refine noG_e ?_
              | refine jmp_n ?_
              | refine jmp_r ?_
              | refine jmp_e ?_
              | refine jmp_g ?_
              | refine thenI_g ?_
              | refine inB_g ?_
              | refine IWP_goto ?_
              | refine Loop_n ?_
              | refine oD (id := 9) W20_9 [] O20_9 [_, _, _, _, _, _, _, _, _, _, _] [_] rfl (by repeat' (first | exact trivial | refine And.intro ?_ ?_ | exact bS | exact bX | exact bZ | exact bI | fail)) ?_
              | refine oD (id := 11) W20_11 [] O20_11 [_, _, _, _, _, _, _, _, _, _, _, _, _, _, _, _, _] [_] rfl (by repeat' (first | exact trivial | refine And.intro ?_ ?_ | exact bS | exact bX | exact bZ | exact bI | fail)) ?_
              | fail)
            exact ⟨k + 1, ⟨hi2, fun j hj => by
              rcases Nat.lt_succ_iff_lt_or_eq.1 hj with h | rfl
              · exact hok j h
              · exact hnew⟩, by omega, lP []⟩
      · have e : chk L = false := decide_eq_false fun h => hn2 (by have := (h.2 i hi2).1.2; exact Int.lt_add_one_iff.1 this)
        rw [e]
        repeat' (first
          | refine IOps_nil ?_
          | refine oS ?_
          | refine IOps_s rfl rfl ?_
          | refine oT ?_
          | refine IOps_s0 rfl ?_
          | refine oZ ?_
          | refine oI ?_
          | refine thenI_n ?_
          | refine IWP_seq ?_
          | refine IWP_region ?_
          | refine IWP_ct rfl ?_
          | refine IWP_cf rfl ?_
          | refine IWP_skip ?_
          | refine IWP_ret ?_
          | refine IWP_block ?_
          | refine inB_n ?_
          | refine thenI_r ?_
          | refine thenI_e ?_
          | refine inB_r ?_
          | refine inB_hit ?_
          | refine inB_miss rfl ?_
          | refine IWP_exit ?_
          | refine IWP_scope ?_
          | refine IWP_label ?_
          | refine noG_n ?_
          | refine noG_r ?_
          | refine noG_e ?_
          | refine jmp_n ?_
          | refine jmp_r ?_
          | refine jmp_e ?_
          | refine jmp_g ?_
          | refine thenI_g ?_
          | refine inB_g ?_
          | refine IWP_goto ?_
          | refine Loop_n ?_
          | refine oD (id := 9) W20_9 [] O20_9 [_, _, _, _, _, _, _, _, _, _, _] [_] rfl (by repeat' (first | exact trivial | refine And.intro ?_ ?_ | exact bS | exact bX | exact bZ | exact bI | fail)) ?_
          | refine oD (id := 11) W20_11 [] O20_11 [_, _, _, _, _, _, _, _, _, _, _, _, _, _, _, _, _] [_] rfl (by repeat' (first | exact trivial | refine And.intro ?_ ?_ | exact bS | exact bX | exact bZ | exact bI | fail)) ?_
          | fail)
        exact pD [] ⟨rfl, rfl⟩
    · have e : chk L = false := decide_eq_false fun h => hn (h.2 i hi2).1.1
      rw [e]
      repeat' (first
        | refine IOps_nil ?_
        | refine oS ?_
        | refine IOps_s rfl rfl ?_
        | refine oT ?_
        | refine IOps_s0 rfl ?_
        | refine oZ ?_
        | refine oI ?_
        | refine thenI_n ?_
        | refine IWP_seq ?_
        | refine IWP_region ?_
        | refine IWP_ct rfl ?_
        | refine IWP_cf rfl ?_
        | refine IWP_skip ?_
        | refine IWP_ret ?_
        | refine IWP_block ?_
        | refine inB_n ?_
        | refine thenI_r ?_
        | refine thenI_e ?_
        | refine inB_r ?_
        | refine inB_hit ?_
        | refine inB_miss rfl ?_
        | refine IWP_exit ?_
        | refine IWP_scope ?_
        | refine IWP_label ?_
        | refine noG_n ?_
        | refine noG_r ?_
        | refine noG_e ?_
        | refine jmp_n ?_
        | refine jmp_r ?_
        | refine jmp_e ?_
        | refine jmp_g ?_
        | refine thenI_g ?_
        | refine inB_g ?_
        | refine IWP_goto ?_
        | refine Loop_n ?_
        | refine oD (id := 9) W20_9 [] O20_9 [_, _, _, _, _, _, _, _, _, _, _] [_] rfl (by repeat' (first | exact trivial | refine And.intro ?_ ?_ | exact bS | exact bX | exact bZ | exact bI | fail)) ?_
        | refine oD (id := 11) W20_11 [] O20_11 [_, _, _, _, _, _, _, _, _, _, _, _, _, _, _, _, _] [_] rfl (by repeat' (first | exact trivial | refine And.intro ?_ ?_ | exact bS | exact bX | exact bZ | exact bI | fail)) ?_
        | fail)
      exact pD [] ⟨rfl, rfl⟩
  · by_cases h64 : L.length ≤ 64
    · have e : chk L = true := decide_eq_true ⟨h64, fun j hj => hok j (by omega)⟩
      rw [e]
      repeat' (first
        | refine IOps_nil ?_
        | refine oS ?_
        | refine IOps_s rfl rfl ?_
        | refine oT ?_
        | refine IOps_s0 rfl ?_
        | refine oZ ?_
        | refine oI ?_
        | refine thenI_n ?_
        | refine IWP_seq ?_
        | refine IWP_region ?_
        | refine IWP_ct rfl ?_
        | refine IWP_cf rfl ?_
        | refine IWP_skip ?_
        | refine IWP_ret ?_
        | refine IWP_block ?_
        | refine inB_n ?_
        | refine thenI_r ?_
        | refine thenI_e ?_
        | refine inB_r ?_
        | refine inB_hit ?_
        | refine inB_miss rfl ?_
        | refine IWP_exit ?_
        | refine IWP_scope ?_
        | refine IWP_label ?_
        | refine noG_n ?_
        | refine noG_r ?_
        | refine noG_e ?_
        | refine jmp_n ?_
        | refine jmp_r ?_
        | refine jmp_e ?_
        | refine jmp_g ?_
        | refine thenI_g ?_
        | refine inB_g ?_
        | refine IWP_goto ?_
        | refine Loop_n ?_
        | refine oD (id := 9) W20_9 [] O20_9 [_, _, _, _, _, _, _, _, _, _, _] [_] rfl (by repeat' (first | exact trivial | refine And.intro ?_ ?_ | exact bS | exact bX | exact bZ | exact bI | fail)) ?_
        | refine oD (id := 11) W20_11 [] O20_11 [_, _, _, _, _, _, _, _, _, _, _, _, _, _, _, _, _] [_] rfl (by repeat' (first | exact trivial | refine And.intro ?_ ?_ | exact bS | exact bX | exact bZ | exact bI | fail)) ?_
        | fail)
      exact pD [] ⟨rfl, rfl⟩
    · have e : chk L = false := decide_eq_false fun h => h64 h.1
      rw [e]
      repeat' (first
        | refine IOps_nil ?_
        | refine oS ?_
        | refine IOps_s rfl rfl ?_
        | refine oT ?_
        | refine IOps_s0 rfl ?_
        | refine oZ ?_
        | refine oI ?_
        | refine thenI_n ?_
        | refine IWP_seq ?_
        | refine IWP_region ?_
        | refine IWP_ct rfl ?_
        | refine IWP_cf rfl ?_
        | refine IWP_skip ?_
        | refine IWP_ret ?_
        | refine IWP_block ?_
        | refine inB_n ?_
        | refine thenI_r ?_
        | refine thenI_e ?_
        | refine inB_r ?_
        | refine inB_hit ?_
        | refine inB_miss rfl ?_
        | refine IWP_exit ?_
        | refine IWP_scope ?_
        | refine IWP_label ?_
        | refine noG_n ?_
        | refine noG_r ?_
        | refine noG_e ?_
        | refine jmp_n ?_
        | refine jmp_r ?_
        | refine jmp_e ?_
        | refine jmp_g ?_
        | refine thenI_g ?_
        | refine inB_g ?_
        | refine IWP_goto ?_
        | refine Loop_n ?_
        | refine oD (id := 9) W20_9 [] O20_9 [_, _, _, _, _, _, _, _, _, _, _] [_] rfl (by repeat' (first | exact trivial | refine And.intro ?_ ?_ | exact bS | exact bX | exact bZ | exact bI | fail)) ?_
        | refine oD (id := 11) W20_11 [] O20_11 [_, _, _, _, _, _, _, _, _, _, _, _, _, _, _, _, _] [_] rfl (by repeat' (first | exact trivial | refine And.intro ?_ ?_ | exact bS | exact bX | exact bZ | exact bI | fail)) ?_
        | fail)
      exact pD [] ⟨rfl, rfl⟩
end Go.Proofs.Ytnlelckfhlcbgaa
