/-
  A heap: whether an item stands ahead.
-/
import Derived.Test.YtnlelckfhlcbgaaSorK
namespace Go.Proofs.Ytnlelckfhlcbgaa
open Go Go.Idl
set_option linter.unusedSimpArgs false
set_option linter.unusedVariables false
set_option maxRecDepth 100000
set_option maxHeartbeats 1000000
attribute [local irreducible] Go.Idl.IWP Go.Idl.IOps Go.Idl.Obl Go.Idl.OpG Go.Idl.thenI Go.Idl.inBlockI Go.Idl.LoopU Go.Idl.noGotoI Go.Idl.jumpI
attribute [local go_sem] List.length_set
def lessI (a b : It) : Bool := decide (a.pri < b.pri ∨ (a.pri = b.pri ∧ (a.seq < b.seq ∨ (a.seq = b.seq ∧ a.id < b.id))))
theorem less_spec (a b : It) : Idl.Spec Try.prog 21 [.agg [.sc (.int .i64 a.id), .sc (.int .u64 a.pri), .sc (.int .u64 a.seq)], .agg [.sc (.int .i64 b.id), .sc (.int .u64 b.pri), .sc (.int .u64 b.seq)]] [] (Only (.sc (.bool (lessI a b))) []) := by
  by_cases h1 : a.pri = b.pri
  · by_cases h2 : a.seq = b.seq
    · rw [show lessI a b = decide (a.id < b.id) by simp [lessI, h1, h2]]
      refine sB Try.func21 Try.ntmps21 ?_
      repeat' (first|refine IOps_nil ?_|refine oS ?_|refine IOps_s rfl rfl ?_|refine oT ?_|refine IOps_s0 rfl ?_|refine oZ ?_|refine oI ?_|refine thenI_n ?_|refine IWP_seq ?_|refine IWP_region ?_|refine IWP_ct rfl ?_|refine IWP_cf rfl ?_|refine IWP_skip ?_|refine IWP_ret ?_|refine IWP_block ?_|refine inB_n ?_|refine thenI_r ?_|refine thenI_e ?_|refine inB_r ?_|refine inB_hit ?_|refine inB_miss rfl ?_|refine IWP_exit ?_|refine IWP_scope ?_|refine IWP_label ?_|refine noG_n ?_|refine noG_r ?_|refine noG_e ?_|refine jmp_n ?_|refine jmp_r ?_|refine jmp_e ?_|refine jmp_g ?_|refine thenI_g ?_|refine inB_g ?_|refine IWP_goto ?_|refine Loop_n ?_|fail)
      exact pD [] ⟨rfl, rfl⟩
    · rw [show lessI a b = decide (a.seq < b.seq) by simp [lessI, h1, h2]]
      refine sB Try.func21 Try.ntmps21 ?_
      repeat' (first|refine IOps_nil ?_|refine oS ?_|refine IOps_s rfl rfl ?_|refine oT ?_|refine IOps_s0 rfl ?_|refine oZ ?_|refine oI ?_|refine thenI_n ?_|refine IWP_seq ?_|refine IWP_region ?_|refine IWP_ct rfl ?_|refine IWP_cf rfl ?_|refine IWP_skip ?_|refine IWP_ret ?_|refine IWP_block ?_|refine inB_n ?_|refine thenI_r ?_|refine thenI_e ?_|refine inB_r ?_|refine inB_hit ?_|refine inB_miss rfl ?_|refine IWP_exit ?_|refine IWP_scope ?_|refine IWP_label ?_|refine noG_n ?_|refine noG_r ?_|refine noG_e ?_|refine jmp_n ?_|refine jmp_r ?_|refine jmp_e ?_|refine jmp_g ?_|refine thenI_g ?_|refine inB_g ?_|refine IWP_goto ?_|refine Loop_n ?_|fail)
      exact pD [] ⟨rfl, rfl⟩
  · rw [show lessI a b = decide (a.pri < b.pri) by simp [lessI, h1]]
    refine sB Try.func21 Try.ntmps21 ?_
    repeat' (first|refine IOps_nil ?_|refine oS ?_|refine IOps_s rfl rfl ?_|refine oT ?_|refine IOps_s0 rfl ?_|refine oZ ?_|refine oI ?_|refine thenI_n ?_|refine IWP_seq ?_|refine IWP_region ?_|refine IWP_ct rfl ?_|refine IWP_cf rfl ?_|refine IWP_skip ?_|refine IWP_ret ?_|refine IWP_block ?_|refine inB_n ?_|refine thenI_r ?_|refine thenI_e ?_|refine inB_r ?_|refine inB_hit ?_|refine inB_miss rfl ?_|refine IWP_exit ?_|refine IWP_scope ?_|refine IWP_label ?_|refine noG_n ?_|refine noG_r ?_|refine noG_e ?_|refine jmp_n ?_|refine jmp_r ?_|refine jmp_e ?_|refine jmp_g ?_|refine thenI_g ?_|refine inB_g ?_|refine IWP_goto ?_|refine Loop_n ?_|fail)
    exact pD [] ⟨rfl, rfl⟩
def cmpI (a b : It) : Int := if lessI a b then -1 else if lessI b a then 1 else 0
theorem lessI_asym {x y : It} (h : lessI x y = true) : lessI y x = false := by
  simp only [lessI, decide_eq_true_eq, decide_eq_false_iff_not] at h ⊢; omega
theorem lessI_trans {x y z : It} (h : lessI x y = false) (k : lessI y z = false) : lessI x z = false := by
  simp only [lessI, decide_eq_false_iff_not] at h k ⊢; omega
theorem lessI_tot {x y : It} (h : lessI x y = false) (k : lessI y x = false) : x = y := by
  cases x; cases y
  simp only [lessI, decide_eq_false_iff_not] at h k
  simp only [It.mk.injEq]; omega
theorem lessI_irr (x : It) : lessI x x = false := by simp [lessI]
theorem lessI_lt {x y z : It} (h : lessI x y = true) (k : lessI y z = true) : lessI x z = true := by
  simp only [lessI, decide_eq_true_eq] at h k ⊢; omega
theorem cmpI_lt (x y : It) : decide (cmpI x y < 0) = lessI x y := by
  unfold cmpI
  cases lessI x y <;> cases lessI y x <;> simp
theorem cmpI_ord : OrdL fun x y => decide (cmpI x y < 0) := by
  have e : (fun x y => decide (cmpI x y < 0)) = lessI := by funext x y; exact cmpI_lt x y
  rw [e]
  exact ⟨fun _ _ => lessI_asym, fun _ _ _ => lessI_trans⟩
theorem cmp_spec (a b : It) : Idl.Spec Try.prog 46 [.agg [.sc (.int .i64 a.id), .sc (.int .u64 a.pri), .sc (.int .u64 a.seq)], .agg [.sc (.int .i64 b.id), .sc (.int .u64 b.pri), .sc (.int .u64 b.seq)]] [] (Only (.i64 (cmpI a b)) []) := by
  by_cases h1 : lessI a b = true
  · rw [show cmpI a b = -1 by simp [cmpI, h1]]
    have hs1 := less_spec a b
    rw [h1] at hs1
    refine sB Try.func46 Try.ntmps46 ?_
    repeat' (first|refine IOps_nil ?_|refine oS ?_|refine IOps_s rfl rfl ?_|refine oT ?_|refine IOps_s0 rfl ?_|refine oC (π:=[]) (hs:=by first|exact hs1|fail) (hx:=?_)|refine oZ ?_|refine oI ?_|refine thenI_n ?_|refine IWP_seq ?_|refine IWP_region ?_|refine IWP_ct rfl ?_|refine IWP_cf rfl ?_|refine IWP_skip ?_|refine IWP_ret ?_|refine IWP_block ?_|refine inB_n ?_|refine thenI_r ?_|refine thenI_e ?_|refine inB_r ?_|refine inB_hit ?_|refine inB_miss rfl ?_|refine IWP_exit ?_|refine IWP_scope ?_|refine IWP_label ?_|refine noG_n ?_|refine noG_r ?_|refine noG_e ?_|refine jmp_n ?_|refine jmp_r ?_|refine jmp_e ?_|refine jmp_g ?_|refine thenI_g ?_|refine inB_g ?_|refine IWP_goto ?_|refine Loop_n ?_|fail)
    exact pD [] ⟨rfl, rfl⟩
  · replace h1 : lessI a b = false := by simpa using h1
    have hs1 := less_spec a b
    rw [h1] at hs1
    have hs2 := less_spec b a
    by_cases h2 : lessI b a = true
    · rw [show cmpI a b = 1 by simp [cmpI, h1, h2]]
      rw [h2] at hs2
      refine sB Try.func46 Try.ntmps46 ?_
      repeat' (first|refine IOps_nil ?_|refine oS ?_|refine IOps_s rfl rfl ?_|refine oT ?_|refine IOps_s0 rfl ?_|refine oC (π:=[]) (hs:=by first|exact hs1|fail) (hx:=?_)|refine oC (π:=[]) (hs:=by first|exact hs2|fail) (hx:=?_)|refine oZ ?_|refine oI ?_|refine thenI_n ?_|refine IWP_seq ?_|refine IWP_region ?_|refine IWP_ct rfl ?_|refine IWP_cf rfl ?_|refine IWP_skip ?_|refine IWP_ret ?_|refine IWP_block ?_|refine inB_n ?_|refine thenI_r ?_|refine thenI_e ?_|refine inB_r ?_|refine inB_hit ?_|refine inB_miss rfl ?_|refine IWP_exit ?_|refine IWP_scope ?_|refine IWP_label ?_|refine noG_n ?_|refine noG_r ?_|refine noG_e ?_|refine jmp_n ?_|refine jmp_r ?_|refine jmp_e ?_|refine jmp_g ?_|refine thenI_g ?_|refine inB_g ?_|refine IWP_goto ?_|refine Loop_n ?_|fail)
      exact pD [] ⟨rfl, rfl⟩
    · replace h2 : lessI b a = false := by simpa using h2
      rw [show cmpI a b = 0 by simp [cmpI, h1, h2]]
      rw [h2] at hs2
      refine sB Try.func46 Try.ntmps46 ?_
      repeat' (first|refine IOps_nil ?_|refine oS ?_|refine IOps_s rfl rfl ?_|refine oT ?_|refine IOps_s0 rfl ?_|refine oC (π:=[]) (hs:=by first|exact hs1|fail) (hx:=?_)|refine oC (π:=[]) (hs:=by first|exact hs2|fail) (hx:=?_)|refine oZ ?_|refine oI ?_|refine thenI_n ?_|refine IWP_seq ?_|refine IWP_region ?_|refine IWP_ct rfl ?_|refine IWP_cf rfl ?_|refine IWP_skip ?_|refine IWP_ret ?_|refine IWP_block ?_|refine inB_n ?_|refine thenI_r ?_|refine thenI_e ?_|refine inB_r ?_|refine inB_hit ?_|refine inB_miss rfl ?_|refine IWP_exit ?_|refine IWP_scope ?_|refine IWP_label ?_|refine noG_n ?_|refine noG_r ?_|refine noG_e ?_|refine jmp_n ?_|refine jmp_r ?_|refine jmp_e ?_|refine jmp_g ?_|refine thenI_g ?_|refine inB_g ?_|refine IWP_goto ?_|refine Loop_n ?_|fail)
      exact pD [] ⟨rfl, rfl⟩
theorem named_spec (id : Int) : Idl.Spec Try.prog 42 [.i64 id] [] (Only (.sc (.bool (decide (0 ≤ id ∧ id < 64)))) []) := by
  by_cases h : 0 ≤ id
  · by_cases h' : id < 64
    · rw [show decide (0 ≤ id ∧ id < 64) = true by simp; omega]
      refine sB Try.func42 Try.ntmps42 ?_
      repeat' (first|refine IOps_nil ?_|refine oS ?_|refine IOps_s rfl rfl ?_|refine oT ?_|refine IOps_s0 rfl ?_|refine oZ ?_|refine oI ?_|refine thenI_n ?_|refine IWP_seq ?_|refine IWP_region ?_|refine IWP_ct rfl ?_|refine IWP_cf rfl ?_|refine IWP_skip ?_|refine IWP_ret ?_|refine IWP_block ?_|refine inB_n ?_|refine thenI_r ?_|refine thenI_e ?_|refine inB_r ?_|refine inB_hit ?_|refine inB_miss rfl ?_|refine IWP_exit ?_|refine IWP_scope ?_|refine IWP_label ?_|refine noG_n ?_|refine noG_r ?_|refine noG_e ?_|refine jmp_n ?_|refine jmp_r ?_|refine jmp_e ?_|refine jmp_g ?_|refine thenI_g ?_|refine inB_g ?_|refine IWP_goto ?_|refine Loop_n ?_|fail)
      exact pD [] ⟨rfl, rfl⟩
    · rw [show decide (0 ≤ id ∧ id < 64) = false by simp; omega]
      refine sB Try.func42 Try.ntmps42 ?_
      repeat' (first|refine IOps_nil ?_|refine oS ?_|refine IOps_s rfl rfl ?_|refine oT ?_|refine IOps_s0 rfl ?_|refine oZ ?_|refine oI ?_|refine thenI_n ?_|refine IWP_seq ?_|refine IWP_region ?_|refine IWP_ct rfl ?_|refine IWP_cf rfl ?_|refine IWP_skip ?_|refine IWP_ret ?_|refine IWP_block ?_|refine inB_n ?_|refine thenI_r ?_|refine thenI_e ?_|refine inB_r ?_|refine inB_hit ?_|refine inB_miss rfl ?_|refine IWP_exit ?_|refine IWP_scope ?_|refine IWP_label ?_|refine noG_n ?_|refine noG_r ?_|refine noG_e ?_|refine jmp_n ?_|refine jmp_r ?_|refine jmp_e ?_|refine jmp_g ?_|refine thenI_g ?_|refine inB_g ?_|refine IWP_goto ?_|refine Loop_n ?_|fail)
      exact pD [] ⟨rfl, rfl⟩
  · rw [show decide (0 ≤ id ∧ id < 64) = false by simp; omega]
    refine sB Try.func42 Try.ntmps42 ?_
    repeat' (first|refine IOps_nil ?_|refine oS ?_|refine IOps_s rfl rfl ?_|refine oT ?_|refine IOps_s0 rfl ?_|refine oZ ?_|refine oI ?_|refine thenI_n ?_|refine IWP_seq ?_|refine IWP_region ?_|refine IWP_ct rfl ?_|refine IWP_cf rfl ?_|refine IWP_skip ?_|refine IWP_ret ?_|refine IWP_block ?_|refine inB_n ?_|refine thenI_r ?_|refine thenI_e ?_|refine inB_r ?_|refine inB_hit ?_|refine inB_miss rfl ?_|refine IWP_exit ?_|refine IWP_scope ?_|refine IWP_label ?_|refine noG_n ?_|refine noG_r ?_|refine noG_e ?_|refine jmp_n ?_|refine jmp_r ?_|refine jmp_e ?_|refine jmp_g ?_|refine thenI_g ?_|refine inB_g ?_|refine IWP_goto ?_|refine Loop_n ?_|fail)
    exact pD [] ⟨rfl, rfl⟩
theorem parent_spec (k : Nat) (hk : k ≤ 1000000000) : Idl.Spec Try.prog 43 [.i64 k] [] (Only (.i64 ((k - 1) / 4 : Nat)) []) := by
  have hw : IntKind.i64.wrap (((k : Int) - 1).tdiv 4) = (((k - 1) / 4 : Nat) : Int) := by
    have h : ((k : Int) - 1).tdiv 4 = (((k - 1) / 4 : Nat) : Int) := by
      cases k with
      | zero => rfl
      | succ m => rw [show (((m + 1 : Nat) : Int) - 1) = (m : Int) by omega]; rfl
    rw [h]; exact wrap_i64 (by omega) (by omega)
  refine sB Try.func43 Try.ntmps43 ?_
  repeat' (first|refine IOps_nil ?_|refine oS ?_|refine IOps_s rfl rfl ?_|refine oT ?_|refine IOps_s0 rfl ?_|refine oZ ?_|refine oI ?_|refine thenI_n ?_|refine IWP_seq ?_|refine IWP_region ?_|refine IWP_ct rfl ?_|refine IWP_cf rfl ?_|refine IWP_skip ?_|refine IWP_ret ?_|refine IWP_block ?_|refine inB_n ?_|refine thenI_r ?_|refine thenI_e ?_|refine inB_r ?_|refine inB_hit ?_|refine inB_miss rfl ?_|refine IWP_exit ?_|refine IWP_scope ?_|refine IWP_label ?_|refine noG_n ?_|refine noG_r ?_|refine noG_e ?_|refine jmp_n ?_|refine jmp_r ?_|refine jmp_e ?_|refine jmp_g ?_|refine thenI_g ?_|refine inB_g ?_|refine IWP_goto ?_|refine Loop_n ?_|fail)
  refine pE [] ?_
  rw [hw]
end Go.Proofs.Ytnlelckfhlcbgaa

namespace Go.Proofs.Ytnlelckfhlcbgaa
open Go Go.Idl
set_option linter.unusedSimpArgs false
set_option linter.unusedVariables false
set_option maxRecDepth 100000
set_option maxHeartbeats 1000000
attribute [local irreducible] Go.Idl.IWP Go.Idl.IOps Go.Idl.Obl Go.Idl.OpG Go.Idl.thenI Go.Idl.inBlockI Go.Idl.LoopU Go.Idl.noGotoI Go.Idl.jumpI
attribute [local go_sem] List.length_set
def okAt (L : List It) (i : Nat) : Prop := (0 ≤ (gd L i).id ∧ (gd L i).id < 64) ∧ (∀ k, k < i → (gd L k).id ≠ (gd L i).id) ∧ ¬ (0 < i ∧ lessI (gd L i) (gd L ((i - 1) / 4)) = true)
instance (L : List It) (i : Nat) : Decidable (okAt L i) := by unfold okAt; infer_instance
def Hp (L : List It) : Prop := L.length ≤ 64 ∧ ∀ i, i < L.length → okAt L i
instance (L : List It) : Decidable (Hp L) := by unfold Hp; infer_instance
def chk (L : List It) : Bool := decide (Hp L)
theorem splice_all (L : List It) : splice (items (List.replicate L.length default)) 0 (items L) = items L := by
  simp [splice, items_length]
attribute [local go_sem] splice_all
theorem copied_spec (L : List It) (hL : L.length ≤ 1000000000) : Idl.Spec Try.prog 44 [.fz false (items L) L.length] [] (Only (.sl 0 0 L.length L.length 3) [.arr true (items L)]) := by
  refine sB Try.func44 Try.ntmps44 ?_
  repeat' (first|refine IOps_nil ?_|refine oS ?_|refine IOps_s rfl rfl ?_|refine oT ?_|refine IOps_s0 rfl ?_|refine oZ ?_|refine oI ?_|refine thenI_n ?_|refine IWP_seq ?_|refine IWP_region ?_|refine IWP_ct rfl ?_|refine IWP_cf rfl ?_|refine IWP_skip ?_|refine IWP_ret ?_|refine IWP_block ?_|refine inB_n ?_|refine thenI_r ?_|refine thenI_e ?_|refine inB_r ?_|refine inB_hit ?_|refine inB_miss rfl ?_|refine IWP_exit ?_|refine IWP_scope ?_|refine IWP_label ?_|refine noG_n ?_|refine noG_r ?_|refine noG_e ?_|refine jmp_n ?_|refine jmp_r ?_|refine jmp_e ?_|refine jmp_g ?_|refine thenI_g ?_|refine inB_g ?_|refine IWP_goto ?_|refine Loop_n ?_|fail)
  exact pD [0] ⟨rfl, rfl⟩
def placeI (L : List It) (id : Int) : Int := if L.findIdx (fun x => x.id == id) < L.length then (L.findIdx (fun x => x.id == id) : Int) else -1
theorem placeI_hit {L : List It} {id : Int} {i : Nat} (h : i < L.length) (he : (gd L i).id = id) (hn : ∀ j, j < i → (gd L j).id ≠ id) : placeI L id = i := by
  have : L.findIdx (fun x => x.id == id) = i := by
    rw [List.findIdx_eq h]
    refine ⟨by rw [← gd_eq h]; simpa using he, fun j hj => ?_⟩
    have := hn j hj
    rw [gd_eq (by omega)] at this
    simpa using this
  unfold placeI; rw [this, if_pos h]
theorem placeI_miss {L : List It} {id : Int} (hn : ∀ j, j < L.length → (gd L j).id ≠ id) : placeI L id = -1 := by
  have : L.findIdx (fun x => x.id == id) = L.length := by
    rw [List.findIdx_eq_length]
    intro x hx
    obtain ⟨j, hj, rfl⟩ := List.getElem_of_mem hx
    have := hn j hj
    rw [gd_eq hj] at this
    simpa using this
  unfold placeI; rw [this, if_neg (Nat.lt_irrefl _)]
theorem place1_spec (x : It) (id : Int) : Idl.Spec Try.prog 60 [.agg [.sc (.int .i64 x.id), .sc (.int .u64 x.pri), .sc (.int .u64 x.seq)], .ptr 0 0] [.box [.i64 id]] (Only (.sc (.bool (decide (x.id = id)))) [.box [.i64 id]]) := by
  refine sB Try.func60 Try.ntmps60 ?_
  repeat' (first|refine IOps_nil ?_|refine oS ?_|refine IOps_s rfl rfl ?_|refine oT ?_|refine IOps_s0 rfl ?_|refine oZ ?_|refine oI ?_|refine thenI_n ?_|refine IWP_seq ?_|refine IWP_region ?_|refine IWP_ct rfl ?_|refine IWP_cf rfl ?_|refine IWP_skip ?_|refine IWP_ret ?_|refine IWP_block ?_|refine inB_n ?_|refine thenI_r ?_|refine thenI_e ?_|refine inB_r ?_|refine inB_hit ?_|refine inB_miss rfl ?_|refine IWP_exit ?_|refine IWP_scope ?_|refine IWP_label ?_|refine noG_n ?_|refine noG_r ?_|refine noG_e ?_|refine jmp_n ?_|refine jmp_r ?_|refine jmp_e ?_|refine jmp_g ?_|refine thenI_g ?_|refine inB_g ?_|refine IWP_goto ?_|refine Loop_n ?_|fail)
  exact pD [0] ⟨rfl, rfl⟩
theorem index_fz (L : List It) (id : Int) (cap : Nat) (hL : L.length ≤ 1000000000) : Idl.Spec Try.prog 59 [.fz false (items L) L.length, .fn (.func 60) [] [.ptr 0 0]] [.box [.i64 id]] (Only (.i64 (placeI L id)) [.box [.i64 id]]) := by
  refine sB Try.func59 Try.ntmps59 ?_
  repeat' (first|refine IOps_nil ?_|refine oS ?_|refine IOps_s rfl rfl ?_|refine oT ?_|refine IOps_s0 rfl ?_|refine oC (π:=[0]) (hs:=by first|exact place1_spec _ _|fail) (hx:=?_)|refine oC0 (π:=[0]) (hs:=by first|exact place1_spec _ _|fail) (hx:=?_)|refine oZ ?_|refine oI ?_|refine thenI_n ?_|refine IWP_seq ?_|refine IWP_region ?_|refine IWP_ct rfl ?_|refine IWP_cf rfl ?_|refine IWP_skip ?_|refine IWP_ret ?_|refine IWP_block ?_|refine inB_n ?_|refine thenI_r ?_|refine thenI_e ?_|refine inB_r ?_|refine inB_hit ?_|refine inB_miss rfl ?_|refine IWP_exit ?_|refine IWP_scope ?_|refine IWP_label ?_|refine noG_n ?_|refine noG_r ?_|refine noG_e ?_|refine jmp_n ?_|refine jmp_r ?_|refine jmp_e ?_|refine jmp_g ?_|refine thenI_g ?_|refine inB_g ?_|refine IWP_goto ?_|refine Loop_n ?_|fail)
  refine IWP_loop (fun i : Nat => ⟨19, [(0, .fz false (items L) L.length), (1, .fn (.func 60) [] [.ptr 0 0]), (6, .fz false (items L) L.length), (7, .i64 L.length), (8, .i64 i)], [.box [.i64 id]]⟩) (fun i => i ≤ L.length ∧ ∀ j, j < i → (gd L j).id ≠ id) (fun i => L.length - i) 0 (lP [0]) ⟨Nat.zero_le _, fun j h => by omega⟩ ?_
  rintro i ⟨hi, hn⟩
  by_cases h : i < L.length
  · by_cases he : (gd L i).id = id
    · rw [placeI_hit h he hn]
      repeat' (first|refine IOps_nil ?_|refine oS ?_|refine IOps_s rfl rfl ?_|refine oT ?_|refine IOps_s0 rfl ?_|refine oC (π:=[0]) (hs:=by first|exact place1_spec _ _|fail) (hx:=?_)|refine oC0 (π:=[0]) (hs:=by first|exact place1_spec _ _|fail) (hx:=?_)|refine oZ ?_|refine oI ?_|refine thenI_n ?_|refine IWP_seq ?_|refine IWP_region ?_|refine IWP_ct rfl ?_|refine IWP_cf rfl ?_|refine IWP_skip ?_|refine IWP_ret ?_|refine IWP_block ?_|refine inB_n ?_|refine thenI_r ?_|refine thenI_e ?_|refine inB_r ?_|refine inB_hit ?_|refine inB_miss rfl ?_|refine IWP_exit ?_|refine IWP_scope ?_|refine IWP_label ?_|refine noG_n ?_|refine noG_r ?_|refine noG_e ?_|refine jmp_n ?_|refine jmp_r ?_|refine jmp_e ?_|refine jmp_g ?_|refine thenI_g ?_|refine inB_g ?_|refine IWP_goto ?_|refine Loop_n ?_|fail)
      exact pD [0] ⟨rfl, rfl⟩
    · repeat' (first|refine IOps_nil ?_|refine oS ?_|refine IOps_s rfl rfl ?_|refine oT ?_|refine IOps_s0 rfl ?_|refine oC (π:=[0]) (hs:=by first|exact place1_spec _ _|fail) (hx:=?_)|refine oC0 (π:=[0]) (hs:=by first|exact place1_spec _ _|fail) (hx:=?_)|refine oZ ?_|refine oI ?_|refine thenI_n ?_|refine IWP_seq ?_|refine IWP_region ?_|refine IWP_ct rfl ?_|refine IWP_cf rfl ?_|refine IWP_skip ?_|refine IWP_ret ?_|refine IWP_block ?_|refine inB_n ?_|refine thenI_r ?_|refine thenI_e ?_|refine inB_r ?_|refine inB_hit ?_|refine inB_miss rfl ?_|refine IWP_exit ?_|refine IWP_scope ?_|refine IWP_label ?_|refine noG_n ?_|refine noG_r ?_|refine noG_e ?_|refine jmp_n ?_|refine jmp_r ?_|refine jmp_e ?_|refine jmp_g ?_|refine thenI_g ?_|refine inB_g ?_|refine IWP_goto ?_|refine Loop_n ?_|fail)
      exact ⟨i + 1, ⟨h, fun j hj => by
        by_cases e : j = i
        · subst e; exact he
        · exact hn j (by omega)⟩, by omega, lP [0]⟩
  · rw [placeI_miss fun j hj => hn j (by omega)]
    repeat' (first|refine IOps_nil ?_|refine oS ?_|refine IOps_s rfl rfl ?_|refine oT ?_|refine IOps_s0 rfl ?_|refine oC (π:=[0]) (hs:=by first|exact place1_spec _ _|fail) (hx:=?_)|refine oC0 (π:=[0]) (hs:=by first|exact place1_spec _ _|fail) (hx:=?_)|refine oZ ?_|refine oI ?_|refine thenI_n ?_|refine IWP_seq ?_|refine IWP_region ?_|refine IWP_ct rfl ?_|refine IWP_cf rfl ?_|refine IWP_skip ?_|refine IWP_ret ?_|refine IWP_block ?_|refine inB_n ?_|refine thenI_r ?_|refine thenI_e ?_|refine inB_r ?_|refine inB_hit ?_|refine inB_miss rfl ?_|refine IWP_exit ?_|refine IWP_scope ?_|refine IWP_label ?_|refine noG_n ?_|refine noG_r ?_|refine noG_e ?_|refine jmp_n ?_|refine jmp_r ?_|refine jmp_e ?_|refine jmp_g ?_|refine thenI_g ?_|refine inB_g ?_|refine IWP_goto ?_|refine Loop_n ?_|fail)
    exact pD [0] ⟨rfl, rfl⟩
theorem place_fz (L : List It) (id : Int) (cap : Nat) (hL : L.length ≤ 1000000000) : Idl.Spec Try.prog 41 [.fz false (items L) L.length, .i64 id] [] (Only (.i64 (placeI L id)) []) := by
  refine sB Try.func41 Try.ntmps41 ?_
  repeat' (first|refine IOps_nil ?_|refine oS ?_|refine IOps_s rfl rfl ?_|refine oT ?_|refine IOps_s0 rfl ?_|refine oC (π:=[0]) (hs:=by first|exact index_fz _ _ cap hL|fail) (hx:=?_)|refine oC0 (π:=[0]) (hs:=by first|exact index_fz _ _ cap hL|fail) (hx:=?_)|refine oZ ?_|refine oI ?_|refine thenI_n ?_|refine IWP_seq ?_|refine IWP_region ?_|refine IWP_ct rfl ?_|refine IWP_cf rfl ?_|refine IWP_skip ?_|refine IWP_ret ?_|refine IWP_block ?_|refine inB_n ?_|refine thenI_r ?_|refine thenI_e ?_|refine inB_r ?_|refine inB_hit ?_|refine inB_miss rfl ?_|refine IWP_exit ?_|refine IWP_scope ?_|refine IWP_label ?_|refine noG_n ?_|refine noG_r ?_|refine noG_e ?_|refine jmp_n ?_|refine jmp_r ?_|refine jmp_e ?_|refine jmp_g ?_|refine thenI_g ?_|refine inB_g ?_|refine IWP_goto ?_|refine Loop_n ?_|fail)
  exact pD [] ⟨rfl, rfl⟩
theorem index_sl (L : List It) (id : Int) (cap : Nat) (hL : L.length ≤ 1000000000) : Idl.Spec Try.prog 59 [.sl 0 0 L.length cap 3, .fn (.func 60) [] [.ptr 1 0]] [.arr false (items L), .box [.i64 id]] (Only (.i64 (placeI L id)) [.arr false (items L), .box [.i64 id]]) := by
  refine sB Try.func59 Try.ntmps59 ?_
  repeat' (first|refine IOps_nil ?_|refine oS ?_|refine IOps_s rfl rfl ?_|refine oT ?_|refine IOps_s0 rfl ?_|refine oC (π:=[1]) (hs:=by first|exact place1_spec _ _|fail) (hx:=?_)|refine oC0 (π:=[1]) (hs:=by first|exact place1_spec _ _|fail) (hx:=?_)|refine oZ ?_|refine oI ?_|refine thenI_n ?_|refine IWP_seq ?_|refine IWP_region ?_|refine IWP_ct rfl ?_|refine IWP_cf rfl ?_|refine IWP_skip ?_|refine IWP_ret ?_|refine IWP_block ?_|refine inB_n ?_|refine thenI_r ?_|refine thenI_e ?_|refine inB_r ?_|refine inB_hit ?_|refine inB_miss rfl ?_|refine IWP_exit ?_|refine IWP_scope ?_|refine IWP_label ?_|refine noG_n ?_|refine noG_r ?_|refine noG_e ?_|refine jmp_n ?_|refine jmp_r ?_|refine jmp_e ?_|refine jmp_g ?_|refine thenI_g ?_|refine inB_g ?_|refine IWP_goto ?_|refine Loop_n ?_|fail)
  refine IWP_loop (fun i : Nat => ⟨19, [(0, .sl 0 0 L.length cap 3), (1, .fn (.func 60) [] [.ptr 1 0]), (6, .sl 0 0 L.length cap 3), (7, .i64 L.length), (8, .i64 i)], [.arr false (items L), .box [.i64 id]]⟩) (fun i => i ≤ L.length ∧ ∀ j, j < i → (gd L j).id ≠ id) (fun i => L.length - i) 0 (lP [0, 1]) ⟨Nat.zero_le _, fun j h => by omega⟩ ?_
  rintro i ⟨hi, hn⟩
  by_cases h : i < L.length
  · by_cases he : (gd L i).id = id
    · rw [placeI_hit h he hn]
      repeat' (first|refine IOps_nil ?_|refine oS ?_|refine IOps_s rfl rfl ?_|refine oT ?_|refine IOps_s0 rfl ?_|refine oC (π:=[1]) (hs:=by first|exact place1_spec _ _|fail) (hx:=?_)|refine oC0 (π:=[1]) (hs:=by first|exact place1_spec _ _|fail) (hx:=?_)|refine oZ ?_|refine oI ?_|refine thenI_n ?_|refine IWP_seq ?_|refine IWP_region ?_|refine IWP_ct rfl ?_|refine IWP_cf rfl ?_|refine IWP_skip ?_|refine IWP_ret ?_|refine IWP_block ?_|refine inB_n ?_|refine thenI_r ?_|refine thenI_e ?_|refine inB_r ?_|refine inB_hit ?_|refine inB_miss rfl ?_|refine IWP_exit ?_|refine IWP_scope ?_|refine IWP_label ?_|refine noG_n ?_|refine noG_r ?_|refine noG_e ?_|refine jmp_n ?_|refine jmp_r ?_|refine jmp_e ?_|refine jmp_g ?_|refine thenI_g ?_|refine inB_g ?_|refine IWP_goto ?_|refine Loop_n ?_|fail)
      exact pD [0, 1] ⟨rfl, rfl⟩
    · repeat' (first|refine IOps_nil ?_|refine oS ?_|refine IOps_s rfl rfl ?_|refine oT ?_|refine IOps_s0 rfl ?_|refine oC (π:=[1]) (hs:=by first|exact place1_spec _ _|fail) (hx:=?_)|refine oC0 (π:=[1]) (hs:=by first|exact place1_spec _ _|fail) (hx:=?_)|refine oZ ?_|refine oI ?_|refine thenI_n ?_|refine IWP_seq ?_|refine IWP_region ?_|refine IWP_ct rfl ?_|refine IWP_cf rfl ?_|refine IWP_skip ?_|refine IWP_ret ?_|refine IWP_block ?_|refine inB_n ?_|refine thenI_r ?_|refine thenI_e ?_|refine inB_r ?_|refine inB_hit ?_|refine inB_miss rfl ?_|refine IWP_exit ?_|refine IWP_scope ?_|refine IWP_label ?_|refine noG_n ?_|refine noG_r ?_|refine noG_e ?_|refine jmp_n ?_|refine jmp_r ?_|refine jmp_e ?_|refine jmp_g ?_|refine thenI_g ?_|refine inB_g ?_|refine IWP_goto ?_|refine Loop_n ?_|fail)
      exact ⟨i + 1, ⟨h, fun j hj => by
        by_cases e : j = i
        · subst e; exact he
        · exact hn j (by omega)⟩, by omega, lP [0, 1]⟩
  · rw [placeI_miss fun j hj => hn j (by omega)]
    repeat' (first|refine IOps_nil ?_|refine oS ?_|refine IOps_s rfl rfl ?_|refine oT ?_|refine IOps_s0 rfl ?_|refine oC (π:=[1]) (hs:=by first|exact place1_spec _ _|fail) (hx:=?_)|refine oC0 (π:=[1]) (hs:=by first|exact place1_spec _ _|fail) (hx:=?_)|refine oZ ?_|refine oI ?_|refine thenI_n ?_|refine IWP_seq ?_|refine IWP_region ?_|refine IWP_ct rfl ?_|refine IWP_cf rfl ?_|refine IWP_skip ?_|refine IWP_ret ?_|refine IWP_block ?_|refine inB_n ?_|refine thenI_r ?_|refine thenI_e ?_|refine inB_r ?_|refine inB_hit ?_|refine inB_miss rfl ?_|refine IWP_exit ?_|refine IWP_scope ?_|refine IWP_label ?_|refine noG_n ?_|refine noG_r ?_|refine noG_e ?_|refine jmp_n ?_|refine jmp_r ?_|refine jmp_e ?_|refine jmp_g ?_|refine thenI_g ?_|refine inB_g ?_|refine IWP_goto ?_|refine Loop_n ?_|fail)
    exact pD [0, 1] ⟨rfl, rfl⟩
theorem place_sl (L : List It) (id : Int) (cap : Nat) (hL : L.length ≤ 1000000000) : Idl.Spec Try.prog 41 [.sl 0 0 L.length cap 3, .i64 id] [.arr false (items L)] (Only (.i64 (placeI L id)) [.arr false (items L)]) := by
  refine sB Try.func41 Try.ntmps41 ?_
  repeat' (first|refine IOps_nil ?_|refine oS ?_|refine IOps_s rfl rfl ?_|refine oT ?_|refine IOps_s0 rfl ?_|refine oC (π:=[0, 1]) (hs:=by first|exact index_sl _ _ cap hL|fail) (hx:=?_)|refine oC0 (π:=[0, 1]) (hs:=by first|exact index_sl _ _ cap hL|fail) (hx:=?_)|refine oZ ?_|refine oI ?_|refine thenI_n ?_|refine IWP_seq ?_|refine IWP_region ?_|refine IWP_ct rfl ?_|refine IWP_cf rfl ?_|refine IWP_skip ?_|refine IWP_ret ?_|refine IWP_block ?_|refine inB_n ?_|refine thenI_r ?_|refine thenI_e ?_|refine inB_r ?_|refine inB_hit ?_|refine inB_miss rfl ?_|refine IWP_exit ?_|refine IWP_scope ?_|refine IWP_label ?_|refine noG_n ?_|refine noG_r ?_|refine noG_e ?_|refine jmp_n ?_|refine jmp_r ?_|refine jmp_e ?_|refine jmp_g ?_|refine thenI_g ?_|refine inB_g ?_|refine IWP_goto ?_|refine Loop_n ?_|fail)
  exact pD [0] ⟨rfl, rfl⟩
attribute [local go_sem] splice
theorem seen_step {L : List It} {S : List Bool} {i : Nat} (hS : S.length = 64) (h1 : 0 ≤ (gd L i).id) (h2 : (gd L i).id < 64)
    (hseen : ∀ v : Nat, v < 64 → (S.getD v false = true ↔ ∃ k, k < i ∧ (gd L k).id = v)) : ∀ v : Nat, v < 64 → ((S.set (gd L i).id.toNat true).getD v false = true ↔ ∃ k, k < i + 1 ∧ (gd L k).id = v) := fun v hv => by
  have hu : (gd L i).id.toNat < S.length := by omega
  rw [List.getD_eq_getElem?_getD, List.getElem?_set]
  by_cases e : (gd L i).id.toNat = v
  · rw [if_pos e, if_pos hu]
    simp only [Option.getD_some, true_iff]
    exact ⟨i, by omega, by omega⟩
  · rw [if_neg e, ← List.getD_eq_getElem?_getD, hseen v hv]
    constructor
    · rintro ⟨k, k1, k2⟩; exact ⟨k, by omega, k2⟩
    · rintro ⟨k, k1, k2⟩
      refine ⟨k, ?_, k2⟩
      rcases Nat.lt_succ_iff_lt_or_eq.1 k1 with h | rfl
      · exact h
      · exact absurd (by omega) e
theorem check_spec (L : List It) (hL : L.length ≤ 1000000000) : Idl.Spec Try.prog 19 [.fz false (items L) L.length] [] (Only (.sc (.bool (chk L))) []) := by
  by_cases h64 : L.length ≤ 64
  · refine sB Try.func19 Try.ntmps19 ?_
    repeat' (first|refine IOps_nil ?_|refine oS ?_|refine IOps_s rfl rfl ?_|refine oT ?_|refine IOps_s0 rfl ?_|refine oZ ?_|refine oI ?_|refine thenI_n ?_|refine IWP_seq ?_|refine IWP_region ?_|refine IWP_ct rfl ?_|refine IWP_cf rfl ?_|refine IWP_skip ?_|refine IWP_ret ?_|refine IWP_block ?_|refine inB_n ?_|refine thenI_r ?_|refine thenI_e ?_|refine inB_r ?_|refine inB_hit ?_|refine inB_miss rfl ?_|refine IWP_exit ?_|refine IWP_scope ?_|refine IWP_label ?_|refine noG_n ?_|refine noG_r ?_|refine noG_e ?_|refine jmp_n ?_|refine jmp_r ?_|refine jmp_e ?_|refine jmp_g ?_|refine thenI_g ?_|refine inB_g ?_|refine IWP_goto ?_|refine Loop_n ?_|refine oD (id:=10) W19_10 [] O19_10 [_,_,_,_,_,_,_,_,_,_,_] [_] rfl (by repeat' (first|exact trivial|refine And.intro ?_ ?_|exact bS|exact bX|exact bZ|exact bI|fail)) ?_|fail)
    refine IWP_loop (fun x : List Bool × Nat => ⟨41, [(3, .ptr 0 0), (9, .fz false (items L) L.length), (10, .i64 L.length), (11, .i64 x.2), (0, .fz false (items L) L.length), (2, .sc (.bool false))], [.box (bools x.1)]⟩)
      (fun x => x.1.length = 64 ∧ x.2 ≤ L.length ∧ (∀ i, i < x.2 → okAt L i) ∧ ∀ v : Nat, v < 64 → (x.1.getD v false = true ↔ ∃ k, k < x.2 ∧ (gd L k).id = v)) (fun x => L.length - x.2) (List.replicate 64 false, 0) (lP [0]) ⟨by simp, by simp, fun i h => by simp at h, fun v h => by simp only [List.getD_eq_getElem?_getD, List.getElem?_replicate, h, if_true]; simp⟩ ?_
    rintro ⟨S, i⟩ ⟨hS, hi, hok, hseen⟩
    simp only at hS hi hok hseen ⊢
    by_cases hi2 : i < L.length
    · by_cases hn : 0 ≤ (gd L i).id ∧ (gd L i).id < 64
      · obtain ⟨hn1, hn2⟩ := hn
        have hm1 : 0 ≤ (L.getD i default).id := hn1
        have hm2 : (L.getD i default).id < 64 := hn2
        have hsv := hseen (gd L i).id.toNat (by omega)
        have hnm := named_spec (gd L i).id
        rw [decide_eq_true ⟨hn1, hn2⟩] at hnm
        repeat' (first|refine IOps_nil ?_|refine oS ?_|refine IOps_s rfl rfl ?_|refine oT ?_|refine IOps_s0 rfl ?_|refine oC (π:=[]) (hs:=by first|exact hnm|fail) (hx:=?_)|refine oC (π:=[]) (hs:=by first|exact parent_spec _ (by omega)|fail) (hx:=?_)|refine oC (π:=[]) (hs:=by first|exact less_spec _ _|fail) (hx:=?_)|refine oZ ?_|refine oI ?_|refine thenI_n ?_|refine IWP_seq ?_|refine IWP_region ?_|refine IWP_ct rfl ?_|refine IWP_cf rfl ?_|refine IWP_skip ?_|refine IWP_ret ?_|refine IWP_block ?_|refine inB_n ?_|refine thenI_r ?_|refine thenI_e ?_|refine inB_r ?_|refine inB_hit ?_|refine inB_miss rfl ?_|refine IWP_exit ?_|refine IWP_scope ?_|refine IWP_label ?_|refine noG_n ?_|refine noG_r ?_|refine noG_e ?_|refine jmp_n ?_|refine jmp_r ?_|refine jmp_e ?_|refine jmp_g ?_|refine thenI_g ?_|refine inB_g ?_|refine IWP_goto ?_|refine Loop_n ?_|refine oD (id:=10) W19_10 [] O19_10 [_,_,_,_,_,_,_,_,_,_,_] [_] rfl (by repeat' (first|exact trivial|refine And.intro ?_ ?_|exact bS|exact bX|exact bZ|exact bI|exact bC (π:=[]) (hs:=by first|exact hnm|fail)|exact bC (π:=[]) (hs:=by first|exact parent_spec _ (by omega)|fail)|exact bC (π:=[]) (hs:=by first|exact less_spec _ _|fail)|fail)) ?_|fail)
        rcases Bool.eq_false_or_eq_true (S.getD (L.getD i default).id.toNat false) with hs | hs <;> rw [hs]
        · obtain ⟨q, q1, q2⟩ := hsv.1 hs
          have e : chk L = false := decide_eq_false fun h => (h.2 i hi2).2.1 q q1 (by omega)
          rw [e]
          repeat' (first|refine IOps_nil ?_|refine oS ?_|refine IOps_s rfl rfl ?_|refine oT ?_|refine IOps_s0 rfl ?_|refine oC (π:=[]) (hs:=by first|exact hnm|fail) (hx:=?_)|refine oZ ?_|refine oI ?_|refine thenI_n ?_|refine IWP_seq ?_|refine IWP_region ?_|refine IWP_ct rfl ?_|refine IWP_cf rfl ?_|refine IWP_skip ?_|refine IWP_ret ?_|refine IWP_block ?_|refine inB_n ?_|refine thenI_r ?_|refine thenI_e ?_|refine inB_r ?_|refine inB_hit ?_|refine inB_miss rfl ?_|refine IWP_exit ?_|refine IWP_scope ?_|refine IWP_label ?_|refine noG_n ?_|refine noG_r ?_|refine noG_e ?_|refine jmp_n ?_|refine jmp_r ?_|refine jmp_e ?_|refine jmp_g ?_|refine thenI_g ?_|refine inB_g ?_|refine IWP_goto ?_|refine Loop_n ?_|refine oD (id:=10) W19_10 [] O19_10 [_,_,_,_,_,_,_,_,_,_,_] [_] rfl (by repeat' (first|exact trivial|refine And.intro ?_ ?_|exact bS|exact bX|exact bZ|exact bI|exact bC (π:=[]) (hs:=by first|exact hnm|fail)|fail)) ?_|fail)
          exact pD [] ⟨rfl, rfl⟩
        have hns : ∀ q, q < i → (gd L q).id ≠ (gd L i).id := fun q h1 h2 => by
          exact Bool.noConfusion ((hsv.2 ⟨q, h1, by omega⟩).symm.trans hs)
        by_cases h0 : 0 < i
        · cases hs2 : lessI (gd L i) (gd L ((i - 1) / 4))
          · have hl := less_spec (gd L i) (gd L ((i - 1) / 4))
            rw [hs2] at hl
            have hnew : okAt L i := ⟨⟨hn1, hn2⟩, hns, fun h => by rw [hs2] at h; cases h.2⟩
            repeat' (first|refine IOps_nil ?_|refine oS ?_|refine IOps_s rfl rfl ?_|refine oT ?_|refine IOps_s0 rfl ?_|refine oC (π:=[]) (hs:=by first|exact hnm|fail) (hx:=?_)|refine oC (π:=[]) (hs:=by first|exact parent_spec _ (by omega)|fail) (hx:=?_)|refine oC (π:=[]) (hs:=by first|exact hl|fail) (hx:=?_)|refine oZ ?_|refine oI ?_|refine thenI_n ?_|refine IWP_seq ?_|refine IWP_region ?_|refine IWP_ct rfl ?_|refine IWP_cf rfl ?_|refine IWP_skip ?_|refine IWP_ret ?_|refine IWP_block ?_|refine inB_n ?_|refine thenI_r ?_|refine thenI_e ?_|refine inB_r ?_|refine inB_hit ?_|refine inB_miss rfl ?_|refine IWP_exit ?_|refine IWP_scope ?_|refine IWP_label ?_|refine noG_n ?_|refine noG_r ?_|refine noG_e ?_|refine jmp_n ?_|refine jmp_r ?_|refine jmp_e ?_|refine jmp_g ?_|refine thenI_g ?_|refine inB_g ?_|refine IWP_goto ?_|refine Loop_n ?_|refine oD (id:=10) W19_10 [] O19_10 [_,_,_,_,_,_,_,_,_,_,_] [_] rfl (by repeat' (first|exact trivial|refine And.intro ?_ ?_|exact bS|exact bX|exact bZ|exact bI|exact bC (π:=[]) (hs:=by first|exact hnm|fail)|exact bC (π:=[]) (hs:=by first|exact parent_spec _ (by omega)|fail)|exact bC (π:=[]) (hs:=by first|exact hl|fail)|fail)) ?_|fail)
            exact ⟨(S.set (L.getD i default).id.toNat true, i + 1), ⟨by simp only [List.length_set]; exact hS, hi2, fun j hj => by
              rcases Nat.lt_succ_iff_lt_or_eq.1 hj with h | rfl
              · exact hok j h
              · exact hnew, seen_step hS hn1 hn2 hseen⟩, by simp only; omega, lP [0] (h3 := by show [HO.box (IV.renL _ (bools _))] = _; rw [cl_ren])⟩
          · have hl := less_spec (gd L i) (gd L ((i - 1) / 4))
            rw [hs2] at hl
            have e : chk L = false := decide_eq_false fun h => (h.2 i hi2).2.2 ⟨h0, hs2⟩
            rw [e]
            repeat' (first|refine IOps_nil ?_|refine oS ?_|refine IOps_s rfl rfl ?_|refine oT ?_|refine IOps_s0 rfl ?_|refine oC (π:=[]) (hs:=by first|exact hnm|fail) (hx:=?_)|refine oC (π:=[]) (hs:=by first|exact parent_spec _ (by omega)|fail) (hx:=?_)|refine oC (π:=[]) (hs:=by first|exact hl|fail) (hx:=?_)|refine oZ ?_|refine oI ?_|refine thenI_n ?_|refine IWP_seq ?_|refine IWP_region ?_|refine IWP_ct rfl ?_|refine IWP_cf rfl ?_|refine IWP_skip ?_|refine IWP_ret ?_|refine IWP_block ?_|refine inB_n ?_|refine thenI_r ?_|refine thenI_e ?_|refine inB_r ?_|refine inB_hit ?_|refine inB_miss rfl ?_|refine IWP_exit ?_|refine IWP_scope ?_|refine IWP_label ?_|refine noG_n ?_|refine noG_r ?_|refine noG_e ?_|refine jmp_n ?_|refine jmp_r ?_|refine jmp_e ?_|refine jmp_g ?_|refine thenI_g ?_|refine inB_g ?_|refine IWP_goto ?_|refine Loop_n ?_|refine oD (id:=10) W19_10 [] O19_10 [_,_,_,_,_,_,_,_,_,_,_] [_] rfl (by repeat' (first|exact trivial|refine And.intro ?_ ?_|exact bS|exact bX|exact bZ|exact bI|exact bC (π:=[]) (hs:=by first|exact hnm|fail)|exact bC (π:=[]) (hs:=by first|exact parent_spec _ (by omega)|fail)|exact bC (π:=[]) (hs:=by first|exact hl|fail)|fail)) ?_|fail)
            exact pD [] ⟨rfl, rfl⟩
        · have hnew : okAt L i := ⟨⟨hn1, hn2⟩, hns, fun h => absurd h.1 h0⟩
          repeat' (first|refine IOps_nil ?_|refine oS ?_|refine IOps_s rfl rfl ?_|refine oT ?_|refine IOps_s0 rfl ?_|refine oC (π:=[]) (hs:=by first|exact hnm|fail) (hx:=?_)|refine oC (π:=[]) (hs:=by first|exact parent_spec _ (by omega)|fail) (hx:=?_)|refine oZ ?_|refine oI ?_|refine thenI_n ?_|refine IWP_seq ?_|refine IWP_region ?_|refine IWP_ct rfl ?_|refine IWP_cf rfl ?_|refine IWP_skip ?_|refine IWP_ret ?_|refine IWP_block ?_|refine inB_n ?_|refine thenI_r ?_|refine thenI_e ?_|refine inB_r ?_|refine inB_hit ?_|refine inB_miss rfl ?_|refine IWP_exit ?_|refine IWP_scope ?_|refine IWP_label ?_|refine noG_n ?_|refine noG_r ?_|refine noG_e ?_|refine jmp_n ?_|refine jmp_r ?_|refine jmp_e ?_|refine jmp_g ?_|refine thenI_g ?_|refine inB_g ?_|refine IWP_goto ?_|refine Loop_n ?_|refine oD (id:=10) W19_10 [] O19_10 [_,_,_,_,_,_,_,_,_,_,_] [_] rfl (by repeat' (first|exact trivial|refine And.intro ?_ ?_|exact bS|exact bX|exact bZ|exact bI|exact bC (π:=[]) (hs:=by first|exact hnm|fail)|exact bC (π:=[]) (hs:=by first|exact parent_spec _ (by omega)|fail)|fail)) ?_|fail)
          exact ⟨(S.set (L.getD i default).id.toNat true, i + 1), ⟨by simp only [List.length_set]; exact hS, hi2, fun j hj => by
            rcases Nat.lt_succ_iff_lt_or_eq.1 hj with h | rfl
            · exact hok j h
            · exact hnew, seen_step hS hn1 hn2 hseen⟩, by simp only; omega, lP [0] (h3 := by show [HO.box (IV.renL _ (bools _))] = _; rw [cl_ren])⟩
      · have e : chk L = false := decide_eq_false fun h => hn (h.2 i hi2).1
        have hnm := named_spec (gd L i).id
        rw [decide_eq_false hn] at hnm
        rw [e]
        repeat' (first|refine IOps_nil ?_|refine oS ?_|refine IOps_s rfl rfl ?_|refine oT ?_|refine IOps_s0 rfl ?_|refine oC (π:=[]) (hs:=by first|exact hnm|fail) (hx:=?_)|refine oZ ?_|refine oI ?_|refine thenI_n ?_|refine IWP_seq ?_|refine IWP_region ?_|refine IWP_ct rfl ?_|refine IWP_cf rfl ?_|refine IWP_skip ?_|refine IWP_ret ?_|refine IWP_block ?_|refine inB_n ?_|refine thenI_r ?_|refine thenI_e ?_|refine inB_r ?_|refine inB_hit ?_|refine inB_miss rfl ?_|refine IWP_exit ?_|refine IWP_scope ?_|refine IWP_label ?_|refine noG_n ?_|refine noG_r ?_|refine noG_e ?_|refine jmp_n ?_|refine jmp_r ?_|refine jmp_e ?_|refine jmp_g ?_|refine thenI_g ?_|refine inB_g ?_|refine IWP_goto ?_|refine Loop_n ?_|refine oD (id:=10) W19_10 [] O19_10 [_,_,_,_,_,_,_,_,_,_,_] [_] rfl (by repeat' (first|exact trivial|refine And.intro ?_ ?_|exact bS|exact bX|exact bZ|exact bI|exact bC (π:=[]) (hs:=by first|exact hnm|fail)|fail)) ?_|fail)
        exact pD [] ⟨rfl, rfl⟩
    · have e : chk L = true := decide_eq_true ⟨h64, fun j hj => hok j (by omega)⟩
      rw [e]
      repeat' (first|refine IOps_nil ?_|refine oS ?_|refine IOps_s rfl rfl ?_|refine oT ?_|refine IOps_s0 rfl ?_|refine oZ ?_|refine oI ?_|refine thenI_n ?_|refine IWP_seq ?_|refine IWP_region ?_|refine IWP_ct rfl ?_|refine IWP_cf rfl ?_|refine IWP_skip ?_|refine IWP_ret ?_|refine IWP_block ?_|refine inB_n ?_|refine thenI_r ?_|refine thenI_e ?_|refine inB_r ?_|refine inB_hit ?_|refine inB_miss rfl ?_|refine IWP_exit ?_|refine IWP_scope ?_|refine IWP_label ?_|refine noG_n ?_|refine noG_r ?_|refine noG_e ?_|refine jmp_n ?_|refine jmp_r ?_|refine jmp_e ?_|refine jmp_g ?_|refine thenI_g ?_|refine inB_g ?_|refine IWP_goto ?_|refine Loop_n ?_|refine oD (id:=10) W19_10 [] O19_10 [_,_,_,_,_,_,_,_,_,_,_] [_] rfl (by repeat' (first|exact trivial|refine And.intro ?_ ?_|exact bS|exact bX|exact bZ|exact bI|fail)) ?_|fail)
      exact pD [] ⟨rfl, rfl⟩
  · have e : chk L = false := decide_eq_false fun h => h64 h.1
    rw [e]
    refine sB Try.func19 Try.ntmps19 ?_
    repeat' (first|refine IOps_nil ?_|refine oS ?_|refine IOps_s rfl rfl ?_|refine oT ?_|refine IOps_s0 rfl ?_|refine oZ ?_|refine oI ?_|refine thenI_n ?_|refine IWP_seq ?_|refine IWP_region ?_|refine IWP_ct rfl ?_|refine IWP_cf rfl ?_|refine IWP_skip ?_|refine IWP_ret ?_|refine IWP_block ?_|refine inB_n ?_|refine thenI_r ?_|refine thenI_e ?_|refine inB_r ?_|refine inB_hit ?_|refine inB_miss rfl ?_|refine IWP_exit ?_|refine IWP_scope ?_|refine IWP_label ?_|refine noG_n ?_|refine noG_r ?_|refine noG_e ?_|refine jmp_n ?_|refine jmp_r ?_|refine jmp_e ?_|refine jmp_g ?_|refine thenI_g ?_|refine inB_g ?_|refine IWP_goto ?_|refine Loop_n ?_|refine oD (id:=10) W19_10 [] O19_10 [_,_,_,_,_,_,_,_,_,_,_] [_] rfl (by repeat' (first|exact trivial|refine And.intro ?_ ?_|exact bS|exact bX|exact bZ|exact bI|fail)) ?_|fail)
    exact pD [] ⟨rfl, rfl⟩
end Go.Proofs.Ytnlelckfhlcbgaa

namespace Go.Proofs.Ytnlelckfhlcbgaa
open Go Go.Idl
set_option linter.unusedSimpArgs false
set_option linter.unusedVariables false
set_option maxRecDepth 100000
set_option maxHeartbeats 1000000
attribute [local irreducible] Go.Idl.IWP Go.Idl.IOps Go.Idl.Obl Go.Idl.OpG Go.Idl.thenI Go.Idl.inBlockI Go.Idl.LoopU Go.Idl.noGotoI Go.Idl.jumpI
attribute [local go_sem] List.length_set
/-- All stand ahead of none of their parents. -/
def par (i : Nat) : Nat := (i - 1) / 4
def H4 (n : Nat) (L : List It) : Prop := ∀ i, 0 < i → i < n → lessI (gd L i) (gd L (par i)) = false
/-- All but those next to k. -/
def N4 (n k : Nat) (L : List It) : Prop := (∀ i, 0 < i → i < n → i ≠ k → par i ≠ k → lessI (gd L i) (gd L (par i)) = false) ∧ ∀ i, 0 < i → i < n → par i = k → 0 < k → lessI (gd L i) (gd L (par k)) = false
/-- All but k below its parent. -/
def U4 (n k : Nat) (L : List It) : Prop := (∀ i, 0 < i → i < n → i ≠ k → lessI (gd L i) (gd L (par i)) = false) ∧ ∀ i, 0 < i → i < n → par i = k → 0 < k → lessI (gd L i) (gd L (par k)) = false
/-- All but k's children below k. -/
def D4 (n k : Nat) (L : List It) : Prop := (∀ i, 0 < i → i < n → par i ≠ k → lessI (gd L i) (gd L (par i)) = false) ∧ ∀ i, 0 < i → i < n → par i = k → 0 < k → lessI (gd L i) (gd L (par k)) = false
theorem par_lt {k : Nat} (h : 0 < k) : par k < k := by unfold par; omega
theorem lessI_back {x y z : It} (h : lessI x y = true) (k : lessI z y = false) : lessI z x = false := by
  cases e : lessI z x
  · rfl
  · rw [lessI_lt e h] at k; cases k
theorem H4.down {n k : Nat} {L : List It} (hk : k < n) (h : H4 n L) : D4 n k L :=
  ⟨fun i h1 h2 _ => h i h1 h2, fun i h1 h2 h3 h4 => lessI_trans (h3 ▸ h i h1 h2) (h k h4 hk)⟩
theorem U4.done {n k : Nat} {L : List It} (h : U4 n k L) (hs : 0 < k → lessI (gd L k) (gd L (par k)) = false) : H4 n L := fun i h1 h2 => by
  by_cases e : i = k
  · subst e; exact hs h1
  · exact h.1 i h1 h2 e
theorem N4.down {n k : Nat} {L : List It} (h : N4 n k L) (hs : 0 < k → lessI (gd L k) (gd L (par k)) = false) : D4 n k L := ⟨fun i h1 h2 h3 => by
  by_cases e : i = k
  · subst e; exact hs h1
  · exact h.1 i h1 h2 e h3, h.2⟩
theorem U4.near {n k : Nat} {L : List It} (h : U4 n k L) : N4 n k L := ⟨fun i h1 h2 h3 _ => h.1 i h1 h2 h3, h.2⟩
/-- A step up. -/
theorem N4.up {n k : Nat} {L : List It} (h : N4 n k L) (hk : 0 < k) (hl : k < n) (hn : n ≤ L.length) (hs : lessI (gd L k) (gd L (par k)) = true) : U4 n (par k) (sw L k (par k)) := by
  have hp := par_lt hk
  have g : ∀ j, gd (sw L k (par k)) j = if j = par k then gd L k else if j = k then gd L (par k) else gd L j := fun j => gd_sw (by omega) (by omega)
  have hpp : ∀ i, 0 < i → par i < i := fun i => par_lt
  refine ⟨fun i h1 h2 h3 => ?_, fun i h1 h2 h3 h4 => ?_⟩
  · rw [g i, g (par i), if_neg h3]
    by_cases e : i = k
    · subst e
      rw [if_pos rfl, if_pos rfl]
      exact lessI_asym hs
    · rw [if_neg e]
      by_cases e2 : par i = par k
      · rw [if_pos e2]
        have := h.1 i h1 h2 e (by omega)
        rw [e2] at this
        exact lessI_back hs this
      · rw [if_neg e2]
        by_cases e3 : par i = k
        · rw [if_pos e3]; exact h.2 i h1 h2 e3 hk
        · rw [if_neg e3]; exact h.1 i h1 h2 e e3
  · have := hpp i h1; have hq := hpp _ h4
    have n1 : i ≠ par k := by rintro rfl; omega
    have m1 : par (par k) ≠ par k := by omega
    have m2 : par (par k) ≠ k := by omega
    rw [g i, if_neg n1, g (par (par k)), if_neg m1, if_neg m2]
    have hgp : lessI (gd L (par k)) (gd L (par (par k))) = false := h.1 (par k) h4 (by omega) (by omega) (by omega)
    by_cases e : i = k
    · rw [if_pos e]; exact hgp
    · rw [if_neg e]
      have := h.1 i h1 h2 e (by omega)
      rw [h3] at this
      exact lessI_trans this hgp
/-- A step down. -/
theorem D4.step {n k b : Nat} {L : List It} (h : D4 n k L) (hb0 : 0 < b) (hb : b < n) (hn : n ≤ L.length) (hbk : par b = k) (hs : lessI (gd L b) (gd L k) = true)
    (hm : ∀ i, 0 < i → i < n → par i = k → lessI (gd L i) (gd L b) = false) : D4 n b (sw L k b) := by
  have hp := par_lt hb0
  have hpp : ∀ i, 0 < i → par i < i := fun i => par_lt
  have g : ∀ j, gd (sw L k b) j = if j = b then gd L k else if j = k then gd L b else gd L j := fun j => gd_sw (by omega) (by omega)
  refine ⟨fun i h1 h2 h3 => ?_, fun i h1 h2 h3 h4 => ?_⟩
  · have := hpp i h1
    rw [g i, g (par i), if_neg h3]
    by_cases e : i = b
    · subst e
      rw [if_pos rfl, if_pos hbk]
      exact lessI_asym hs
    · rw [if_neg e]
      by_cases e2 : par i = k
      · rw [if_pos e2, if_neg (by omega)]
        exact hm i h1 h2 e2
      · rw [if_neg e2]
        by_cases e3 : i = k
        · subst e3
          rw [if_pos rfl]
          exact h.2 b hb0 hb hbk h1
        · rw [if_neg e3]; exact h.1 i h1 h2 e2
  · have := hpp i h1
    rw [g i, g (par b), if_neg (by omega), if_neg (by omega), if_neg (by omega), if_pos hbk]
    have := h.1 i h1 h2 (by omega)
    rwa [h3] at this
theorem D4.done {n k : Nat} {L : List It} (h : D4 n k L) (hm : ∀ i, 0 < i → i < n → par i = k → lessI (gd L i) (gd L k) = false) : H4 n L := fun i h1 h2 => by
  by_cases e : par i = k
  · rw [e]; exact hm i h1 h2 e
  · exact h.1 i h1 h2 e
theorem sw_out {L : List It} {i j k : Nat} (hi : i < L.length) (hj : j < L.length) (h1 : k ≠ i) (h2 : k ≠ j) : gd (sw L i j) k = gd L k := by
  rw [gd_sw hi hj, if_neg h2, if_neg h1]
theorem rise_spec (L : List It) (n k cap : Nat) (hk : k < n) (hn : n ≤ L.length) (hL : L.length ≤ 1000) (hN : N4 n k L) : Idl.Spec Try.prog 63 [.sl 0 0 n cap 3, .i64 k] [.arr false (items L)]
    (Ex (fun M : List It => (M.Perm L ∧ ∀ i, n ≤ i → gd M i = gd L i) ∧ D4 n k M) (fun _ => .tup []) (fun M => [.arr false (items M)])) := by
  refine sE Try.func63 Try.ntmps63 ?_
  refine IWP_jumps 0 rfl (fun x : List It × Nat => ⟨35, [(0, .sl 0 0 n cap 3), (1, .i64 x.2)], [.arr false (items x.1)]⟩) (fun x => x.1.length = L.length ∧ (x.1.Perm L ∧ ∀ i, n ≤ i → gd x.1 i = gd L i) ∧ x.2 < n ∧ U4 n x.2 x.1) (fun x => x.2) ?_ ?_
  · by_cases h0 : 0 < k
    · have hp := par_lt h0
      by_cases hs : lessI (gd L k) (gd L ((k - 1) / 4)) = true
      · have hl := less_spec (gd L k) (gd L ((k - 1) / 4))
        rw [hs] at hl
        repeat' (first|refine IOps_nil ?_|refine oS ?_|refine IOps_s rfl rfl ?_|refine oT ?_|refine IOps_s0 rfl ?_|refine oC (π:=[]) (hs:=by first|exact parent_spec _ (by omega)|fail) (hx:=?_)|refine oC (π:=[]) (hs:=by first|exact hl|fail) (hx:=?_)|refine oZ ?_|refine oI ?_|refine thenI_n ?_|refine IWP_seq ?_|refine IWP_region ?_|refine IWP_ct rfl ?_|refine IWP_cf rfl ?_|refine IWP_skip ?_|refine IWP_ret ?_|refine IWP_block ?_|refine inB_n ?_|refine thenI_r ?_|refine thenI_e ?_|refine inB_r ?_|refine inB_hit ?_|refine inB_miss rfl ?_|refine IWP_exit ?_|refine IWP_scope ?_|refine IWP_label ?_|refine noG_n ?_|refine noG_r ?_|refine noG_e ?_|refine jmp_n ?_|refine jmp_r ?_|refine jmp_e ?_|refine jmp_g ?_|refine thenI_g ?_|refine inB_g ?_|refine IWP_goto ?_|refine Loop_n ?_|refine oD (id:=1) W63_1 [] O63_1 [_,_,_,_,_,_,_,_,_,_,_,_,_] [_] rfl (by repeat' (first|exact trivial|refine And.intro ?_ ?_|exact bS|exact bX|exact bZ|exact bI|exact bC (π:=[]) (hs:=by first|exact parent_spec _ (by omega)|fail)|exact bC (π:=[]) (hs:=by first|exact hl|fail)|fail)) ?_|refine oD (id:=2) W63_2 [13, 15] O63_2 [_,_,_,_,_,_,_,_,_,_,_,_,_,_,_,_] [_,_,_] rfl (by repeat' (first|exact trivial|refine And.intro ?_ ?_|exact bS|exact bX|exact bZ|exact bI|exact bC (π:=[]) (hs:=by first|exact parent_spec _ (by omega)|fail)|exact bC (π:=[]) (hs:=by first|exact hl|fail)|fail)) ?_|fail)
        exact ⟨(sw L k (par k), par k), ⟨sw_length _ _ _, ⟨sw_perm (by omega) (by omega), fun i hi => sw_out (by omega) (by omega) (by omega) (by omega)⟩, by simp only; omega, hN.up h0 hk hn hs⟩, lP [0]⟩
      · replace hs : lessI (gd L k) (gd L ((k - 1) / 4)) = false := by simpa using hs
        have hl := less_spec (gd L k) (gd L ((k - 1) / 4))
        rw [hs] at hl
        repeat' (first|refine IOps_nil ?_|refine oS ?_|refine IOps_s rfl rfl ?_|refine oT ?_|refine IOps_s0 rfl ?_|refine oC (π:=[]) (hs:=by first|exact parent_spec _ (by omega)|fail) (hx:=?_)|refine oC (π:=[]) (hs:=by first|exact hl|fail) (hx:=?_)|refine oZ ?_|refine oI ?_|refine thenI_n ?_|refine IWP_seq ?_|refine IWP_region ?_|refine IWP_ct rfl ?_|refine IWP_cf rfl ?_|refine IWP_skip ?_|refine IWP_ret ?_|refine IWP_block ?_|refine inB_n ?_|refine thenI_r ?_|refine thenI_e ?_|refine inB_r ?_|refine inB_hit ?_|refine inB_miss rfl ?_|refine IWP_exit ?_|refine IWP_scope ?_|refine IWP_label ?_|refine noG_n ?_|refine noG_r ?_|refine noG_e ?_|refine jmp_n ?_|refine jmp_r ?_|refine jmp_e ?_|refine jmp_g ?_|refine thenI_g ?_|refine inB_g ?_|refine IWP_goto ?_|refine Loop_n ?_|refine oD (id:=1) W63_1 [] O63_1 [_,_,_,_,_,_,_,_,_,_,_,_,_] [_] rfl (by repeat' (first|exact trivial|refine And.intro ?_ ?_|exact bS|exact bX|exact bZ|exact bI|exact bC (π:=[]) (hs:=by first|exact parent_spec _ (by omega)|fail)|exact bC (π:=[]) (hs:=by first|exact hl|fail)|fail)) ?_|refine oD (id:=2) W63_2 [13, 15] O63_2 [_,_,_,_,_,_,_,_,_,_,_,_,_,_,_,_] [_,_,_] rfl (by repeat' (first|exact trivial|refine And.intro ?_ ?_|exact bS|exact bX|exact bZ|exact bI|exact bC (π:=[]) (hs:=by first|exact parent_spec _ (by omega)|fail)|exact bC (π:=[]) (hs:=by first|exact hl|fail)|fail)) ?_|fail)
        exact pX [0] L ⟨⟨.refl _, fun _ _ => rfl⟩, hN.down fun _ => hs⟩ rfl
    · repeat' (first|refine IOps_nil ?_|refine oS ?_|refine IOps_s rfl rfl ?_|refine oT ?_|refine IOps_s0 rfl ?_|refine oC (π:=[]) (hs:=by first|exact parent_spec _ (by omega)|fail) (hx:=?_)|refine oZ ?_|refine oI ?_|refine thenI_n ?_|refine IWP_seq ?_|refine IWP_region ?_|refine IWP_ct rfl ?_|refine IWP_cf rfl ?_|refine IWP_skip ?_|refine IWP_ret ?_|refine IWP_block ?_|refine inB_n ?_|refine thenI_r ?_|refine thenI_e ?_|refine inB_r ?_|refine inB_hit ?_|refine inB_miss rfl ?_|refine IWP_exit ?_|refine IWP_scope ?_|refine IWP_label ?_|refine noG_n ?_|refine noG_r ?_|refine noG_e ?_|refine jmp_n ?_|refine jmp_r ?_|refine jmp_e ?_|refine jmp_g ?_|refine thenI_g ?_|refine inB_g ?_|refine IWP_goto ?_|refine Loop_n ?_|refine oD (id:=1) W63_1 [] O63_1 [_,_,_,_,_,_,_,_,_,_,_,_,_] [_] rfl (by repeat' (first|exact trivial|refine And.intro ?_ ?_|exact bS|exact bX|exact bZ|exact bI|exact bC (π:=[]) (hs:=by first|exact parent_spec _ (by omega)|fail)|fail)) ?_|refine oD (id:=2) W63_2 [13, 15] O63_2 [_,_,_,_,_,_,_,_,_,_,_,_,_,_,_,_] [_,_,_] rfl (by repeat' (first|exact trivial|refine And.intro ?_ ?_|exact bS|exact bX|exact bZ|exact bI|exact bC (π:=[]) (hs:=by first|exact parent_spec _ (by omega)|fail)|fail)) ?_|fail)
      exact pX [0] L ⟨⟨.refl _, fun _ _ => rfl⟩, hN.down fun h => absurd h h0⟩ rfl
  · rintro ⟨M, j⟩ ⟨hlen, hM, hj, hU⟩
    simp only at hlen hM hj hU ⊢
    by_cases h0 : 0 < j
    · have hp := par_lt h0
      by_cases hs : lessI (gd M j) (gd M ((j - 1) / 4)) = true
      · have hl := less_spec (gd M j) (gd M ((j - 1) / 4))
        rw [hs] at hl
        repeat' (first|refine IOps_nil ?_|refine oS ?_|refine IOps_s rfl rfl ?_|refine oT ?_|refine IOps_s0 rfl ?_|refine oC (π:=[]) (hs:=by first|exact parent_spec _ (by omega)|fail) (hx:=?_)|refine oC (π:=[]) (hs:=by first|exact hl|fail) (hx:=?_)|refine oZ ?_|refine oI ?_|refine thenI_n ?_|refine IWP_seq ?_|refine IWP_region ?_|refine IWP_ct rfl ?_|refine IWP_cf rfl ?_|refine IWP_skip ?_|refine IWP_ret ?_|refine IWP_block ?_|refine inB_n ?_|refine thenI_r ?_|refine thenI_e ?_|refine inB_r ?_|refine inB_hit ?_|refine inB_miss rfl ?_|refine IWP_exit ?_|refine IWP_scope ?_|refine IWP_label ?_|refine noG_n ?_|refine noG_r ?_|refine noG_e ?_|refine jmp_n ?_|refine jmp_r ?_|refine jmp_e ?_|refine jmp_g ?_|refine thenI_g ?_|refine inB_g ?_|refine IWP_goto ?_|refine Loop_n ?_|refine oD (id:=1) W63_1 [] O63_1 [_,_,_,_,_,_,_,_,_,_,_,_,_] [_] rfl (by repeat' (first|exact trivial|refine And.intro ?_ ?_|exact bS|exact bX|exact bZ|exact bI|exact bC (π:=[]) (hs:=by first|exact parent_spec _ (by omega)|fail)|exact bC (π:=[]) (hs:=by first|exact hl|fail)|fail)) ?_|refine oD (id:=2) W63_2 [13, 15] O63_2 [_,_,_,_,_,_,_,_,_,_,_,_,_,_,_,_] [_,_,_] rfl (by repeat' (first|exact trivial|refine And.intro ?_ ?_|exact bS|exact bX|exact bZ|exact bI|exact bC (π:=[]) (hs:=by first|exact parent_spec _ (by omega)|fail)|exact bC (π:=[]) (hs:=by first|exact hl|fail)|fail)) ?_|fail)
        exact ⟨(sw M j (par j), par j), ⟨(sw_length _ _ _).trans hlen, ⟨(sw_perm (by omega) (by omega)).trans hM.1, fun i hi => (sw_out (by omega) (by omega) (by omega) (by omega)).trans (hM.2 i hi)⟩, by simp only; omega, hU.near.up h0 (by omega) (by omega) hs⟩, hp, lP [0]⟩
      · replace hs : lessI (gd M j) (gd M ((j - 1) / 4)) = false := by simpa using hs
        have hl := less_spec (gd M j) (gd M ((j - 1) / 4))
        rw [hs] at hl
        repeat' (first|refine IOps_nil ?_|refine oS ?_|refine IOps_s rfl rfl ?_|refine oT ?_|refine IOps_s0 rfl ?_|refine oC (π:=[]) (hs:=by first|exact parent_spec _ (by omega)|fail) (hx:=?_)|refine oC (π:=[]) (hs:=by first|exact hl|fail) (hx:=?_)|refine oZ ?_|refine oI ?_|refine thenI_n ?_|refine IWP_seq ?_|refine IWP_region ?_|refine IWP_ct rfl ?_|refine IWP_cf rfl ?_|refine IWP_skip ?_|refine IWP_ret ?_|refine IWP_block ?_|refine inB_n ?_|refine thenI_r ?_|refine thenI_e ?_|refine inB_r ?_|refine inB_hit ?_|refine inB_miss rfl ?_|refine IWP_exit ?_|refine IWP_scope ?_|refine IWP_label ?_|refine noG_n ?_|refine noG_r ?_|refine noG_e ?_|refine jmp_n ?_|refine jmp_r ?_|refine jmp_e ?_|refine jmp_g ?_|refine thenI_g ?_|refine inB_g ?_|refine IWP_goto ?_|refine Loop_n ?_|refine oD (id:=1) W63_1 [] O63_1 [_,_,_,_,_,_,_,_,_,_,_,_,_] [_] rfl (by repeat' (first|exact trivial|refine And.intro ?_ ?_|exact bS|exact bX|exact bZ|exact bI|exact bC (π:=[]) (hs:=by first|exact parent_spec _ (by omega)|fail)|exact bC (π:=[]) (hs:=by first|exact hl|fail)|fail)) ?_|refine oD (id:=2) W63_2 [13, 15] O63_2 [_,_,_,_,_,_,_,_,_,_,_,_,_,_,_,_] [_,_,_] rfl (by repeat' (first|exact trivial|refine And.intro ?_ ?_|exact bS|exact bX|exact bZ|exact bI|exact bC (π:=[]) (hs:=by first|exact parent_spec _ (by omega)|fail)|exact bC (π:=[]) (hs:=by first|exact hl|fail)|fail)) ?_|fail)
        exact pX [0] M ⟨hM, H4.down (by omega) (hU.done fun _ => hs)⟩ rfl
    · repeat' (first|refine IOps_nil ?_|refine oS ?_|refine IOps_s rfl rfl ?_|refine oT ?_|refine IOps_s0 rfl ?_|refine oC (π:=[]) (hs:=by first|exact parent_spec _ (by omega)|fail) (hx:=?_)|refine oZ ?_|refine oI ?_|refine thenI_n ?_|refine IWP_seq ?_|refine IWP_region ?_|refine IWP_ct rfl ?_|refine IWP_cf rfl ?_|refine IWP_skip ?_|refine IWP_ret ?_|refine IWP_block ?_|refine inB_n ?_|refine thenI_r ?_|refine thenI_e ?_|refine inB_r ?_|refine inB_hit ?_|refine inB_miss rfl ?_|refine IWP_exit ?_|refine IWP_scope ?_|refine IWP_label ?_|refine noG_n ?_|refine noG_r ?_|refine noG_e ?_|refine jmp_n ?_|refine jmp_r ?_|refine jmp_e ?_|refine jmp_g ?_|refine thenI_g ?_|refine inB_g ?_|refine IWP_goto ?_|refine Loop_n ?_|refine oD (id:=1) W63_1 [] O63_1 [_,_,_,_,_,_,_,_,_,_,_,_,_] [_] rfl (by repeat' (first|exact trivial|refine And.intro ?_ ?_|exact bS|exact bX|exact bZ|exact bI|exact bC (π:=[]) (hs:=by first|exact parent_spec _ (by omega)|fail)|fail)) ?_|refine oD (id:=2) W63_2 [13, 15] O63_2 [_,_,_,_,_,_,_,_,_,_,_,_,_,_,_,_] [_,_,_] rfl (by repeat' (first|exact trivial|refine And.intro ?_ ?_|exact bS|exact bX|exact bZ|exact bI|exact bC (π:=[]) (hs:=by first|exact parent_spec _ (by omega)|fail)|fail)) ?_|fail)
      exact pX [0] M ⟨hM, H4.down (by omega) (hU.done fun h => absurd h h0)⟩ rfl
theorem sink_spec (L : List It) (n k cap : Nat) (hk : k < n) (hn : n ≤ L.length) (hL : L.length ≤ 1000) (hN : D4 n k L) : Idl.Spec Try.prog 64 [.sl 0 0 n cap 3, .i64 k] [.arr false (items L)]
    (Ex (fun M : List It => (M.Perm L ∧ ∀ i, n ≤ i → gd M i = gd L i) ∧ H4 n M) (fun _ => .tup []) (fun M => [.arr false (items M)])) := by
  refine sE Try.func64 Try.ntmps64 ?_
  repeat' (first|refine IOps_nil ?_|refine oS ?_|refine IOps_s rfl rfl ?_|refine oT ?_|refine IOps_s0 rfl ?_|refine oC (π:=[]) (hs:=by first|exact less_spec _ _|fail) (hx:=?_)|refine oZ ?_|refine oI ?_|refine thenI_n ?_|refine IWP_seq ?_|refine IWP_region ?_|refine IWP_ct rfl ?_|refine IWP_cf rfl ?_|refine IWP_skip ?_|refine IWP_ret ?_|refine IWP_block ?_|refine inB_n ?_|refine thenI_r ?_|refine thenI_e ?_|refine inB_r ?_|refine inB_hit ?_|refine inB_miss rfl ?_|refine IWP_exit ?_|refine IWP_scope ?_|refine IWP_label ?_|refine noG_n ?_|refine noG_r ?_|refine noG_e ?_|refine jmp_n ?_|refine jmp_r ?_|refine jmp_e ?_|refine jmp_g ?_|refine thenI_g ?_|refine inB_g ?_|refine IWP_goto ?_|refine Loop_n ?_|refine oD (id:=4) W64_4 [] O64_4 [_,_,_,_,_,_,_,_,_] [_] rfl (by repeat' (first|exact trivial|refine And.intro ?_ ?_|exact bS|exact bX|exact bZ|exact bI|exact bC (π:=[]) (hs:=by first|exact less_spec _ _|fail)|fail)) ?_|refine oD (id:=7) W64_7 [13, 15] O64_7 [_,_,_,_,_,_,_,_,_,_,_,_,_,_,_,_] [_,_,_] rfl (by repeat' (first|exact trivial|refine And.intro ?_ ?_|exact bS|exact bX|exact bZ|exact bI|exact bC (π:=[]) (hs:=by first|exact less_spec _ _|fail)|fail)) ?_|fail)
  refine IWP_loop (fun x : List It × Nat => ⟨51, [(0, .sl 0 0 n cap 3), (1, .i64 x.2)], [.arr false (items x.1)]⟩) (fun x => x.1.length = L.length ∧ (x.1.Perm L ∧ ∀ i, n ≤ i → gd x.1 i = gd L i) ∧ x.2 < n ∧ D4 n x.2 x.1) (fun x => n - x.2) (L, k) (lP [0]) ⟨rfl, ⟨.refl _, fun _ _ => rfl⟩, hk, hN⟩ ?_
  rintro ⟨M, j⟩ ⟨hlen, hM, hj, hD⟩
  simp only at hlen hM hj hD ⊢
  repeat' (first|refine IOps_nil ?_|refine oS ?_|refine IOps_s rfl rfl ?_|refine oT ?_|refine IOps_s0 rfl ?_|refine oC (π:=[]) (hs:=by first|exact less_spec _ _|fail) (hx:=?_)|refine oZ ?_|refine oI ?_|refine thenI_n ?_|refine IWP_seq ?_|refine IWP_region ?_|refine IWP_ct rfl ?_|refine IWP_cf rfl ?_|refine IWP_skip ?_|refine IWP_ret ?_|refine IWP_block ?_|refine inB_n ?_|refine thenI_r ?_|refine thenI_e ?_|refine inB_r ?_|refine inB_hit ?_|refine inB_miss rfl ?_|refine IWP_exit ?_|refine IWP_scope ?_|refine IWP_label ?_|refine noG_n ?_|refine noG_r ?_|refine noG_e ?_|refine jmp_n ?_|refine jmp_r ?_|refine jmp_e ?_|refine jmp_g ?_|refine thenI_g ?_|refine inB_g ?_|refine IWP_goto ?_|refine Loop_n ?_|refine oD (id:=4) W64_4 [] O64_4 [_,_,_,_,_,_,_,_,_] [_] rfl (by repeat' (first|exact trivial|refine And.intro ?_ ?_|exact bS|exact bX|exact bZ|exact bI|exact bC (π:=[]) (hs:=by first|exact less_spec _ _|fail)|fail)) ?_|refine oD (id:=7) W64_7 [13, 15] O64_7 [_,_,_,_,_,_,_,_,_,_,_,_,_,_,_,_] [_,_,_] rfl (by repeat' (first|exact trivial|refine And.intro ?_ ?_|exact bS|exact bX|exact bZ|exact bI|exact bC (π:=[]) (hs:=by first|exact less_spec _ _|fail)|fail)) ?_|fail)
  refine IWP_loop (fun x : Nat × Nat => ⟨51, [(0, .sl 0 0 n cap 3), (1, .i64 j), (4, .i64 x.1), (5, .i64 x.2)], [.arr false (items M)]⟩)
    (fun x => (x.1 = j ∨ (par x.1 = j ∧ 0 < x.1 ∧ lessI (gd M x.1) (gd M j) = true)) ∧ x.1 < n ∧ 4 * j + 1 ≤ x.2 ∧ x.2 ≤ 4 * j + 5 ∧ ∀ i, (i = j ∨ (4 * j + 1 ≤ i ∧ i < x.2)) → lessI (gd M i) (gd M x.1) = false) (fun x => 4 * j + 5 - x.2) (j, 4 * j + 1) (lP [0])
    ⟨.inl rfl, hj, by simp, by simp, fun i h => by obtain rfl | h := h; exact lessI_irr _; exact absurd h.2 (by simp only; omega)⟩ ?_
  rintro ⟨b, q⟩ ⟨hb, hbl, hq1, hq2, hb2⟩
  simp only at hb hbl hq1 hq2 hb2 ⊢
  have fin : (4 * j + 4 < q ∨ n ≤ q) → ∀ i, 0 < i → i < n → par i = j → lessI (gd M i) (gd M b) = false := fun h i h1 h2 h3 => hb2 i (.inr (by unfold par at h3; omega))
  have stop : (4 * j + 4 < q ∨ n ≤ q) → b = j → H4 n M := fun h e => hD.done fun i h1 h2 h3 => e ▸ fin h i h1 h2 h3
  have go : (4 * j + 4 < q ∨ n ≤ q) → b ≠ j → j < b ∧ D4 n b (sw M j b) := fun h e => by
    obtain ⟨h1, h2, h3⟩ := hb.resolve_left e
    have hlt := par_lt h2
    exact ⟨by omega, hD.step h2 (by omega) (by omega) h1 h3 (fin h)⟩
  by_cases hk1 : q ≤ 4 * j + 4
  · by_cases hk2 : q < n
    · by_cases hs : lessI (gd M q) (gd M b) = true
      · have hl := less_spec (gd M q) (gd M b)
        rw [hs] at hl
        repeat' (first|refine IOps_nil ?_|refine oS ?_|refine IOps_s rfl rfl ?_|refine oT ?_|refine IOps_s0 rfl ?_|refine oC (π:=[]) (hs:=by first|exact hl|fail) (hx:=?_)|refine oZ ?_|refine oI ?_|refine thenI_n ?_|refine IWP_seq ?_|refine IWP_region ?_|refine IWP_ct rfl ?_|refine IWP_cf rfl ?_|refine IWP_skip ?_|refine IWP_ret ?_|refine IWP_block ?_|refine inB_n ?_|refine thenI_r ?_|refine thenI_e ?_|refine inB_r ?_|refine inB_hit ?_|refine inB_miss rfl ?_|refine IWP_exit ?_|refine IWP_scope ?_|refine IWP_label ?_|refine noG_n ?_|refine noG_r ?_|refine noG_e ?_|refine jmp_n ?_|refine jmp_r ?_|refine jmp_e ?_|refine jmp_g ?_|refine thenI_g ?_|refine inB_g ?_|refine IWP_goto ?_|refine Loop_n ?_|refine oD (id:=4) W64_4 [] O64_4 [_,_,_,_,_,_,_,_,_] [_] rfl (by repeat' (first|exact trivial|refine And.intro ?_ ?_|exact bS|exact bX|exact bZ|exact bI|exact bC (π:=[]) (hs:=by first|exact hl|fail)|fail)) ?_|refine oD (id:=7) W64_7 [13, 15] O64_7 [_,_,_,_,_,_,_,_,_,_,_,_,_,_,_,_] [_,_,_] rfl (by repeat' (first|exact trivial|refine And.intro ?_ ?_|exact bS|exact bX|exact bZ|exact bI|exact bC (π:=[]) (hs:=by first|exact hl|fail)|fail)) ?_|fail)
        exact ⟨(q, q + 1), ⟨.inr ⟨by unfold par; simp only; omega, by simp only; omega, by obtain h | h := hb; exact h ▸ hs; exact lessI_lt hs h.2.2⟩, by simp only; omega, by simp only; omega, by simp only; omega, fun i h => by
          simp only at h ⊢
          by_cases e : i = q
          · subst e; exact lessI_irr _
          · exact lessI_trans (hb2 i (by omega)) (lessI_asym hs)⟩, by simp only; omega, lP [0]⟩
      · replace hs : lessI (gd M q) (gd M b) = false := by simpa using hs
        have hl := less_spec (gd M q) (gd M b)
        rw [hs] at hl
        repeat' (first|refine IOps_nil ?_|refine oS ?_|refine IOps_s rfl rfl ?_|refine oT ?_|refine IOps_s0 rfl ?_|refine oC (π:=[]) (hs:=by first|exact hl|fail) (hx:=?_)|refine oZ ?_|refine oI ?_|refine thenI_n ?_|refine IWP_seq ?_|refine IWP_region ?_|refine IWP_ct rfl ?_|refine IWP_cf rfl ?_|refine IWP_skip ?_|refine IWP_ret ?_|refine IWP_block ?_|refine inB_n ?_|refine thenI_r ?_|refine thenI_e ?_|refine inB_r ?_|refine inB_hit ?_|refine inB_miss rfl ?_|refine IWP_exit ?_|refine IWP_scope ?_|refine IWP_label ?_|refine noG_n ?_|refine noG_r ?_|refine noG_e ?_|refine jmp_n ?_|refine jmp_r ?_|refine jmp_e ?_|refine jmp_g ?_|refine thenI_g ?_|refine inB_g ?_|refine IWP_goto ?_|refine Loop_n ?_|refine oD (id:=4) W64_4 [] O64_4 [_,_,_,_,_,_,_,_,_] [_] rfl (by repeat' (first|exact trivial|refine And.intro ?_ ?_|exact bS|exact bX|exact bZ|exact bI|exact bC (π:=[]) (hs:=by first|exact hl|fail)|fail)) ?_|refine oD (id:=7) W64_7 [13, 15] O64_7 [_,_,_,_,_,_,_,_,_,_,_,_,_,_,_,_] [_,_,_] rfl (by repeat' (first|exact trivial|refine And.intro ?_ ?_|exact bS|exact bX|exact bZ|exact bI|exact bC (π:=[]) (hs:=by first|exact hl|fail)|fail)) ?_|fail)
        exact ⟨(b, q + 1), ⟨hb, hbl, by simp only; omega, by simp only; omega, fun i h => by
          simp only at h ⊢
          by_cases e : i = q
          · subst e; exact hs
          · exact hb2 i (by omega)⟩, by simp only; omega, lP [0]⟩
    · by_cases e : b = j
      · repeat' (first|refine IOps_nil ?_|refine oS ?_|refine IOps_s rfl rfl ?_|refine oT ?_|refine IOps_s0 rfl ?_|refine oC (π:=[]) (hs:=by first|exact less_spec _ _|fail) (hx:=?_)|refine oZ ?_|refine oI ?_|refine thenI_n ?_|refine IWP_seq ?_|refine IWP_region ?_|refine IWP_ct rfl ?_|refine IWP_cf rfl ?_|refine IWP_skip ?_|refine IWP_ret ?_|refine IWP_block ?_|refine inB_n ?_|refine thenI_r ?_|refine thenI_e ?_|refine inB_r ?_|refine inB_hit ?_|refine inB_miss rfl ?_|refine IWP_exit ?_|refine IWP_scope ?_|refine IWP_label ?_|refine noG_n ?_|refine noG_r ?_|refine noG_e ?_|refine jmp_n ?_|refine jmp_r ?_|refine jmp_e ?_|refine jmp_g ?_|refine thenI_g ?_|refine inB_g ?_|refine IWP_goto ?_|refine Loop_n ?_|refine oD (id:=4) W64_4 [] O64_4 [_,_,_,_,_,_,_,_,_] [_] rfl (by repeat' (first|exact trivial|refine And.intro ?_ ?_|exact bS|exact bX|exact bZ|exact bI|exact bC (π:=[]) (hs:=by first|exact less_spec _ _|fail)|fail)) ?_|refine oD (id:=7) W64_7 [13, 15] O64_7 [_,_,_,_,_,_,_,_,_,_,_,_,_,_,_,_] [_,_,_] rfl (by repeat' (first|exact trivial|refine And.intro ?_ ?_|exact bS|exact bX|exact bZ|exact bI|exact bC (π:=[]) (hs:=by first|exact less_spec _ _|fail)|fail)) ?_|fail)
        exact pX [0] M ⟨hM, stop (by omega) e⟩ rfl
      · have hg := go (by omega) e
        repeat' (first|refine IOps_nil ?_|refine oS ?_|refine IOps_s rfl rfl ?_|refine oT ?_|refine IOps_s0 rfl ?_|refine oC (π:=[]) (hs:=by first|exact less_spec _ _|fail) (hx:=?_)|refine oZ ?_|refine oI ?_|refine thenI_n ?_|refine IWP_seq ?_|refine IWP_region ?_|refine IWP_ct rfl ?_|refine IWP_cf rfl ?_|refine IWP_skip ?_|refine IWP_ret ?_|refine IWP_block ?_|refine inB_n ?_|refine thenI_r ?_|refine thenI_e ?_|refine inB_r ?_|refine inB_hit ?_|refine inB_miss rfl ?_|refine IWP_exit ?_|refine IWP_scope ?_|refine IWP_label ?_|refine noG_n ?_|refine noG_r ?_|refine noG_e ?_|refine jmp_n ?_|refine jmp_r ?_|refine jmp_e ?_|refine jmp_g ?_|refine thenI_g ?_|refine inB_g ?_|refine IWP_goto ?_|refine Loop_n ?_|refine oD (id:=4) W64_4 [] O64_4 [_,_,_,_,_,_,_,_,_] [_] rfl (by repeat' (first|exact trivial|refine And.intro ?_ ?_|exact bS|exact bX|exact bZ|exact bI|exact bC (π:=[]) (hs:=by first|exact less_spec _ _|fail)|fail)) ?_|refine oD (id:=7) W64_7 [13, 15] O64_7 [_,_,_,_,_,_,_,_,_,_,_,_,_,_,_,_] [_,_,_] rfl (by repeat' (first|exact trivial|refine And.intro ?_ ?_|exact bS|exact bX|exact bZ|exact bI|exact bC (π:=[]) (hs:=by first|exact less_spec _ _|fail)|fail)) ?_|fail)
        exact ⟨(sw M j b, b), ⟨(sw_length _ _ _).trans hlen, ⟨(sw_perm (by omega) (by omega)).trans hM.1, fun i hi => (sw_out (by omega) (by omega) (by omega) (by omega)).trans (hM.2 i hi)⟩, hbl, hg.2⟩, by simp only; omega, lP [0]⟩
  · by_cases e : b = j
    · repeat' (first|refine IOps_nil ?_|refine oS ?_|refine IOps_s rfl rfl ?_|refine oT ?_|refine IOps_s0 rfl ?_|refine oC (π:=[]) (hs:=by first|exact less_spec _ _|fail) (hx:=?_)|refine oZ ?_|refine oI ?_|refine thenI_n ?_|refine IWP_seq ?_|refine IWP_region ?_|refine IWP_ct rfl ?_|refine IWP_cf rfl ?_|refine IWP_skip ?_|refine IWP_ret ?_|refine IWP_block ?_|refine inB_n ?_|refine thenI_r ?_|refine thenI_e ?_|refine inB_r ?_|refine inB_hit ?_|refine inB_miss rfl ?_|refine IWP_exit ?_|refine IWP_scope ?_|refine IWP_label ?_|refine noG_n ?_|refine noG_r ?_|refine noG_e ?_|refine jmp_n ?_|refine jmp_r ?_|refine jmp_e ?_|refine jmp_g ?_|refine thenI_g ?_|refine inB_g ?_|refine IWP_goto ?_|refine Loop_n ?_|refine oD (id:=4) W64_4 [] O64_4 [_,_,_,_,_,_,_,_,_] [_] rfl (by repeat' (first|exact trivial|refine And.intro ?_ ?_|exact bS|exact bX|exact bZ|exact bI|exact bC (π:=[]) (hs:=by first|exact less_spec _ _|fail)|fail)) ?_|refine oD (id:=7) W64_7 [13, 15] O64_7 [_,_,_,_,_,_,_,_,_,_,_,_,_,_,_,_] [_,_,_] rfl (by repeat' (first|exact trivial|refine And.intro ?_ ?_|exact bS|exact bX|exact bZ|exact bI|exact bC (π:=[]) (hs:=by first|exact less_spec _ _|fail)|fail)) ?_|fail)
      exact pX [0] M ⟨hM, stop (by omega) e⟩ rfl
    · have hg := go (by omega) e
      repeat' (first|refine IOps_nil ?_|refine oS ?_|refine IOps_s rfl rfl ?_|refine oT ?_|refine IOps_s0 rfl ?_|refine oC (π:=[]) (hs:=by first|exact less_spec _ _|fail) (hx:=?_)|refine oZ ?_|refine oI ?_|refine thenI_n ?_|refine IWP_seq ?_|refine IWP_region ?_|refine IWP_ct rfl ?_|refine IWP_cf rfl ?_|refine IWP_skip ?_|refine IWP_ret ?_|refine IWP_block ?_|refine inB_n ?_|refine thenI_r ?_|refine thenI_e ?_|refine inB_r ?_|refine inB_hit ?_|refine inB_miss rfl ?_|refine IWP_exit ?_|refine IWP_scope ?_|refine IWP_label ?_|refine noG_n ?_|refine noG_r ?_|refine noG_e ?_|refine jmp_n ?_|refine jmp_r ?_|refine jmp_e ?_|refine jmp_g ?_|refine thenI_g ?_|refine inB_g ?_|refine IWP_goto ?_|refine Loop_n ?_|refine oD (id:=4) W64_4 [] O64_4 [_,_,_,_,_,_,_,_,_] [_] rfl (by repeat' (first|exact trivial|refine And.intro ?_ ?_|exact bS|exact bX|exact bZ|exact bI|exact bC (π:=[]) (hs:=by first|exact less_spec _ _|fail)|fail)) ?_|refine oD (id:=7) W64_7 [13, 15] O64_7 [_,_,_,_,_,_,_,_,_,_,_,_,_,_,_,_] [_,_,_] rfl (by repeat' (first|exact trivial|refine And.intro ?_ ?_|exact bS|exact bX|exact bZ|exact bI|exact bC (π:=[]) (hs:=by first|exact less_spec _ _|fail)|fail)) ?_|fail)
      exact ⟨(sw M j b, b), ⟨(sw_length _ _ _).trans hlen, ⟨(sw_perm (by omega) (by omega)).trans hM.1, fun i hi => (sw_out (by omega) (by omega) (by omega) (by omega)).trans (hM.2 i hi)⟩, hbl, hg.2⟩, by simp only; omega, lP [0]⟩
end Go.Proofs.Ytnlelckfhlcbgaa

namespace Go.Proofs.Ytnlelckfhlcbgaa
open Go Go.Idl
set_option linter.unusedSimpArgs false
set_option linter.unusedVariables false
set_option maxRecDepth 100000
set_option maxHeartbeats 1000000
attribute [local irreducible] Go.Idl.IWP Go.Idl.IOps Go.Idl.Obl Go.Idl.OpG Go.Idl.thenI Go.Idl.inBlockI Go.Idl.LoopU Go.Idl.noGotoI Go.Idl.jumpI
attribute [local go_sem] List.length_set
theorem settle_spec (L : List It) (n k cap : Nat) (hk : k < n) (hn : n ≤ L.length) (hL : L.length ≤ 1000) (hN : N4 n k L) : Idl.Spec Try.prog 47 [.sl 0 0 n cap 3, .i64 k] [.arr false (items L)]
    (Ex (fun M : List It => (M.Perm L ∧ ∀ i, n ≤ i → gd M i = gd L i) ∧ H4 n M) (fun _ => .tup []) (fun M => [.arr false (items M)])) := by
  refine sE Try.func47 Try.ntmps47 ?_
  repeat' (first|refine IOps_nil ?_|refine oS ?_|refine IOps_s rfl rfl ?_|refine oT ?_|refine IOps_s0 rfl ?_|refine oZ ?_|refine oI ?_|refine thenI_n ?_|refine IWP_seq ?_|refine IWP_region ?_|refine IWP_ct rfl ?_|refine IWP_cf rfl ?_|refine IWP_skip ?_|refine IWP_ret ?_|refine IWP_block ?_|refine inB_n ?_|refine thenI_r ?_|refine thenI_e ?_|refine inB_r ?_|refine inB_hit ?_|refine inB_miss rfl ?_|refine IWP_exit ?_|refine IWP_scope ?_|refine IWP_label ?_|refine noG_n ?_|refine noG_r ?_|refine noG_e ?_|refine jmp_n ?_|refine jmp_r ?_|refine jmp_e ?_|refine jmp_g ?_|refine thenI_g ?_|refine inB_g ?_|refine IWP_goto ?_|refine Loop_n ?_|fail)
  refine IWP_loop (fun x : List It × Nat => ⟨20, [(0, .sl 0 0 n cap 3), (1, .i64 k), (10, .sl 1 0 2 2 1), (11, .i64 2), (12, .i64 x.2)], [.arr false (items x.1), .box [.fn (.func 63) [.sl 0 0 n cap 3] [], .fn (.func 64) [.sl 0 0 n cap 3] []]]⟩)
    (fun x => (x.1.Perm L ∧ ∀ i, n ≤ i → gd x.1 i = gd L i) ∧ ((x.2 = 0 ∧ N4 n k x.1) ∨ (x.2 = 1 ∧ D4 n k x.1) ∨ (x.2 = 2 ∧ H4 n x.1))) (fun x => 2 - x.2) (L, 0) (lP [0, 1]) ⟨⟨.refl _, fun _ _ => rfl⟩, .inl ⟨rfl, hN⟩⟩ ?_
  rintro ⟨M, j⟩ ⟨hM, h⟩
  have hlen : M.length = L.length := hM.1.length_eq
  simp only at hM h ⊢
  rcases h with ⟨rfl, h⟩ | ⟨rfl, h⟩ | ⟨rfl, h⟩
  · repeat' (first|refine IOps_nil ?_|refine oS ?_|refine IOps_s rfl rfl ?_|refine oT ?_|refine IOps_s0 rfl ?_|refine oZ ?_|refine oI ?_|refine thenI_n ?_|refine IWP_seq ?_|refine IWP_region ?_|refine IWP_ct rfl ?_|refine IWP_cf rfl ?_|refine IWP_skip ?_|refine IWP_ret ?_|refine IWP_block ?_|refine inB_n ?_|refine thenI_r ?_|refine thenI_e ?_|refine inB_r ?_|refine inB_hit ?_|refine inB_miss rfl ?_|refine IWP_exit ?_|refine IWP_scope ?_|refine IWP_label ?_|refine noG_n ?_|refine noG_r ?_|refine noG_e ?_|refine jmp_n ?_|refine jmp_r ?_|refine jmp_e ?_|refine jmp_g ?_|refine thenI_g ?_|refine inB_g ?_|refine IWP_goto ?_|refine Loop_n ?_|fail)
    have hsp := rise_spec M n k cap (by omega) (by omega) (by omega) h
    refine oE [0] (hs := hsp) (hx := ?_)
    rintro N ⟨hN, hD⟩
    repeat' (first|refine IOps_nil ?_|refine oS ?_|refine IOps_s rfl rfl ?_|refine oT ?_|refine IOps_s0 rfl ?_|refine oZ ?_|refine oI ?_|refine thenI_n ?_|refine IWP_seq ?_|refine IWP_region ?_|refine IWP_ct rfl ?_|refine IWP_cf rfl ?_|refine IWP_skip ?_|refine IWP_ret ?_|refine IWP_block ?_|refine inB_n ?_|refine thenI_r ?_|refine thenI_e ?_|refine inB_r ?_|refine inB_hit ?_|refine inB_miss rfl ?_|refine IWP_exit ?_|refine IWP_scope ?_|refine IWP_label ?_|refine noG_n ?_|refine noG_r ?_|refine noG_e ?_|refine jmp_n ?_|refine jmp_r ?_|refine jmp_e ?_|refine jmp_g ?_|refine thenI_g ?_|refine inB_g ?_|refine IWP_goto ?_|refine Loop_n ?_|fail)
    exact ⟨(N, 1), ⟨⟨hN.1.trans hM.1, fun i hi => (hN.2 i hi).trans (hM.2 i hi)⟩, .inr (.inl ⟨rfl, hD⟩)⟩, by simp, lP [0, 1]⟩
  · repeat' (first|refine IOps_nil ?_|refine oS ?_|refine IOps_s rfl rfl ?_|refine oT ?_|refine IOps_s0 rfl ?_|refine oZ ?_|refine oI ?_|refine thenI_n ?_|refine IWP_seq ?_|refine IWP_region ?_|refine IWP_ct rfl ?_|refine IWP_cf rfl ?_|refine IWP_skip ?_|refine IWP_ret ?_|refine IWP_block ?_|refine inB_n ?_|refine thenI_r ?_|refine thenI_e ?_|refine inB_r ?_|refine inB_hit ?_|refine inB_miss rfl ?_|refine IWP_exit ?_|refine IWP_scope ?_|refine IWP_label ?_|refine noG_n ?_|refine noG_r ?_|refine noG_e ?_|refine jmp_n ?_|refine jmp_r ?_|refine jmp_e ?_|refine jmp_g ?_|refine thenI_g ?_|refine inB_g ?_|refine IWP_goto ?_|refine Loop_n ?_|fail)
    have hsp := sink_spec M n k cap (by omega) (by omega) (by omega) h
    refine oE [0] (hs := hsp) (hx := ?_)
    rintro N ⟨hN, hD⟩
    repeat' (first|refine IOps_nil ?_|refine oS ?_|refine IOps_s rfl rfl ?_|refine oT ?_|refine IOps_s0 rfl ?_|refine oZ ?_|refine oI ?_|refine thenI_n ?_|refine IWP_seq ?_|refine IWP_region ?_|refine IWP_ct rfl ?_|refine IWP_cf rfl ?_|refine IWP_skip ?_|refine IWP_ret ?_|refine IWP_block ?_|refine inB_n ?_|refine thenI_r ?_|refine thenI_e ?_|refine inB_r ?_|refine inB_hit ?_|refine inB_miss rfl ?_|refine IWP_exit ?_|refine IWP_scope ?_|refine IWP_label ?_|refine noG_n ?_|refine noG_r ?_|refine noG_e ?_|refine jmp_n ?_|refine jmp_r ?_|refine jmp_e ?_|refine jmp_g ?_|refine thenI_g ?_|refine inB_g ?_|refine IWP_goto ?_|refine Loop_n ?_|fail)
    exact ⟨(N, 2), ⟨⟨hN.1.trans hM.1, fun i hi => (hN.2 i hi).trans (hM.2 i hi)⟩, .inr (.inr ⟨rfl, hD⟩)⟩, by simp, lP [0, 1]⟩
  · repeat' (first|refine IOps_nil ?_|refine oS ?_|refine IOps_s rfl rfl ?_|refine oT ?_|refine IOps_s0 rfl ?_|refine oZ ?_|refine oI ?_|refine thenI_n ?_|refine IWP_seq ?_|refine IWP_region ?_|refine IWP_ct rfl ?_|refine IWP_cf rfl ?_|refine IWP_skip ?_|refine IWP_ret ?_|refine IWP_block ?_|refine inB_n ?_|refine thenI_r ?_|refine thenI_e ?_|refine inB_r ?_|refine inB_hit ?_|refine inB_miss rfl ?_|refine IWP_exit ?_|refine IWP_scope ?_|refine IWP_label ?_|refine noG_n ?_|refine noG_r ?_|refine noG_e ?_|refine jmp_n ?_|refine jmp_r ?_|refine jmp_e ?_|refine jmp_g ?_|refine thenI_g ?_|refine inB_g ?_|refine IWP_goto ?_|refine Loop_n ?_|fail)
    exact pX [0] M ⟨hM, h⟩ rfl
end Go.Proofs.Ytnlelckfhlcbgaa

namespace Go.Proofs.Ytnlelckfhlcbgaa
open Go Go.Idl
set_option linter.unusedSimpArgs false
set_option linter.unusedVariables false
set_option maxRecDepth 100000
set_option maxHeartbeats 1000000
attribute [local irreducible] Go.Idl.IWP Go.Idl.IOps Go.Idl.Obl Go.Idl.OpG Go.Idl.thenI Go.Idl.inBlockI Go.Idl.LoopU Go.Idl.noGotoI Go.Idl.jumpI
attribute [local go_sem] List.length_set
/-! ### Plain -/
theorem ec_perm : ∀ {L : List It} {k : Nat} (hk : k < L.length), (L[k] :: L.eraseIdx k).Perm L
  | a :: l, 0, _ => .refl _
  | a :: l, k + 1, hk => by
    have h := ec_perm (L := l) (k := k) (by simpa using hk)
    simp only [List.getElem_cons_succ, List.eraseIdx_cons_succ]
    exact (List.Perm.swap a _ _).trans (h.cons a)
theorem set_ec : ∀ {L : List It} {k : Nat} (hk : k < L.length) (x : It), (L.set k x).Perm (x :: L.eraseIdx k)
  | a :: l, 0, _, x => .refl _
  | a :: l, k + 1, hk, x => by
    have h := set_ec (L := l) (k := k) (by simpa using hk) x
    simp only [List.set_cons_succ, List.eraseIdx_cons_succ]
    exact (h.cons a).trans (List.Perm.swap _ _ _)
theorem nodup_le : ∀ (n : Nat) (l : List Nat), l.Nodup → (∀ x, x ∈ l → x < n) → l.length ≤ n := by
  intro n
  induction n with
  | zero =>
    intro l _ h
    cases l with
    | nil => exact Nat.le_refl _
    | cons a l => exact absurd (h a (by simp)) (Nat.not_lt_zero _)
  | succ n ih =>
    intro l hl h
    have := ih (l.erase n) (hl.erase n) (fun x hx => by
      have h1 := h x (List.mem_of_mem_erase hx)
      have h2 : x ≠ n := by rintro rfl; exact (List.Nodup.not_mem_erase hl) hx
      omega)
    rw [List.length_erase] at this
    split at this <;> omega
/-- Ids that may be, all unlike. -/
def Idn (L : List It) : Prop := (∀ y, y ∈ L → 0 ≤ y.id ∧ y.id < 64) ∧ L.Pairwise fun a b => a.id ≠ b.id
theorem Idn.perm {L M : List It} (h : Idn L) (p : M.Perm L) : Idn M :=
  ⟨fun y hy => h.1 y (p.mem_iff.1 hy), (p.pairwise_iff (fun h => Ne.symm h)).2 h.2⟩
theorem Idn.sub {L M : List It} (h : Idn L) (p : M.Sublist L) : Idn M := ⟨fun y hy => h.1 y (p.subset hy), h.2.sublist p⟩
theorem Idn.len {L : List It} (h : Idn L) : L.length ≤ 64 := by
  have := nodup_le 64 (L.map fun y => y.id.toNat) (by
    unfold List.Nodup
    rw [List.pairwise_map]
    refine h.2.imp_of_mem fun ha hb hab => ?_
    have h1 := h.1 _ ha; have h2 := h.1 _ hb
    omega) (fun x hx => by
    obtain ⟨y, hy, rfl⟩ := List.mem_map.1 hx
    have := h.1 y hy
    omega)
  rwa [List.length_map] at this
theorem gd_mem {L : List It} {i : Nat} (h : i < L.length) : gd L i ∈ L := by rw [gd_eq h]; exact List.getElem_mem h
theorem chk_iff (L : List It) : chk L = true ↔ Idn L ∧ H4 L.length L := by
  unfold chk
  rw [decide_eq_true_iff]
  constructor
  · rintro ⟨h1, h2⟩
    refine ⟨⟨fun y hy => ?_, ?_⟩, fun i h0 hi => ?_⟩
    · obtain ⟨i, hi, rfl⟩ := List.getElem_of_mem hy
      have := (h2 i hi).1
      rwa [gd_eq hi] at this
    · rw [List.pairwise_iff_getElem]
      intro i j hi hj hij
      have := (h2 j hj).2.1 i hij
      rwa [gd_eq hi, gd_eq hj] at this
    · have := (h2 i hi).2.2
      cases e : lessI (gd L i) (gd L (par i))
      · rfl
      · exact absurd ⟨h0, e⟩ this
  · rintro ⟨h, h3⟩
    refine ⟨h.len, fun i hi => ⟨h.1 _ (gd_mem hi), fun k hk => ?_, fun hh => ?_⟩⟩
    · have := (List.pairwise_iff_getElem.1 h.2) k i (by omega) hi hk
      rwa [gd_eq hi, gd_eq (by omega)]
    · have := h3 i hh.1 hi; unfold par at this; rw [this] at hh; cases hh.2
theorem gd_set_ne {L : List It} {i k : Nat} {x : It} (h : i ≠ k) : gd (L.set k x) i = gd L i := by
  simp only [gd, List.getD_eq_getElem?_getD, List.getElem?_set, if_neg (Ne.symm h)]
theorem N4_set {n k : Nat} {L : List It} {x : It} (h : H4 n L) (hk : k < n) : N4 n k (L.set k x) := by
  refine ⟨fun i h0 hi h1 h2 => ?_, fun i h0 hi h1 h2 => ?_⟩
  · rw [gd_set_ne h1, gd_set_ne h2]; exact h i h0 hi
  · have := par_lt h0; have := par_lt h2
    rw [gd_set_ne (by omega), gd_set_ne (by omega)]
    exact lessI_trans (h1 ▸ h i h0 hi) (h k h2 hk)
theorem gd_app {L : List It} {x : It} {i : Nat} (h : i < L.length) : gd (L ++ [x]) i = gd L i := by
  simp only [gd, List.getD_eq_getElem?_getD, List.getElem?_append_left h]
theorem N4_snoc {L : List It} {x : It} (h : H4 L.length L) : N4 (L.length + 1) L.length (L ++ [x]) := by
  refine ⟨fun i h0 hi h1 h2 => ?_, fun i h0 hi h1 h2 => ?_⟩
  · have := par_lt h0
    rw [gd_app (by omega), gd_app (by omega)]; exact h i h0 (by omega)
  · have := par_lt h0; omega
theorem H4.le {m n : Nat} {L : List It} (h : H4 n L) (hm : m ≤ n) : H4 m L := fun i h0 hi => h i h0 (by omega)
theorem H4.take {n : Nat} {L : List It} (h : H4 n L) (hn : n ≤ L.length) : H4 (L.take n).length (L.take n) := fun i h0 hi => by
  have hp := par_lt h0
  have hl : (L.take n).length = n := by rw [List.length_take]; omega
  have e : ∀ j, j < n → gd (L.take n) j = gd L j := fun j hj => by simp only [gd, List.getD_eq_getElem?_getD, List.getElem?_take, if_pos hj]
  rw [e i (by omega), e _ (by omega)]
  exact h i h0 (by omega)
/-- Without an id. -/
def woI (id : Int) (L : List It) : List It := L.filter fun y => decide (y.id ≠ id)
theorem woI_none {L : List It} {id : Int} (h : ∀ j, j < L.length → (gd L j).id ≠ id) : woI id L = L := by
  unfold woI
  rw [List.filter_eq_self]
  intro y hy
  obtain ⟨j, hj, rfl⟩ := List.getElem_of_mem hy
  have := h j hj
  rw [gd_eq hj] at this
  simpa using this
theorem woI_one {L : List It} {id : Int} {k : Nat} (hd : Idn L) (hk : k < L.length) (he : (gd L k).id = id) : (woI id L).Perm (L.eraseIdx k) := by
  have p : (L[k] :: L.eraseIdx k).Perm L := ec_perm hk
  have hd2 := hd.perm p
  have h1 : (woI id L).Perm (woI id (L[k] :: L.eraseIdx k)) := (p.filter _).symm
  refine h1.trans ?_
  rw [gd_eq hk] at he
  have h2 : woI id (L[k] :: L.eraseIdx k) = woI id (L.eraseIdx k) := by unfold woI; rw [List.filter_cons_of_neg (by simp [he])]
  rw [h2]
  have h3 : woI id (L.eraseIdx k) = L.eraseIdx k := by
    unfold woI
    rw [List.filter_eq_self]
    intro y hy
    have := (List.pairwise_cons.1 hd2.2).1 y hy
    rw [he] at this
    simpa using Ne.symm this
  rw [h3]
/-- What stands when one is set. -/
def upI (x : It) (L : List It) : List It := x :: woI x.id L
theorem Idn.up {L : List It} (h : Idn L) {x : It} (hx : 0 ≤ x.id ∧ x.id < 64) : Idn (upI x L) := by
  have hw : Idn (woI x.id L) := h.sub List.filter_sublist
  refine ⟨fun y hy => ?_, List.pairwise_cons.2 ⟨fun y hy => ?_, hw.2⟩⟩
  · rcases List.mem_cons.1 hy with rfl | hy
    · exact hx
    · exact hw.1 y hy
  · have := (List.mem_filter.1 hy).2
    exact fun e => by simp [e] at this
theorem Idn.wo {L : List It} (h : Idn L) (id : Int) : Idn (woI id L) := h.sub List.filter_sublist
theorem up_hit {L M : List It} {x : It} {k : Nat} (hd : Idn L) (hk : k < L.length) (he : (gd L k).id = x.id) (hM : M.Perm (L.set k x)) : M.Perm (upI x L) :=
  hM.trans ((set_ec hk x).trans ((woI_one hd hk he).symm.cons x))
theorem up_miss {L M : List It} {x : It} (hn : ∀ j, j < L.length → (gd L j).id ≠ x.id) (hM : M.Perm (L ++ [x])) : M.Perm (upI x L) := by
  unfold upI
  rw [woI_none hn]
  exact hM.trans (List.perm_append_singleton x L)
theorem take_last {M : List It} {n : Nat} {z : It} (hl : M.length = n + 1) (hz : gd M n = z) : M.Perm (z :: M.take n) := by
  have : M = M.take n ++ [z] := by
    have h := List.take_append_drop n M
    rw [List.drop_eq_getElem_cons (by omega), List.drop_of_length_le (by omega)] at h
    rw [gd_eq (by omega)] at hz
    rw [hz] at h
    exact h.symm
  have h2 : (M.take n ++ [z]).Perm (z :: M.take n) := List.perm_append_singleton z _
  rwa [← this] at h2
theorem wo_drop {L M : List It} {id : Int} {k n : Nat} (hd : Idn L) (hl : L.length = n + 1) (hk : k < n) (he : (gd L k).id = id) (hM : M.Perm (L.set k (gd L n))) (ho : ∀ i, n ≤ i → gd M i = gd (L.set k (gd L n)) i) : (M.take n).Perm (woI id L) := by
  have hml : M.length = n + 1 := by rw [hM.length_eq, List.length_set, hl]
  have h1 := take_last hml (z := gd L n) (by rw [ho n (Nat.le_refl _), gd_set_ne (by omega)])
  have h2 : M.Perm (gd L n :: L.eraseIdx k) := hM.trans (set_ec (by omega) _)
  exact ((List.perm_cons _).1 (h1.symm.trans h2)).trans (woI_one hd (by omega) he).symm
theorem wo_last {L : List It} {id : Int} {n : Nat} (hd : Idn L) (hl : L.length = n + 1) (he : (gd L n).id = id) : (L.take n).Perm (woI id L) := by
  have h1 := take_last hl rfl
  have h2 : (L[n] :: L.eraseIdx n).Perm L := ec_perm (by omega)
  rw [gd_eq (by omega)] at h1
  exact ((List.perm_cons _).1 (h1.symm.trans h2.symm)).trans (woI_one hd (by omega) he).symm
end Go.Proofs.Ytnlelckfhlcbgaa

namespace Go.Proofs.Ytnlelckfhlcbgaa
open Go Go.Idl
set_option linter.unusedSimpArgs false
set_option linter.unusedVariables false
set_option maxRecDepth 100000
set_option maxHeartbeats 1000000
attribute [local irreducible] Go.Idl.IWP Go.Idl.IOps Go.Idl.Obl Go.Idl.OpG Go.Idl.thenI Go.Idl.inBlockI Go.Idl.LoopU Go.Idl.noGotoI Go.Idl.jumpI
attribute [local go_sem] List.length_set
theorem set_c (h : List It) (x : It) (hL : h.length ≤ 64) (hc : chk h = true) (hx : 0 ≤ x.id ∧ x.id < 64) : Idl.Spec Try.prog 25 [.fz false (items h) h.length, .agg [.sc (.int .i64 x.id), .sc (.int .u64 x.pri), .sc (.int .u64 x.seq)]] []
    (Ex (fun M : List It => chk M = true ∧ M.Perm (upI x h)) (fun M => .tup [.fz true (items M) M.length, .i64 0]) (fun _ => [])) := by
  have hcs := check_spec h (by omega)
  rw [hc] at hcs
  have hns := named_spec x.id
  rw [decide_eq_true hx] at hns
  obtain ⟨hd, hH⟩ := (chk_iff h).1 hc
  have hps := place_sl h x.id h.length (by omega)
  by_cases hex : ∃ k, k < h.length ∧ (gd h k).id = x.id
  · obtain ⟨k, hk, he⟩ := hex
    have hpv : placeI h x.id = k := placeI_hit hk he fun j hj hje => (List.pairwise_iff_getElem.1 hd.2) j k (by omega) hk hj (by rw [← gd_eq, ← gd_eq, hje, he])
    rw [hpv] at hps
    refine sE Try.func25 Try.ntmps25 ?_
    repeat' (first|refine IOps_nil ?_|refine oS ?_|refine IOps_s rfl rfl ?_|refine oT ?_|refine IOps_s0 rfl ?_|refine oC (π:=[]) (hs:=by first|exact copied_spec _ (by omega)|fail) (hx:=?_)|refine oC (π:=[]) (hs:=by first|exact hcs|fail) (hx:=?_)|refine oC (π:=[]) (hs:=by first|exact hns|fail) (hx:=?_)|refine oC (π:=[1]) (hs:=by first|exact hps|fail) (hx:=?_)|refine oC0 (π:=[1]) (hs:=by first|exact hps|fail) (hx:=?_)|refine oZ ?_|refine oI ?_|refine thenI_n ?_|refine IWP_seq ?_|refine IWP_region ?_|refine IWP_ct rfl ?_|refine IWP_cf rfl ?_|refine IWP_skip ?_|refine IWP_ret ?_|refine IWP_block ?_|refine inB_n ?_|refine thenI_r ?_|refine thenI_e ?_|refine inB_r ?_|refine inB_hit ?_|refine inB_miss rfl ?_|refine IWP_exit ?_|refine IWP_scope ?_|refine IWP_label ?_|refine noG_n ?_|refine noG_r ?_|refine noG_e ?_|refine jmp_n ?_|refine jmp_r ?_|refine jmp_e ?_|refine jmp_g ?_|refine thenI_g ?_|refine inB_g ?_|refine IWP_goto ?_|refine Loop_n ?_|fail)
    have hL2 : (h.set k x).length = h.length := List.length_set
    have hsp := settle_spec (h.set k x) h.length k h.length hk (by omega) (by omega) (N4_set hH hk)
    refine oE [1] (hs := hsp) (hx := ?_)
    rintro M ⟨⟨hM, -⟩, hM4⟩
    have hlen : M.length = h.length := by rw [hM.length_eq, hL2]
    repeat' (first|refine IOps_nil ?_|refine oS ?_|refine IOps_s rfl rfl ?_|refine oT ?_|refine IOps_s0 rfl ?_|refine oC (π:=[]) (hs:=by first|exact hcs|fail) (hx:=?_)|refine oZ ?_|refine oI ?_|refine thenI_n ?_|refine IWP_seq ?_|refine IWP_region ?_|refine IWP_ct rfl ?_|refine IWP_cf rfl ?_|refine IWP_skip ?_|refine IWP_block ?_|refine inB_n ?_|refine thenI_r ?_|refine thenI_e ?_|refine inB_r ?_|refine inB_hit ?_|refine inB_miss rfl ?_|refine IWP_exit ?_|refine IWP_scope ?_|refine IWP_label ?_|refine noG_n ?_|refine noG_r ?_|refine noG_e ?_|refine jmp_n ?_|refine jmp_r ?_|refine jmp_e ?_|refine jmp_g ?_|refine thenI_g ?_|refine inB_g ?_|refine IWP_goto ?_|refine Loop_n ?_|fail)
    refine wF 4 ?_
    repeat' (first|refine IOps_nil ?_|refine oS ?_|refine IOps_s rfl rfl ?_|refine oT ?_|refine IOps_s0 rfl ?_|refine oC (π:=[]) (hs:=by first|exact hcs|fail) (hx:=?_)|refine oZ ?_|refine oI ?_|refine thenI_n ?_|refine IWP_seq ?_|refine IWP_region ?_|refine IWP_ct rfl ?_|refine IWP_cf rfl ?_|refine IWP_skip ?_|refine IWP_ret ?_|refine IWP_block ?_|refine inB_n ?_|refine thenI_r ?_|refine thenI_e ?_|refine inB_r ?_|refine inB_hit ?_|refine inB_miss rfl ?_|refine IWP_exit ?_|refine IWP_scope ?_|refine IWP_label ?_|refine noG_n ?_|refine noG_r ?_|refine noG_e ?_|refine jmp_n ?_|refine jmp_r ?_|refine jmp_e ?_|refine jmp_g ?_|refine thenI_g ?_|refine inB_g ?_|refine IWP_goto ?_|refine Loop_n ?_|fail)
    exact pX [] M ⟨(chk_iff M).2 ⟨(hd.up hx).perm (up_hit hd hk he hM), hlen ▸ hM4⟩, up_hit hd hk he hM⟩ (congrArg (fun n => IV.tup [.fz true (items M) n, .i64 0]) hlen.symm)
  · have hno : ∀ j, j < h.length → (gd h j).id ≠ x.id := fun j hj he => hex ⟨j, hj, he⟩
    rw [placeI_miss hno] at hps
    refine sE Try.func25 Try.ntmps25 ?_
    repeat' (first|refine IOps_nil ?_|refine oS ?_|refine IOps_s rfl rfl ?_|refine oT ?_|refine IOps_s0 rfl ?_|refine oC (π:=[]) (hs:=by first|exact copied_spec _ (by omega)|fail) (hx:=?_)|refine oC (π:=[]) (hs:=by first|exact hcs|fail) (hx:=?_)|refine oC (π:=[]) (hs:=by first|exact hns|fail) (hx:=?_)|refine oC (π:=[1]) (hs:=by first|exact hps|fail) (hx:=?_)|refine oC0 (π:=[1]) (hs:=by first|exact hps|fail) (hx:=?_)|refine oZ ?_|refine oI ?_|refine thenI_n ?_|refine IWP_seq ?_|refine IWP_region ?_|refine IWP_ct rfl ?_|refine IWP_cf rfl ?_|refine IWP_skip ?_|refine IWP_ret ?_|refine IWP_block ?_|refine inB_n ?_|refine thenI_r ?_|refine thenI_e ?_|refine inB_r ?_|refine inB_hit ?_|refine inB_miss rfl ?_|refine IWP_exit ?_|refine IWP_scope ?_|refine IWP_label ?_|refine noG_n ?_|refine noG_r ?_|refine noG_e ?_|refine jmp_n ?_|refine jmp_r ?_|refine jmp_e ?_|refine jmp_g ?_|refine thenI_g ?_|refine inB_g ?_|refine IWP_goto ?_|refine Loop_n ?_|fail)
    have e : (h ++ [x]).set h.length x = h ++ [x] := by simp
    have hL2 : ((h ++ [x]).set h.length x).length = h.length + 1 := by simp
    have hsp := settle_spec ((h ++ [x]).set h.length x) (h.length + 1) h.length (h.length + 1) (by omega) (by omega) (by omega) (e.symm ▸ N4_snoc hH)
    refine oE [3] (hs := hsp) (hx := ?_)
    rintro M ⟨⟨hM, -⟩, hM4⟩
    have hlen : M.length = h.length + 1 := by rw [hM.length_eq, hL2]
    rw [e] at hM
    repeat' (first|refine IOps_nil ?_|refine oS ?_|refine IOps_s rfl rfl ?_|refine oT ?_|refine IOps_s0 rfl ?_|refine oC (π:=[]) (hs:=by first|exact hcs|fail) (hx:=?_)|refine oZ ?_|refine oI ?_|refine thenI_n ?_|refine IWP_seq ?_|refine IWP_region ?_|refine IWP_ct rfl ?_|refine IWP_cf rfl ?_|refine IWP_skip ?_|refine IWP_block ?_|refine inB_n ?_|refine thenI_r ?_|refine thenI_e ?_|refine inB_r ?_|refine inB_hit ?_|refine inB_miss rfl ?_|refine IWP_exit ?_|refine IWP_scope ?_|refine IWP_label ?_|refine noG_n ?_|refine noG_r ?_|refine noG_e ?_|refine jmp_n ?_|refine jmp_r ?_|refine jmp_e ?_|refine jmp_g ?_|refine thenI_g ?_|refine inB_g ?_|refine IWP_goto ?_|refine Loop_n ?_|fail)
    refine wF 4 ?_
    repeat' (first|refine IOps_nil ?_|refine oS ?_|refine IOps_s rfl rfl ?_|refine oT ?_|refine IOps_s0 rfl ?_|refine oC (π:=[]) (hs:=by first|exact hcs|fail) (hx:=?_)|refine oZ ?_|refine oI ?_|refine thenI_n ?_|refine IWP_seq ?_|refine IWP_region ?_|refine IWP_ct rfl ?_|refine IWP_cf rfl ?_|refine IWP_skip ?_|refine IWP_ret ?_|refine IWP_block ?_|refine inB_n ?_|refine thenI_r ?_|refine thenI_e ?_|refine inB_r ?_|refine inB_hit ?_|refine inB_miss rfl ?_|refine IWP_exit ?_|refine IWP_scope ?_|refine IWP_label ?_|refine noG_n ?_|refine noG_r ?_|refine noG_e ?_|refine jmp_n ?_|refine jmp_r ?_|refine jmp_e ?_|refine jmp_g ?_|refine thenI_g ?_|refine inB_g ?_|refine IWP_goto ?_|refine Loop_n ?_|fail)
    exact pX [] M ⟨(chk_iff M).2 ⟨(hd.up hx).perm (up_miss hno hM), hlen ▸ hM4⟩, up_miss hno hM⟩ (congrArg (fun n => IV.tup [.fz true (items M) n, .i64 0]) hlen.symm)
end Go.Proofs.Ytnlelckfhlcbgaa

namespace Go.Proofs.Ytnlelckfhlcbgaa
open Go Go.Idl
set_option linter.unusedSimpArgs false
set_option linter.unusedVariables false
set_option maxRecDepth 100000
set_option maxHeartbeats 1000000
attribute [local irreducible] Go.Idl.IWP Go.Idl.IOps Go.Idl.Obl Go.Idl.OpG Go.Idl.thenI Go.Idl.inBlockI Go.Idl.LoopU Go.Idl.noGotoI Go.Idl.jumpI
attribute [local go_sem] List.length_set
abbrev itV (x : It) : IV := .agg [.sc (.int .i64 x.id), .sc (.int .u64 x.pri), .sc (.int .u64 x.seq)]
def findV (L : List It) (id : Int) : It × Bool := if placeI L id < 0 then (default, false) else (gd L (placeI L id).toNat, true)
theorem findV_hit {L : List It} {id : Int} {i : Nat} (h : i < L.length) (he : (gd L i).id = id) (hn : ∀ j, j < i → (gd L j).id ≠ id) : findV L id = (gd L i, true) := by
  unfold findV; rw [placeI_hit h he hn, if_neg (by omega)]; rfl
theorem findV_miss {L : List It} {id : Int} (hn : ∀ j, j < L.length → (gd L j).id ≠ id) : findV L id = (default, false) := by
  unfold findV; rw [placeI_miss hn]; rfl
/-- There is a first one, or none. -/
theorem first_or (L : List It) (id : Int) : (∃ i, i < L.length ∧ (gd L i).id = id ∧ ∀ j, j < i → (gd L j).id ≠ id) ∨ ∀ j, j < L.length → (gd L j).id ≠ id := by
  by_cases h : L.findIdx (fun x => x.id == id) < L.length
  · refine .inl ⟨_, h, ?_, fun j hj => ?_⟩
    · have := List.findIdx_getElem (w := h)
      rw [gd_eq h]; simpa using this
    · have := List.not_of_lt_findIdx hj
      rw [gd_eq (by omega)]; simpa using this
  · refine .inr fun j hj => ?_
    have := List.not_of_lt_findIdx (p := fun x : It => x.id == id) (xs := L) (i := j) (by omega)
    rw [gd_eq hj]; simpa using this
theorem find_spec (h : List It) (id : Int) (hL : h.length ≤ 1000000) : Idl.Spec Try.prog 16 [.fz false (items h) h.length, .i64 id] []
    (Only (.tup [itV (if chk h then findV h id else (default, false)).1, .sc (.bool (if chk h then findV h id else (default, false)).2)]) []) := by
  have hcs := check_spec h (by omega)
  have hps := place_fz h id 0 (by omega)
  cases hc : chk h
  · rw [hc] at hcs
    simp only [Bool.false_eq_true, if_false]
    refine sB Try.func16 Try.ntmps16 ?_
    repeat' (first|refine IOps_nil ?_|refine oS ?_|refine IOps_s rfl rfl ?_|refine oT ?_|refine IOps_s0 rfl ?_|refine oC (π:=[]) (hs:=by first|exact hcs|fail) (hx:=?_)|refine oZ ?_|refine oI ?_|refine thenI_n ?_|refine IWP_seq ?_|refine IWP_region ?_|refine IWP_ct rfl ?_|refine IWP_cf rfl ?_|refine IWP_skip ?_|refine IWP_ret ?_|refine IWP_block ?_|refine inB_n ?_|refine thenI_r ?_|refine thenI_e ?_|refine inB_r ?_|refine inB_hit ?_|refine inB_miss rfl ?_|refine IWP_exit ?_|refine IWP_scope ?_|refine IWP_label ?_|refine noG_n ?_|refine noG_r ?_|refine noG_e ?_|refine jmp_n ?_|refine jmp_r ?_|refine jmp_e ?_|refine jmp_g ?_|refine thenI_g ?_|refine inB_g ?_|refine IWP_goto ?_|refine Loop_n ?_|fail)
    exact pD [] ⟨rfl, rfl⟩
  · rw [hc] at hcs
    simp only [if_true]
    rcases first_or h id with ⟨i, hi, he, hn⟩ | hn
    · rw [findV_hit hi he hn]
      rw [placeI_hit hi he hn] at hps
      refine sB Try.func16 Try.ntmps16 ?_
      repeat' (first|refine IOps_nil ?_|refine oS ?_|refine IOps_s rfl rfl ?_|refine oT ?_|refine IOps_s0 rfl ?_|refine oC (π:=[]) (hs:=by first|exact hcs|fail) (hx:=?_)|refine oC (π:=[]) (hs:=by first|exact hps|fail) (hx:=?_)|refine oZ ?_|refine oI ?_|refine thenI_n ?_|refine IWP_seq ?_|refine IWP_region ?_|refine IWP_ct rfl ?_|refine IWP_cf rfl ?_|refine IWP_skip ?_|refine IWP_ret ?_|refine IWP_block ?_|refine inB_n ?_|refine thenI_r ?_|refine thenI_e ?_|refine inB_r ?_|refine inB_hit ?_|refine inB_miss rfl ?_|refine IWP_exit ?_|refine IWP_scope ?_|refine IWP_label ?_|refine noG_n ?_|refine noG_r ?_|refine noG_e ?_|refine jmp_n ?_|refine jmp_r ?_|refine jmp_e ?_|refine jmp_g ?_|refine thenI_g ?_|refine inB_g ?_|refine IWP_goto ?_|refine Loop_n ?_|fail)
      exact pD [] ⟨rfl, rfl⟩
    · rw [findV_miss hn]
      rw [placeI_miss hn] at hps
      refine sB Try.func16 Try.ntmps16 ?_
      repeat' (first|refine IOps_nil ?_|refine oS ?_|refine IOps_s rfl rfl ?_|refine oT ?_|refine IOps_s0 rfl ?_|refine oC (π:=[]) (hs:=by first|exact hcs|fail) (hx:=?_)|refine oC (π:=[]) (hs:=by first|exact hps|fail) (hx:=?_)|refine oZ ?_|refine oI ?_|refine thenI_n ?_|refine IWP_seq ?_|refine IWP_region ?_|refine IWP_ct rfl ?_|refine IWP_cf rfl ?_|refine IWP_skip ?_|refine IWP_ret ?_|refine IWP_block ?_|refine inB_n ?_|refine thenI_r ?_|refine thenI_e ?_|refine inB_r ?_|refine inB_hit ?_|refine inB_miss rfl ?_|refine IWP_exit ?_|refine IWP_scope ?_|refine IWP_label ?_|refine noG_n ?_|refine noG_r ?_|refine noG_e ?_|refine jmp_n ?_|refine jmp_r ?_|refine jmp_e ?_|refine jmp_g ?_|refine thenI_g ?_|refine inB_g ?_|refine IWP_goto ?_|refine Loop_n ?_|fail)
      exact pD [] ⟨rfl, rfl⟩
def minV (h : List It) : It × Bool := if 0 < h.length ∧ chk h = true then (gd h 0, true) else (default, false)
theorem min_spec (h : List It) (hL : h.length ≤ 1000000) : Idl.Spec Try.prog 18 [.fz false (items h) h.length] []
    (Only (.tup [itV (minV h).1, .sc (.bool (minV h).2)]) []) := by
  have hcs := check_spec h (by omega)
  by_cases h0 : 0 < h.length
  · cases hc : chk h
    · rw [hc] at hcs
      rw [show minV h = (default, false) from if_neg (by rw [hc]; simp)]
      refine sB Try.func18 Try.ntmps18 ?_
      repeat' (first|refine IOps_nil ?_|refine oS ?_|refine IOps_s rfl rfl ?_|refine oT ?_|refine IOps_s0 rfl ?_|refine oC (π:=[]) (hs:=by first|exact hcs|fail) (hx:=?_)|refine oZ ?_|refine oI ?_|refine thenI_n ?_|refine IWP_seq ?_|refine IWP_region ?_|refine IWP_ct rfl ?_|refine IWP_cf rfl ?_|refine IWP_skip ?_|refine IWP_ret ?_|refine IWP_block ?_|refine inB_n ?_|refine thenI_r ?_|refine thenI_e ?_|refine inB_r ?_|refine inB_hit ?_|refine inB_miss rfl ?_|refine IWP_exit ?_|refine IWP_scope ?_|refine IWP_label ?_|refine noG_n ?_|refine noG_r ?_|refine noG_e ?_|refine jmp_n ?_|refine jmp_r ?_|refine jmp_e ?_|refine jmp_g ?_|refine thenI_g ?_|refine inB_g ?_|refine IWP_goto ?_|refine Loop_n ?_|fail)
      exact pD [] ⟨rfl, rfl⟩
    · rw [hc] at hcs
      rw [show minV h = (gd h 0, true) from if_pos ⟨h0, hc⟩]
      refine sB Try.func18 Try.ntmps18 ?_
      repeat' (first|refine IOps_nil ?_|refine oS ?_|refine IOps_s rfl rfl ?_|refine oT ?_|refine IOps_s0 rfl ?_|refine oC (π:=[]) (hs:=by first|exact hcs|fail) (hx:=?_)|refine oZ ?_|refine oI ?_|refine thenI_n ?_|refine IWP_seq ?_|refine IWP_region ?_|refine IWP_ct rfl ?_|refine IWP_cf rfl ?_|refine IWP_skip ?_|refine IWP_ret ?_|refine IWP_block ?_|refine inB_n ?_|refine thenI_r ?_|refine thenI_e ?_|refine inB_r ?_|refine inB_hit ?_|refine inB_miss rfl ?_|refine IWP_exit ?_|refine IWP_scope ?_|refine IWP_label ?_|refine noG_n ?_|refine noG_r ?_|refine noG_e ?_|refine jmp_n ?_|refine jmp_r ?_|refine jmp_e ?_|refine jmp_g ?_|refine thenI_g ?_|refine inB_g ?_|refine IWP_goto ?_|refine Loop_n ?_|fail)
      exact pD [] ⟨rfl, rfl⟩
  · rw [show minV h = (default, false) from if_neg (fun h => h0 h.1)]
    refine sB Try.func18 Try.ntmps18 ?_
    repeat' (first|refine IOps_nil ?_|refine oS ?_|refine IOps_s rfl rfl ?_|refine oT ?_|refine IOps_s0 rfl ?_|refine oC (π:=[]) (hs:=by first|exact hcs|fail) (hx:=?_)|refine oZ ?_|refine oI ?_|refine thenI_n ?_|refine IWP_seq ?_|refine IWP_region ?_|refine IWP_ct rfl ?_|refine IWP_cf rfl ?_|refine IWP_skip ?_|refine IWP_ret ?_|refine IWP_block ?_|refine inB_n ?_|refine thenI_r ?_|refine thenI_e ?_|refine inB_r ?_|refine inB_hit ?_|refine inB_miss rfl ?_|refine IWP_exit ?_|refine IWP_scope ?_|refine IWP_label ?_|refine noG_n ?_|refine noG_r ?_|refine noG_e ?_|refine jmp_n ?_|refine jmp_r ?_|refine jmp_e ?_|refine jmp_g ?_|refine thenI_g ?_|refine inB_g ?_|refine IWP_goto ?_|refine Loop_n ?_|fail)
    exact pD [] ⟨rfl, rfl⟩
def sameV (a b : List It) : Bool := decide (a = b)
end Go.Proofs.Ytnlelckfhlcbgaa

namespace Go.Proofs.Ytnlelckfhlcbgaa
open Go Go.Idl
set_option linter.unusedSimpArgs false
set_option linter.unusedVariables false
set_option maxRecDepth 100000
set_option maxHeartbeats 1000000
attribute [local irreducible] Go.Idl.IWP Go.Idl.IOps Go.Idl.Obl Go.Idl.OpG Go.Idl.thenI Go.Idl.inBlockI Go.Idl.LoopU Go.Idl.noGotoI Go.Idl.jumpI
attribute [local go_sem] List.length_set
def insI (x : It) (l : List It) : List It := l.takeWhile (fun y => lessI y x) ++ x :: l.dropWhile (fun y => lessI y x)
def withI (l : List It) (x : It) : List It := insI x (woI x.id l)
theorem while_at {p : It → Bool} : ∀ {l : List It} {k : Nat}, k ≤ l.length → (∀ j, j < k → p (gd l j) = true) → (k < l.length → p (gd l k) = false) → l.takeWhile p = l.take k ∧ l.dropWhile p = l.drop k
  | [], k, h, _, _ => by simp at h; subst h; simp
  | a :: l, 0, _, _, h2 => by
    have := h2 (by simp)
    have e : p a = false := this
    simp [List.takeWhile_cons, List.dropWhile_cons, e]
  | a :: l, k + 1, h, h1, h2 => by
    have e : p a = true := h1 0 (by omega)
    have := while_at (p := p) (l := l) (k := k) (by simpa using h) (fun j hj => h1 (j + 1) (by omega)) (fun hk => h2 (by simpa using hk))
    simp [List.takeWhile_cons, List.dropWhile_cons, e, this]
/-- In order: none stands ahead of one before it. -/
def Srt (l : List It) : Prop := l.Pairwise fun x y => lessI y x = false
def srtI (l : List It) : List It := l.foldr insI []
theorem ins_perm (x : It) (l : List It) : (insI x l).Perm (x :: l) := by
  unfold insI
  refine List.perm_middle.trans ?_
  rw [List.takeWhile_append_dropWhile]
theorem mem_takeWhile {p : It → Bool} : ∀ {l : List It} {y : It}, y ∈ l.takeWhile p → p y = true
  | a :: l, y, h => by
    rw [List.takeWhile_cons] at h
    split at h
    · rcases List.mem_cons.1 h with rfl | h
      · assumption
      · exact mem_takeWhile h
    · cases h
theorem Srt.ins {x : It} {l : List It} (h : Srt l) : Srt (insI x l) := by
  unfold insI Srt
  have hs := h
  unfold Srt at hs
  rw [← List.takeWhile_append_dropWhile (p := fun y => lessI y x) (l := l), List.pairwise_append] at hs
  refine List.pairwise_append.2 ⟨hs.1, List.pairwise_cons.2 ⟨fun y hy => ?_, hs.2.1⟩, fun a ha b hb => ?_⟩
  · cases hd : l.dropWhile (fun y => lessI y x) with
    | nil => rw [hd] at hy; cases hy
    | cons z m =>
      have hz : lessI z x = false := by
        have := List.head?_dropWhile_not (fun y => lessI y x) l
        rw [hd] at this
        simpa using this
      rw [hd] at hy hs
      rcases List.mem_cons.1 hy with rfl | hy
      · exact hz
      · exact lessI_trans ((List.pairwise_cons.1 hs.2.1).1 y hy) hz
  · rcases List.mem_cons.1 hb with rfl | hb
    · exact lessI_asym (mem_takeWhile (p := fun y => lessI y b) ha)
    · exact hs.2.2 a ha b hb
theorem srt_srt : ∀ l : List It, Srt (srtI l)
  | [] => .nil
  | a :: l => (srt_srt l).ins
theorem srt_perm : ∀ l : List It, (srtI l).Perm l
  | [] => .refl _
  | a :: l => (ins_perm a _).trans ((srt_perm l).cons a)
theorem Srt.eq {l m : List It} (hl : Srt l) (hm : Srt m) (h : l.Perm m) : l = m :=
  SS.unique (lt := lessI) (fun x y h1 h2 => lessI_tot h1 h2) h hl hm
theorem srt_of_perm {l m : List It} (h : l.Perm m) : srtI l = srtI m := (srt_srt l).eq (srt_srt m) ((srt_perm l).trans (h.trans (srt_perm m).symm))
theorem Srt.srt {l : List It} (h : Srt l) : srtI l = l := (srt_srt l).eq h (srt_perm l)
def sortedV (h : List It) : List It := if chk h then srtI h else []
theorem sorted_spec (h : List It) (hL : h.length ≤ 1000000) : Idl.Spec Try.prog 24 [.fz false (items h) h.length] []
    (Only (.fz true (items (sortedV h)) (sortedV h).length) []) := by
  have hcs := check_spec h (by omega)
  cases hc : chk h
  · rw [hc] at hcs
    rw [show sortedV h = [] from by unfold sortedV; rw [hc]; rfl]
    refine sB Try.func24 Try.ntmps24 ?_
    repeat' (first|refine IOps_nil ?_|refine oS ?_|refine IOps_s rfl rfl ?_|refine oT ?_|refine IOps_s0 rfl ?_|refine oC (π:=[]) (hs:=by first|exact hcs|fail) (hx:=?_)|refine oZ ?_|refine oI ?_|refine thenI_n ?_|refine IWP_seq ?_|refine IWP_region ?_|refine IWP_ct rfl ?_|refine IWP_cf rfl ?_|refine IWP_skip ?_|refine IWP_block ?_|refine inB_n ?_|refine thenI_r ?_|refine thenI_e ?_|refine inB_r ?_|refine inB_hit ?_|refine inB_miss rfl ?_|refine IWP_exit ?_|refine IWP_scope ?_|refine IWP_label ?_|refine noG_n ?_|refine noG_r ?_|refine noG_e ?_|refine jmp_n ?_|refine jmp_r ?_|refine jmp_e ?_|refine jmp_g ?_|refine thenI_g ?_|refine inB_g ?_|refine IWP_goto ?_|refine Loop_n ?_|fail)
    refine wV 2 3 ?_
    refine wF 2 ?_
    repeat' (first|refine IOps_nil ?_|refine oS ?_|refine IOps_s rfl rfl ?_|refine oT ?_|refine IOps_s0 rfl ?_|refine oZ ?_|refine oI ?_|refine thenI_n ?_|refine IWP_seq ?_|refine IWP_region ?_|refine IWP_ct rfl ?_|refine IWP_cf rfl ?_|refine IWP_skip ?_|refine IWP_ret ?_|refine IWP_block ?_|refine inB_n ?_|refine thenI_r ?_|refine thenI_e ?_|refine inB_r ?_|refine inB_hit ?_|refine inB_miss rfl ?_|refine IWP_exit ?_|refine IWP_scope ?_|refine IWP_label ?_|refine noG_n ?_|refine noG_r ?_|refine noG_e ?_|refine jmp_n ?_|refine jmp_r ?_|refine jmp_e ?_|refine jmp_g ?_|refine thenI_g ?_|refine inB_g ?_|refine IWP_goto ?_|refine Loop_n ?_|fail)
    exact pD [] ⟨rfl, rfl⟩
  · rw [hc] at hcs
    have h64 : h.length ≤ 64 := ((chk_iff h).1 hc).1.len
    rw [show sortedV h = srtI h from by unfold sortedV; rw [hc]; rfl]
    have hsp := sort_spec (c := cmpI) (kc := 46) cmp_spec h h.length cmpI_ord (by omega)
    refine sB Try.func24 Try.ntmps24 ?_
    repeat' (first|refine IOps_nil ?_|refine oS ?_|refine IOps_s rfl rfl ?_|refine oT ?_|refine IOps_s0 rfl ?_|refine oC (π:=[]) (hs:=by first|exact copied_spec _ (by omega)|fail) (hx:=?_)|refine oC (π:=[]) (hs:=by first|exact hcs|fail) (hx:=?_)|refine oZ ?_|refine oI ?_|refine thenI_n ?_|refine IWP_seq ?_|refine IWP_region ?_|refine IWP_ct rfl ?_|refine IWP_cf rfl ?_|refine IWP_skip ?_|refine IWP_ret ?_|refine IWP_block ?_|refine inB_n ?_|refine thenI_r ?_|refine thenI_e ?_|refine inB_r ?_|refine inB_hit ?_|refine inB_miss rfl ?_|refine IWP_exit ?_|refine IWP_scope ?_|refine IWP_label ?_|refine noG_n ?_|refine noG_r ?_|refine noG_e ?_|refine jmp_n ?_|refine jmp_r ?_|refine jmp_e ?_|refine jmp_g ?_|refine thenI_g ?_|refine inB_g ?_|refine IWP_goto ?_|refine Loop_n ?_|fail)
    refine oE [0] (hs := hsp) (hx := ?_)
    rintro M ⟨hM1, hM2, hM3⟩
    have e : M = srtI h := Srt.eq (hM3.imp fun {a b} h => by have := cmpI_lt b a; rw [decide_eq_false h] at this; exact this.symm) (srt_srt h) (hM2.trans (srt_perm h).symm)
    subst e
    have hl : (srtI h).length = h.length := (srt_perm h).length_eq
    repeat' (first|refine IOps_nil ?_|refine oS ?_|refine IOps_s rfl rfl ?_|refine oT ?_|refine IOps_s0 rfl ?_|refine oZ ?_|refine oI ?_|refine thenI_n ?_|refine IWP_seq ?_|refine IWP_region ?_|refine IWP_ct rfl ?_|refine IWP_cf rfl ?_|refine IWP_skip ?_|refine IWP_block ?_|refine inB_n ?_|refine thenI_r ?_|refine thenI_e ?_|refine inB_r ?_|refine inB_hit ?_|refine inB_miss rfl ?_|refine IWP_exit ?_|refine IWP_scope ?_|refine IWP_label ?_|refine noG_n ?_|refine noG_r ?_|refine noG_e ?_|refine jmp_n ?_|refine jmp_r ?_|refine jmp_e ?_|refine jmp_g ?_|refine thenI_g ?_|refine inB_g ?_|refine IWP_goto ?_|refine Loop_n ?_|fail)
    refine wF 2 ?_
    repeat' (first|refine IOps_nil ?_|refine oS ?_|refine IOps_s rfl rfl ?_|refine oT ?_|refine IOps_s0 rfl ?_|refine oZ ?_|refine oI ?_|refine thenI_n ?_|refine IWP_seq ?_|refine IWP_region ?_|refine IWP_ct rfl ?_|refine IWP_cf rfl ?_|refine IWP_skip ?_|refine IWP_ret ?_|refine IWP_block ?_|refine inB_n ?_|refine thenI_r ?_|refine thenI_e ?_|refine inB_r ?_|refine inB_hit ?_|refine inB_miss rfl ?_|refine IWP_exit ?_|refine IWP_scope ?_|refine IWP_label ?_|refine noG_n ?_|refine noG_r ?_|refine noG_e ?_|refine jmp_n ?_|refine jmp_r ?_|refine jmp_e ?_|refine jmp_g ?_|refine thenI_g ?_|refine inB_g ?_|refine IWP_goto ?_|refine Loop_n ?_|fail)
    refine pE [] ?_
    rw [hl]
end Go.Proofs.Ytnlelckfhlcbgaa

namespace Go.Proofs.Ytnlelckfhlcbgaa
open Go Go.Idl
set_option linter.unusedSimpArgs false
set_option linter.unusedVariables false
set_option maxRecDepth 100000
set_option maxHeartbeats 1000000
attribute [local irreducible] Go.Idl.IWP Go.Idl.IOps Go.Idl.Obl Go.Idl.OpG Go.Idl.thenI Go.Idl.inBlockI Go.Idl.LoopU Go.Idl.noGotoI Go.Idl.jumpI
attribute [local go_sem] List.length_set
/-- What a step brings. -/
def DoR (h : List It) (d : Bool) (x : It) (M : List It) (e : Int) : Prop :=
  (d = true ∧ (∃ k, k < h.length ∧ (gd h k).id = x.id) ∧ e = 0 ∧ M.Perm (woI x.id h)) ∨ (d = true ∧ (∀ j, j < h.length → (gd h j).id ≠ x.id) ∧ e = 120 ∧ M = h) ∨
  (d = false ∧ ¬ (0 ≤ x.id ∧ x.id < 64) ∧ e = 110 ∧ M = h) ∨ (d = false ∧ (0 ≤ x.id ∧ x.id < 64) ∧ e = 0 ∧ M.Perm (upI x h))
theorem gd0_least {h : List It} (hH : H4 h.length h) : ∀ i, i < h.length → lessI (gd h i) (gd h 0) = false := by
  intro i
  induction i using Nat.strongRecOn with
  | _ i ih =>
    intro hi
    rcases Nat.eq_zero_or_pos i with rfl | h0
    · exact lessI_irr _
    · have hp := par_lt h0
      exact lessI_trans (hH i h0 hi) (ih _ hp (by omega))
theorem srt_head {h : List It} {x : It} {t : List It} (hH : H4 h.length h) (e : srtI h = x :: t) : 0 < h.length ∧ gd h 0 = x := by
  have hp := srt_perm h
  rw [e] at hp
  have hl : 0 < h.length := by rw [← hp.length_eq]; simp
  refine ⟨hl, ?_⟩
  have hs := srt_srt h
  rw [e] at hs
  have hs := List.pairwise_cons.1 hs
  have hx : x ∈ h := hp.mem_iff.1 (by simp)
  obtain ⟨k, hk, rfl⟩ := List.getElem_of_mem hx
  have h1 := gd0_least hH k hk
  rw [gd_eq hk] at h1
  have h0 : gd h 0 ∈ h[k] :: t := hp.mem_iff.2 (gd_mem hl)
  rcases List.mem_cons.1 h0 with h0 | h0
  · exact h0
  · exact lessI_tot (hs.1 _ h0) h1
theorem minV_srt {h : List It} (hc : chk h = true) {x : It} {t : List It} (e : srtI h = x :: t) : minV h = (x, true) := by
  obtain ⟨h1, h2⟩ := srt_head ((chk_iff h).1 hc).2 e
  unfold minV; rw [if_pos ⟨h1, hc⟩, h2]
theorem findV_mem {L : List It} (hd : Idn L) {y : It} (hy : y ∈ L) : findV L y.id = (y, true) := by
  obtain ⟨k, hk, rfl⟩ := List.getElem_of_mem hy
  have := findV_hit (L := L) (id := L[k].id) hk (by rw [gd_eq hk]) (fun j hj he => (List.pairwise_iff_getElem.1 hd.2) j k (by omega) hk hj (by rw [← he, gd_eq (by omega)]))
  rw [this, gd_eq hk]
theorem findV_non {L : List It} {id : Int} (h : ∀ y, y ∈ L → y.id ≠ id) : findV L id = (default, false) := findV_miss fun j hj => h _ (gd_mem hj)
theorem findV_perm {L M : List It} (hd : Idn L) (hp : M.Perm L) (id : Int) : findV M id = findV L id := by
  by_cases h : ∃ y, y ∈ L ∧ y.id = id
  · obtain ⟨y, hy, rfl⟩ := h
    rw [findV_mem hd hy, findV_mem (hd.perm hp) (hp.mem_iff.2 hy)]
  · rw [findV_non fun y hy e => h ⟨y, hy, e⟩, findV_non fun y hy e => h ⟨y, hp.mem_iff.1 hy, e⟩]
theorem woI_perm {L M : List It} (h : M.Perm L) (id : Int) : (woI id M).Perm (woI id L) := h.filter _
theorem upI_perm {L M : List It} (h : M.Perm L) (x : It) : (upI x M).Perm (upI x L) := (woI_perm h _).cons x
theorem has_mem {L : List It} {id : Int} (h : ∃ y, y ∈ L ∧ y.id = id) : ∃ k, k < L.length ∧ (gd L k).id = id := by
  obtain ⟨y, hy, rfl⟩ := h
  obtain ⟨k, hk, rfl⟩ := List.getElem_of_mem hy
  exact ⟨k, hk, by rw [gd_eq hk]⟩
theorem Spec.nil0 {P : Program} {f : FuncId} {xs : List IV} {h : List HO} {K : IV → List HO → Prop} (s : Idl.Spec P f (.fz false [] 0 :: xs) h K) : Idl.Spec P f (.sc (.slice none 0 0) :: xs) h K :=
  ⟨s.call, s.fresh, fun F w vs a b c => s.runs F w vs a b (by cases c with | cons h t => exact .cons (by cases h; exact .fznil) t)⟩
end Go.Proofs.Ytnlelckfhlcbgaa
