/-
  A heap: whether an item stands ahead.
-/
import Derived.Test.YtnlelckfhlcbgaaSorK
namespace Go.Proofs.Ytnlelckfhlcbgaa
open Go Go.Idl
set_option linter.unusedSimpArgs false
set_option linter.unusedVariables false
set_option maxRecDepth 100000
set_option maxHeartbeats 1000000
attribute [local irreducible] Go.Idl.IWP Go.Idl.IOps Go.Idl.Obl Go.Idl.OpG Go.Idl.thenI Go.Idl.inBlockI Go.Idl.LoopU Go.Idl.noGotoI Go.Idl.jumpI
attribute [local go_sem] List.length_set
def lessI (a b : It) : Bool := decide (a.pri < b.pri ∨ (a.pri = b.pri ∧ (a.seq < b.seq ∨ (a.seq = b.seq ∧ a.id < b.id))))
theorem less_spec (a b : It) : Idl.Spec Try.prog 21 [.agg [.sc (.int .i64 a.id), .sc (.int .u64 a.pri), .sc (.int .u64 a.seq)], .agg [.sc (.int .i64 b.id), .sc (.int .u64 b.pri), .sc (.int .u64 b.seq)]] [] (Only (.sc (.bool (lessI a b))) []) := by
  by_cases h1 : a.pri = b.pri
  · by_cases h2 : a.seq = b.seq
    · rw [show lessI a b = decide (a.id < b.id) by simp [lessI, h1, h2]]
      refine sB Try.func21 Try.ntmps21 ?_
      repeat' (first
        | refine IOps_nil ?_
        | refine oS ?_
        | refine IOps_s rfl rfl ?_
        | refine oT ?_
        | refine IOps_s0 rfl ?_
        | refine oZ ?_
        | refine oI ?_
        | refine thenI_n ?_
        | refine IWP_seq ?_
        | refine IWP_region ?_
        | refine IWP_ct rfl ?_
        | refine IWP_cf rfl ?_
        | refine IWP_skip ?_
        | refine IWP_ret ?_
        | refine IWP_block ?_
        | refine inB_n ?_
        | refine thenI_r ?_
        | refine thenI_e ?_
        | refine inB_r ?_
        | refine inB_hit ?_
        | refine inB_miss rfl ?_
        | refine IWP_exit ?_
        | refine IWP_scope ?_
        | refine IWP_label ?_
        | refine noG_n ?_
        | refine noG_r ?_
        | refine noG_e ?_
        | refine jmp_n ?_
        | refine jmp_r ?_
        | refine jmp_e ?_
        | refine jmp_g ?_
        | refine thenI_g ?_
        | refine inB_g ?_
        | refine IWP_goto ?_
        | refine Loop_n ?_
        | fail)
      exact pD [] ⟨rfl, rfl⟩
    · rw [show lessI a b = decide (a.seq < b.seq) by simp [lessI, h1, h2]]
      refine sB Try.func21 Try.ntmps21 ?_
      repeat' (first
        | refine IOps_nil ?_
        | refine oS ?_
        | refine IOps_s rfl rfl ?_
        | refine oT ?_
        | refine IOps_s0 rfl ?_
        | refine oZ ?_
        | refine oI ?_
        | refine thenI_n ?_
        | refine IWP_seq ?_
        | refine IWP_region ?_
        | refine IWP_ct rfl ?_
        | refine IWP_cf rfl ?_
        | refine IWP_skip ?_
        | refine IWP_ret ?_
        | refine IWP_block ?_
        | refine inB_n ?_
        | refine thenI_r ?_
        | refine thenI_e ?_
        | refine inB_r ?_
        | refine inB_hit ?_
        | refine inB_miss rfl ?_
        | refine IWP_exit ?_
        | refine IWP_scope ?_
        | refine IWP_label ?_
        | refine noG_n ?_
        | refine noG_r ?_
        | refine noG_e ?_
        | refine jmp_n ?_
        | refine jmp_r ?_
        | refine jmp_e ?_
        | refine jmp_g ?_
        | refine thenI_g ?_
        | refine inB_g ?_
        | refine IWP_goto ?_
        | refine Loop_n ?_
        | fail)
      exact pD [] ⟨rfl, rfl⟩
  · rw [show lessI a b = decide (a.pri < b.pri) by simp [lessI, h1]]
    refine sB Try.func21 Try.ntmps21 ?_
    repeat' (first
      | refine IOps_nil ?_
      | refine oS ?_
      | refine IOps_s rfl rfl ?_
      | refine oT ?_
      | refine IOps_s0 rfl ?_
      | refine oZ ?_
      | refine oI ?_
      | refine thenI_n ?_
      | refine IWP_seq ?_
      | refine IWP_region ?_
      | refine IWP_ct rfl ?_
      | refine IWP_cf rfl ?_
      | refine IWP_skip ?_
      | refine IWP_ret ?_
      | refine IWP_block ?_
      | refine inB_n ?_
      | refine thenI_r ?_
      | refine thenI_e ?_
      | refine inB_r ?_
      | refine inB_hit ?_
      | refine inB_miss rfl ?_
      | refine IWP_exit ?_
      | refine IWP_scope ?_
      | refine IWP_label ?_
      | refine noG_n ?_
      | refine noG_r ?_
      | refine noG_e ?_
      | refine jmp_n ?_
      | refine jmp_r ?_
      | refine jmp_e ?_
      | refine jmp_g ?_
      | refine thenI_g ?_
      | refine inB_g ?_
      | refine IWP_goto ?_
      | refine Loop_n ?_
      | fail)
    exact pD [] ⟨rfl, rfl⟩
theorem rless_spec (a b : It) : Idl.Spec Try.prog 22 [.agg [.sc (.int .i64 a.id), .sc (.int .u64 a.pri), .sc (.int .u64 a.seq)], .agg [.sc (.int .i64 b.id), .sc (.int .u64 b.pri), .sc (.int .u64 b.seq)]] [] (Only (.sc (.bool (lessI a b))) []) := by
  by_cases h1 : a.pri = b.pri
  · by_cases h2 : a.seq = b.seq
    · rw [show lessI a b = decide (a.id < b.id) by simp [lessI, h1, h2]]
      refine sB Try.func22 Try.ntmps22 ?_
      repeat' (first
        | refine IOps_nil ?_
        | refine oS ?_
        | refine IOps_s rfl rfl ?_
        | refine oT ?_
        | refine IOps_s0 rfl ?_
        | refine oZ ?_
        | refine oI ?_
        | refine thenI_n ?_
        | refine IWP_seq ?_
        | refine IWP_region ?_
        | refine IWP_ct rfl ?_
        | refine IWP_cf rfl ?_
        | refine IWP_skip ?_
        | refine IWP_ret ?_
        | refine IWP_block ?_
        | refine inB_n ?_
        | refine thenI_r ?_
        | refine thenI_e ?_
        | refine inB_r ?_
        | refine inB_hit ?_
        | refine inB_miss rfl ?_
        | refine IWP_exit ?_
        | refine IWP_scope ?_
        | refine IWP_label ?_
        | refine noG_n ?_
        | refine noG_r ?_
        | refine noG_e ?_
        | refine jmp_n ?_
        | refine jmp_r ?_
        | refine jmp_e ?_
        | refine jmp_g ?_
        | refine thenI_g ?_
        | refine inB_g ?_
        | refine IWP_goto ?_
        | refine Loop_n ?_
        | fail)
      exact pD [] ⟨rfl, rfl⟩
    · rw [show lessI a b = decide (a.seq < b.seq) by simp [lessI, h1, h2]]
      refine sB Try.func22 Try.ntmps22 ?_
      repeat' (first
        | refine IOps_nil ?_
        | refine oS ?_
        | refine IOps_s rfl rfl ?_
        | refine oT ?_
        | refine IOps_s0 rfl ?_
        | refine oZ ?_
        | refine oI ?_
        | refine thenI_n ?_
        | refine IWP_seq ?_
        | refine IWP_region ?_
        | refine IWP_ct rfl ?_
        | refine IWP_cf rfl ?_
        | refine IWP_skip ?_
        | refine IWP_ret ?_
        | refine IWP_block ?_
        | refine inB_n ?_
        | refine thenI_r ?_
        | refine thenI_e ?_
        | refine inB_r ?_
        | refine inB_hit ?_
        | refine inB_miss rfl ?_
        | refine IWP_exit ?_
        | refine IWP_scope ?_
        | refine IWP_label ?_
        | refine noG_n ?_
        | refine noG_r ?_
        | refine noG_e ?_
        | refine jmp_n ?_
        | refine jmp_r ?_
        | refine jmp_e ?_
        | refine jmp_g ?_
        | refine thenI_g ?_
        | refine inB_g ?_
        | refine IWP_goto ?_
        | refine Loop_n ?_
        | fail)
      exact pD [] ⟨rfl, rfl⟩
  · rw [show lessI a b = decide (a.pri < b.pri) by simp [lessI, h1]]
    refine sB Try.func22 Try.ntmps22 ?_
    repeat' (first
      | refine IOps_nil ?_
      | refine oS ?_
      | refine IOps_s rfl rfl ?_
      | refine oT ?_
      | refine IOps_s0 rfl ?_
      | refine oZ ?_
      | refine oI ?_
      | refine thenI_n ?_
      | refine IWP_seq ?_
      | refine IWP_region ?_
      | refine IWP_ct rfl ?_
      | refine IWP_cf rfl ?_
      | refine IWP_skip ?_
      | refine IWP_ret ?_
      | refine IWP_block ?_
      | refine inB_n ?_
      | refine thenI_r ?_
      | refine thenI_e ?_
      | refine inB_r ?_
      | refine inB_hit ?_
      | refine inB_miss rfl ?_
      | refine IWP_exit ?_
      | refine IWP_scope ?_
      | refine IWP_label ?_
      | refine noG_n ?_
      | refine noG_r ?_
      | refine noG_e ?_
      | refine jmp_n ?_
      | refine jmp_r ?_
      | refine jmp_e ?_
      | refine jmp_g ?_
      | refine thenI_g ?_
      | refine inB_g ?_
      | refine IWP_goto ?_
      | refine Loop_n ?_
      | fail)
    exact pD [] ⟨rfl, rfl⟩

def cmpI (a b : It) : Int := if lessI a b then -1 else if lessI b a then 1 else 0
theorem lessI_asym {x y : It} (h : lessI x y = true) : lessI y x = false := by
  simp only [lessI, decide_eq_true_eq, decide_eq_false_iff_not] at h ⊢; omega
theorem lessI_trans {x y z : It} (h : lessI x y = false) (k : lessI y z = false) : lessI x z = false := by
  simp only [lessI, decide_eq_false_iff_not] at h k ⊢; omega
theorem lessI_tot {x y : It} (h : lessI x y = false) (k : lessI y x = false) : x = y := by
  cases x; cases y
  simp only [lessI, decide_eq_false_iff_not] at h k
  simp only [It.mk.injEq]; omega
theorem lessI_irr (x : It) : lessI x x = false := by simp [lessI]
theorem lessI_lt {x y z : It} (h : lessI x y = true) (k : lessI y z = true) : lessI x z = true := by
  simp only [lessI, decide_eq_true_eq] at h k ⊢; omega
theorem cmpI_lt (x y : It) : decide (cmpI x y < 0) = lessI x y := by
  unfold cmpI
  cases lessI x y <;> cases lessI y x <;> simp
theorem cmpI_ord : OrdL fun x y => decide (cmpI x y < 0) := by
  have e : (fun x y => decide (cmpI x y < 0)) = lessI := by funext x y; exact cmpI_lt x y
  rw [e]
  exact ⟨fun _ _ => lessI_asym, fun _ _ _ => lessI_trans⟩
theorem cmp_spec (a b : It) : Idl.Spec Try.prog 46 [.agg [.sc (.int .i64 a.id), .sc (.int .u64 a.pri), .sc (.int .u64 a.seq)], .agg [.sc (.int .i64 b.id), .sc (.int .u64 b.pri), .sc (.int .u64 b.seq)]] [] (Only (.i64 (cmpI a b)) []) := by
  by_cases h1 : lessI a b = true
  · rw [show cmpI a b = -1 by simp [cmpI, h1]]
    have hs1 := less_spec a b
    rw [h1] at hs1
    refine sB Try.func46 Try.ntmps46 ?_
    repeat' (first
      | refine IOps_nil ?_
      | refine oS ?_
      | refine IOps_s rfl rfl ?_
      | refine oT ?_
      | refine IOps_s0 rfl ?_
      | refine oC (π := []) (hs := by first | exact hs1 | fail) (hx := ?_)
      | refine oZ ?_
      | refine oI ?_
      | refine thenI_n ?_
      | refine IWP_seq ?_
      | refine IWP_region ?_
      | refine IWP_ct rfl ?_
      | refine IWP_cf rfl ?_
      | refine IWP_skip ?_
      | refine IWP_ret ?_
      | refine IWP_block ?_
      | refine inB_n ?_
      | refine thenI_r ?_
      | refine thenI_e ?_
      | refine inB_r ?_
      | refine inB_hit ?_
      | refine inB_miss rfl ?_
      | refine IWP_exit ?_
      | refine IWP_scope ?_
      | refine IWP_label ?_
      | refine noG_n ?_
      | refine noG_r ?_
      | refine noG_e ?_
      | refine jmp_n ?_
      | refine jmp_r ?_
      | refine jmp_e ?_
      | refine jmp_g ?_
      | refine thenI_g ?_
      | refine inB_g ?_
      | refine IWP_goto ?_
      | refine Loop_n ?_
      | fail)
    exact pD [] ⟨rfl, rfl⟩
  · replace h1 : lessI a b = false := by simpa using h1
    have hs1 := less_spec a b
    rw [h1] at hs1
    have hs2 := less_spec b a
    by_cases h2 : lessI b a = true
    · rw [show cmpI a b = 1 by simp [cmpI, h1, h2]]
      rw [h2] at hs2
      refine sB Try.func46 Try.ntmps46 ?_
      repeat' (first
        | refine IOps_nil ?_
        | refine oS ?_
        | refine IOps_s rfl rfl ?_
        | refine oT ?_
        | refine IOps_s0 rfl ?_
        | refine oC (π := []) (hs := by first | exact hs1 | fail) (hx := ?_)
        | refine oC (π := []) (hs := by first | exact hs2 | fail) (hx := ?_)
        | refine oZ ?_
        | refine oI ?_
        | refine thenI_n ?_
        | refine IWP_seq ?_
        | refine IWP_region ?_
        | refine IWP_ct rfl ?_
        | refine IWP_cf rfl ?_
        | refine IWP_skip ?_
        | refine IWP_ret ?_
        | refine IWP_block ?_
        | refine inB_n ?_
        | refine thenI_r ?_
        | refine thenI_e ?_
        | refine inB_r ?_
        | refine inB_hit ?_
        | refine inB_miss rfl ?_
        | refine IWP_exit ?_
        | refine IWP_scope ?_
        | refine IWP_label ?_
        | refine noG_n ?_
        | refine noG_r ?_
        | refine noG_e ?_
        | refine jmp_n ?_
        | refine jmp_r ?_
        | refine jmp_e ?_
        | refine jmp_g ?_
        | refine thenI_g ?_
        | refine inB_g ?_
        | refine IWP_goto ?_
        | refine Loop_n ?_
        | fail)
      exact pD [] ⟨rfl, rfl⟩
    · replace h2 : lessI b a = false := by simpa using h2
      rw [show cmpI a b = 0 by simp [cmpI, h1, h2]]
      rw [h2] at hs2
      refine sB Try.func46 Try.ntmps46 ?_
      repeat' (first
        | refine IOps_nil ?_
        | refine oS ?_
        | refine IOps_s rfl rfl ?_
        | refine oT ?_
        | refine IOps_s0 rfl ?_
        | refine oC (π := []) (hs := by first | exact hs1 | fail) (hx := ?_)
        | refine oC (π := []) (hs := by first | exact hs2 | fail) (hx := ?_)
        | refine oZ ?_
        | refine oI ?_
        | refine thenI_n ?_
        | refine IWP_seq ?_
        | refine IWP_region ?_
        | refine IWP_ct rfl ?_
        | refine IWP_cf rfl ?_
        | refine IWP_skip ?_
        | refine IWP_ret ?_
        | refine IWP_block ?_
        | refine inB_n ?_
        | refine thenI_r ?_
        | refine thenI_e ?_
        | refine inB_r ?_
        | refine inB_hit ?_
        | refine inB_miss rfl ?_
        | refine IWP_exit ?_
        | refine IWP_scope ?_
        | refine IWP_label ?_
        | refine noG_n ?_
        | refine noG_r ?_
        | refine noG_e ?_
        | refine jmp_n ?_
        | refine jmp_r ?_
        | refine jmp_e ?_
        | refine jmp_g ?_
        | refine thenI_g ?_
        | refine inB_g ?_
        | refine IWP_goto ?_
        | refine Loop_n ?_
        | fail)
      exact pD [] ⟨rfl, rfl⟩
theorem named_spec (id : Int) : Idl.Spec Try.prog 42 [.i64 id] [] (Only (.sc (.bool (decide (0 ≤ id ∧ id < 64)))) []) := by
  by_cases h : 0 ≤ id
  · by_cases h' : id < 64
    · rw [show decide (0 ≤ id ∧ id < 64) = true by simp; omega]
      refine sB Try.func42 Try.ntmps42 ?_
      repeat' (first
        | refine IOps_nil ?_
        | refine oS ?_
        | refine IOps_s rfl rfl ?_
        | refine oT ?_
        | refine IOps_s0 rfl ?_
        | refine oZ ?_
        | refine oI ?_
        | refine thenI_n ?_
        | refine IWP_seq ?_
        | refine IWP_region ?_
        | refine IWP_ct rfl ?_
        | refine IWP_cf rfl ?_
        | refine IWP_skip ?_
        | refine IWP_ret ?_
        | refine IWP_block ?_
        | refine inB_n ?_
        | refine thenI_r ?_
        | refine thenI_e ?_
        | refine inB_r ?_
        | refine inB_hit ?_
        | refine inB_miss rfl ?_
        | refine IWP_exit ?_
        | refine IWP_scope ?_
        | refine IWP_label ?_
        | refine noG_n ?_
        | refine noG_r ?_
        | refine noG_e ?_
        | refine jmp_n ?_
        | refine jmp_r ?_
        | refine jmp_e ?_
        | refine jmp_g ?_
        | refine thenI_g ?_
        | refine inB_g ?_
        | refine IWP_goto ?_
        | refine Loop_n ?_
        | fail)
      exact pD [] ⟨rfl, rfl⟩
    · rw [show decide (0 ≤ id ∧ id < 64) = false by simp; omega]
      refine sB Try.func42 Try.ntmps42 ?_
      repeat' (first
        | refine IOps_nil ?_
        | refine oS ?_
        | refine IOps_s rfl rfl ?_
        | refine oT ?_
        | refine IOps_s0 rfl ?_
        | refine oZ ?_
        | refine oI ?_
        | refine thenI_n ?_
        | refine IWP_seq ?_
        | refine IWP_region ?_
        | refine IWP_ct rfl ?_
        | refine IWP_cf rfl ?_
        | refine IWP_skip ?_
        | refine IWP_ret ?_
        | refine IWP_block ?_
        | refine inB_n ?_
        | refine thenI_r ?_
        | refine thenI_e ?_
        | refine inB_r ?_
        | refine inB_hit ?_
        | refine inB_miss rfl ?_
        | refine IWP_exit ?_
        | refine IWP_scope ?_
        | refine IWP_label ?_
        | refine noG_n ?_
        | refine noG_r ?_
        | refine noG_e ?_
        | refine jmp_n ?_
        | refine jmp_r ?_
        | refine jmp_e ?_
        | refine jmp_g ?_
        | refine thenI_g ?_
        | refine inB_g ?_
        | refine IWP_goto ?_
        | refine Loop_n ?_
        | fail)
      exact pD [] ⟨rfl, rfl⟩
  · rw [show decide (0 ≤ id ∧ id < 64) = false by simp; omega]
    refine sB Try.func42 Try.ntmps42 ?_
    repeat' (first
      | refine IOps_nil ?_
      | refine oS ?_
      | refine IOps_s rfl rfl ?_
      | refine oT ?_
      | refine IOps_s0 rfl ?_
      | refine oZ ?_
      | refine oI ?_
      | refine thenI_n ?_
      | refine IWP_seq ?_
      | refine IWP_region ?_
      | refine IWP_ct rfl ?_
      | refine IWP_cf rfl ?_
      | refine IWP_skip ?_
      | refine IWP_ret ?_
      | refine IWP_block ?_
      | refine inB_n ?_
      | refine thenI_r ?_
      | refine thenI_e ?_
      | refine inB_r ?_
      | refine inB_hit ?_
      | refine inB_miss rfl ?_
      | refine IWP_exit ?_
      | refine IWP_scope ?_
      | refine IWP_label ?_
      | refine noG_n ?_
      | refine noG_r ?_
      | refine noG_e ?_
      | refine jmp_n ?_
      | refine jmp_r ?_
      | refine jmp_e ?_
      | refine jmp_g ?_
      | refine thenI_g ?_
      | refine inB_g ?_
      | refine IWP_goto ?_
      | refine Loop_n ?_
      | fail)
    exact pD [] ⟨rfl, rfl⟩
theorem parent_spec (k : Nat) (hk : k ≤ 1000000000) : Idl.Spec Try.prog 43 [.i64 k] [] (Only (.i64 ((k - 1) / 4 : Nat)) []) := by
  have hw : IntKind.i64.wrap (((k : Int) - 1).tdiv 4) = (((k - 1) / 4 : Nat) : Int) := by
    have h : ((k : Int) - 1).tdiv 4 = (((k - 1) / 4 : Nat) : Int) := by
      cases k with
      | zero => rfl
      | succ m => rw [show (((m + 1 : Nat) : Int) - 1) = (m : Int) by omega]; rfl
    rw [h]; exact wrap_i64 (by omega) (by omega)
  refine sB Try.func43 Try.ntmps43 ?_
  repeat' (first
    | refine IOps_nil ?_
    | refine oS ?_
    | refine IOps_s rfl rfl ?_
    | refine oT ?_
    | refine IOps_s0 rfl ?_
    | refine oZ ?_
    | refine oI ?_
    | refine thenI_n ?_
    | refine IWP_seq ?_
    | refine IWP_region ?_
    | refine IWP_ct rfl ?_
    | refine IWP_cf rfl ?_
    | refine IWP_skip ?_
    | refine IWP_ret ?_
    | refine IWP_block ?_
    | refine inB_n ?_
    | refine thenI_r ?_
    | refine thenI_e ?_
    | refine inB_r ?_
    | refine inB_hit ?_
    | refine inB_miss rfl ?_
    | refine IWP_exit ?_
    | refine IWP_scope ?_
    | refine IWP_label ?_
    | refine noG_n ?_
    | refine noG_r ?_
    | refine noG_e ?_
    | refine jmp_n ?_
    | refine jmp_r ?_
    | refine jmp_e ?_
    | refine jmp_g ?_
    | refine thenI_g ?_
    | refine inB_g ?_
    | refine IWP_goto ?_
    | refine Loop_n ?_
    | fail)
  refine pE [] ?_
  rw [hw]
end Go.Proofs.Ytnlelckfhlcbgaa
