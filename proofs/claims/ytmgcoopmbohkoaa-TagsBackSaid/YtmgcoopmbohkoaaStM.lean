/-
  The types that are reached.
-/
import Derived.Test.YtmgcoopmbohkoaaChecked
import Derived.Test.YtmgcoopmbohkoaaIdlMp
import Derived.Test.YtmgcoopmbohkoaaPlan
namespace Go.Proofs.Ytmgcoopmbohkoaa
open Go Go.Idl
set_option maxRecDepth 100000
def T : TT := [(3, { size := 1, bytes := 8, zero := [.int .i64], kind := .int .i64 }),
  (4, { size := 1, bytes := 1, zero := [.bool], kind := .bool }),
  (5, { size := 1, bytes := 1, zero := [.int .u8], kind := .int .u8 }),
  (99, { size := 1, bytes := 4, zero := [.int .u32], kind := .int .u32 }),
  (30, { size := 1, bytes := 8, zero := [.int .u64], kind := .int .u64 }),
  (9, { size := 1, bytes := 16, zero := [.str], kind := .str }),
  (80, { size := 1, bytes := 8, zero := [.int .u64], kind := .int .u64 }),
  (102, { size := 1, bytes := 8, zero := [.int .u64], kind := .int .u64 }),
  (25, { size := 1, bytes := 8, zero := [.int .i64], kind := .int .i64 }),
  (90, { size := 1, bytes := 8, zero := [.int .i64], kind := .int .i64 }),
  (22, { size := 1, bytes := 24, zero := [.slc], kind := .slc 9 }),
  (37, { size := 1, bytes := 24, zero := [.slc], kind := .slc 5 }),
  (60, { size := 9, bytes := 9, zero := [.int .u8, .int .u8, .int .u8, .int .u8, .int .u8, .int .u8, .int .u8, .int .u8, .int .u8], kind := .arr 9 5 }),
  (61, { size := 9, bytes := 9, zero := [.int .u8, .int .u8, .int .u8, .int .u8, .int .u8, .int .u8, .int .u8, .int .u8, .int .u8], kind := .arr 9 5 }),
  (59, { size := 1, bytes := 8, zero := [.map], kind := .mp 61 4 }),
  (52, { size := 2, bytes := 40, zero := [.str, .slc], kind := .strct [(0, 9), (1, 49)] }),
  (42, { size := 1, bytes := 24, zero := [.slc], kind := .slc 52 }),
  (49, { size := 1, bytes := 24, zero := [.slc], kind := .slc 3 }),
  (68, { size := 64, bytes := 512, zero := [.int .i64, .int .i64, .int .i64, .int .i64, .int .i64, .int .i64, .int .i64, .int .i64, .int .i64, .int .i64, .int .i64, .int .i64, .int .i64, .int .i64, .int .i64, .int .i64, .int .i64, .int .i64, .int .i64, .int .i64, .int .i64, .int .i64, .int .i64, .int .i64, .int .i64, .int .i64, .int .i64, .int .i64, .int .i64, .int .i64, .int .i64, .int .i64, .int .i64, .int .i64, .int .i64, .int .i64, .int .i64, .int .i64, .int .i64, .int .i64, .int .i64, .int .i64, .int .i64, .int .i64, .int .i64, .int .i64, .int .i64, .int .i64, .int .i64, .int .i64, .int .i64, .int .i64, .int .i64, .int .i64, .int .i64, .int .i64, .int .i64, .int .i64, .int .i64, .int .i64, .int .i64, .int .i64, .int .i64, .int .i64], kind := .arr 64 3 }),
  (46, { size := 3, bytes := 40, zero := [.bool, .int .i64, .slc], kind := .strct [(0, 4), (1, 3), (2, 22)] }),
  (40, { size := 1, bytes := 24, zero := [.slc], kind := .slc 46 }),
  (76, { size := 2, bytes := 24, zero := [.str, .int .i64], kind := .strct [(0, 9), (1, 3)] }),
  (82, { size := 1, bytes := 24, zero := [.slc], kind := .slc 76 }),
  (72, { size := 1, bytes := 8, zero := [.map], kind := .mp 76 4 })]
theorem tok : TOk Try.prog T := TOk.of (by kernel_rfl)
end Go.Proofs.Ytmgcoopmbohkoaa

namespace Go.Proofs.Ytmgcoopmbohkoaa
open Go Go.Idl
set_option linter.unusedSimpArgs false
set_option linter.unusedVariables false
set_option maxRecDepth 100000
set_option maxHeartbeats 1000000
attribute [local irreducible] Go.Idl.IWP Go.Idl.IOps Go.Idl.Obl Go.Idl.OpG Go.Idl.thenI Go.Idl.inBlockI Go.Idl.LoopU Go.Idl.noGotoI Go.Idl.jumpI
abbrev Ks := List UInt8
theorem bl_lt : ∀ a b : List UInt8, Op.bytesLess a b = decide (a < b)
  | [], [] => by simp [Op.bytesLess]
  | [], y :: b => by simp [Op.bytesLess]
  | x :: a, [] => by simp [Op.bytesLess]
  | x :: a, y :: b => by
    have ih := bl_lt a b
    rw [Op.bytesLess, ih]
    simp only [List.cons_lt_cons_iff]
    by_cases h1 : x < y
    · simp [h1]
    · by_cases h2 : x = y
      · simp [h2]
      · simp [h1, h2]
def cS (x y : Ks) : Int := if Op.bytesLess x y then -1 else 0
theorem cS_lt (x y : Ks) : decide (cS x y < 0) = Op.bytesLess x y := by
  unfold cS
  cases Op.bytesLess x y <;> decide
theorem cS_iff {x y : Ks} : cS x y < 0 ↔ x < y := by
  have := cS_lt x y
  rw [bl_lt] at this
  exact decide_eq_decide.1 this
theorem cS_ord : OrdL fun x y => decide (cS x y < 0) := by
  refine ⟨fun x y h => ?_, fun x y z h k => ?_⟩
  · have h := cS_iff.1 (of_decide_eq_true h)
    exact decide_eq_false fun k => List.lt_asymm h (cS_iff.1 k)
  · have h := fun e => of_decide_eq_false h (cS_iff.2 e)
    have k := fun e => of_decide_eq_false k (cS_iff.2 e)
    refine decide_eq_false fun e => ?_
    have e := cS_iff.1 e
    exact absurd (List.le_trans (List.not_lt.1 k) (List.not_lt.1 h)) (List.not_le.2 e)
theorem isnan_spec (a : Ks) : Idl.Spec Try.prog 66 [.sc (.string ⟨⟨a⟩⟩)] [] (Only (.sc (.bool false)) []) := by
  refine sB Try.func66 Try.ntmps66 ?_
  repeat' (first|refine IOps_nil ?_|refine oS ?_|refine IOps_s rfl rfl ?_|refine oT ?_|refine IOps_s0 rfl ?_|refine oZ ?_|refine oI ?_|refine oAB ?_|refine thenI_n ?_|refine IWP_seq ?_|refine IWP_region ?_|refine IWP_ct rfl ?_|refine IWP_cf rfl ?_|refine IWP_skip ?_|refine IWP_ret ?_|refine IWP_block ?_|refine inB_n ?_|refine thenI_r ?_|refine thenI_e ?_|refine inB_r ?_|refine inB_hit ?_|refine inB_miss rfl ?_|refine IWP_exit ?_|refine IWP_scope ?_|refine IWP_label ?_|refine noG_n ?_|refine noG_r ?_|refine noG_e ?_|refine jmp_n ?_|refine jmp_r ?_|refine jmp_e ?_|refine jmp_g ?_|refine thenI_g ?_|refine inB_g ?_|refine IWP_goto ?_|refine Loop_n ?_|fail)
  exact pD [] ⟨rfl, rfl⟩
theorem less_spec (a b : Ks) : Idl.Spec Try.prog 60 [.sc (.string ⟨⟨a⟩⟩), .sc (.string ⟨⟨b⟩⟩)] [] (Only (.sc (.bool (decide (cS a b < 0)))) []) := by
  rw [cS_lt]
  refine sB Try.func60 Try.ntmps60 ?_
  repeat' (first|refine IOps_nil ?_|refine oS ?_|refine IOps_s rfl rfl ?_|refine oT ?_|refine IOps_s0 rfl ?_|refine oC (π:=[]) (hs:=by first|exact isnan_spec _|fail) (hx:=?_)|refine oZ ?_|refine oI ?_|refine oAB ?_|refine thenI_n ?_|refine IWP_seq ?_|refine IWP_region ?_|refine IWP_ct rfl ?_|refine IWP_cf rfl ?_|refine IWP_skip ?_|refine IWP_ret ?_|refine IWP_block ?_|refine inB_n ?_|refine thenI_r ?_|refine thenI_e ?_|refine inB_r ?_|refine inB_hit ?_|refine inB_miss rfl ?_|refine IWP_exit ?_|refine IWP_scope ?_|refine IWP_label ?_|refine noG_n ?_|refine noG_r ?_|refine noG_e ?_|refine jmp_n ?_|refine jmp_r ?_|refine jmp_e ?_|refine jmp_g ?_|refine thenI_g ?_|refine inB_g ?_|refine IWP_goto ?_|refine Loop_n ?_|fail)
  exact pD [] ⟨rfl, rfl⟩
end Go.Proofs.Ytmgcoopmbohkoaa

namespace Go.Proofs.Ytmgcoopmbohkoaa
open Go Go.Idl
set_option linter.unusedSimpArgs false
set_option linter.unusedVariables false
set_option maxRecDepth 100000
set_option maxHeartbeats 1000000
attribute [local irreducible] Go.Idl.IWP Go.Idl.IOps Go.Idl.Obl Go.Idl.OpG Go.Idl.thenI Go.Idl.inBlockI Go.Idl.LoopU Go.Idl.noGotoI Go.Idl.jumpI
attribute [local go_sem] List.length_set

/-! ### Sorting strs -/

theorem isort_spec (L : List Ks) (a b cap : Nat) (oc : OrdL fun x y => decide (cS x y < 0)) (hab : a ≤ b) (hb : b ≤ L.length) (hL : L.length ≤ 1000000000) :
    Idl.Spec Try.prog 54 [.sl 0 0 L.length cap 1, .i64 a, .i64 b] [.arr false (strs L)]
      (Ex (fun M : List Ks => PS a b L M ∧ SS (fun x y => decide (cS x y < 0)) a b M) (fun _ => .tup []) (fun M => [.arr false (strs M)])) := by
  refine sE Try.func54 Try.ntmps54 ?_
  repeat' (first|refine IOps_nil ?_|refine oS ?_|refine IOps_s rfl rfl ?_|refine oT ?_|refine IOps_s0 rfl ?_|refine oZ ?_|refine oI ?_|refine oAB ?_|refine thenI_n ?_|refine IWP_seq ?_|refine IWP_region ?_|refine IWP_ct rfl ?_|refine IWP_cf rfl ?_|refine IWP_skip ?_|refine IWP_ret ?_|refine IWP_block ?_|refine inB_n ?_|refine thenI_r ?_|refine thenI_e ?_|refine inB_r ?_|refine inB_hit ?_|refine inB_miss rfl ?_|refine IWP_exit ?_|refine IWP_scope ?_|refine IWP_label ?_|refine noG_n ?_|refine noG_r ?_|refine noG_e ?_|refine jmp_n ?_|refine jmp_r ?_|refine jmp_e ?_|refine jmp_g ?_|refine thenI_g ?_|refine inB_g ?_|refine IWP_goto ?_|refine Loop_n ?_|refine oD (id:=4) W54_4 [] O54_4 [_,_,_,_,_,_,_,_,_,_,_,_,_,_,_] [_] rfl (by repeat' (first|exact trivial|refine And.intro ?_ ?_|exact bS|exact bX|exact bZ|exact bI|fail)) ?_|refine oD (id:=6) W54_6 [15, 17] O54_6 [_,_,_,_,_,_,_,_,_,_,_,_,_,_,_,_,_,_] [_,_,_] rfl (by repeat' (first|exact trivial|refine And.intro ?_ ?_|exact bS|exact bX|exact bZ|exact bI|fail)) ?_|fail)
  refine IWP_loop (fun x : List Ks × Nat => ⟨49, [(0, .sl 0 0 L.length cap 1), (1, .i64 a), (2, .i64 b), (6, .i64 x.2)], [.arr false (strs x.1)]⟩)
    (fun x => PS a b L x.1 ∧ SS (fun x y => decide (cS x y < 0)) a x.2 x.1 ∧ a + 1 ≤ x.2 ∧ (x.2 ≤ b ∨ x.2 = a + 1)) (fun x => b - x.2) (L, a + 1) (lP [0]) ⟨.refl _ _ _, fun p q h1 h2 h3 => by omega, by simp, .inr rfl⟩ ?_
  rintro ⟨M, i⟩ ⟨hp, hs, hi1, hi2⟩
  have hl := hp.len
  simp only at hs hi1 hi2 hl ⊢
  by_cases hib : i < b
  · repeat' (first|refine IOps_nil ?_|refine oS ?_|refine IOps_s rfl rfl ?_|refine oT ?_|refine IOps_s0 rfl ?_|refine oZ ?_|refine oI ?_|refine oAB ?_|refine thenI_n ?_|refine IWP_seq ?_|refine IWP_region ?_|refine IWP_ct rfl ?_|refine IWP_cf rfl ?_|refine IWP_skip ?_|refine IWP_ret ?_|refine IWP_block ?_|refine inB_n ?_|refine thenI_r ?_|refine thenI_e ?_|refine inB_r ?_|refine inB_hit ?_|refine inB_miss rfl ?_|refine IWP_exit ?_|refine IWP_scope ?_|refine IWP_label ?_|refine noG_n ?_|refine noG_r ?_|refine noG_e ?_|refine jmp_n ?_|refine jmp_r ?_|refine jmp_e ?_|refine jmp_g ?_|refine thenI_g ?_|refine inB_g ?_|refine IWP_goto ?_|refine Loop_n ?_|refine oD (id:=4) W54_4 [] O54_4 [_,_,_,_,_,_,_,_,_,_,_,_,_,_,_] [_] rfl (by repeat' (first|exact trivial|refine And.intro ?_ ?_|exact bS|exact bX|exact bZ|exact bI|fail)) ?_|refine oD (id:=6) W54_6 [15, 17] O54_6 [_,_,_,_,_,_,_,_,_,_,_,_,_,_,_,_,_,_] [_,_,_] rfl (by repeat' (first|exact trivial|refine And.intro ?_ ?_|exact bS|exact bX|exact bZ|exact bI|fail)) ?_|fail)
    refine IWP_loop (fun x : List Ks × Nat => ⟨49, [(0, .sl 0 0 L.length cap 1), (1, .i64 a), (2, .i64 b), (6, .i64 i), (7, .i64 x.2)], [.arr false (strs x.1)]⟩)
      (fun x => PS a b L x.1 ∧ InsI (fun x y => decide (cS x y < 0)) a i x.2 x.1 ∧ a ≤ x.2 ∧ x.2 ≤ i) (fun x => x.2) (M, i) (lP [0]) ⟨hp, InsI.start hs, by omega, Nat.le_refl _⟩ ?_
    rintro ⟨N, j⟩ ⟨hp, hs, hj1, hj2⟩
    have hl := hp.len
    simp only at hs hj1 hj2 hl ⊢
    replace hp : PS a b L N := hp
    by_cases hja : a < j
    · by_cases hlt : cS (gd N j) (gd N (j - 1)) < 0
      · repeat' (first|refine IOps_nil ?_|refine oS ?_|refine IOps_s rfl rfl ?_|refine oT ?_|refine IOps_s0 rfl ?_|refine oC (π:=[]) (hs:=by first|exact less_spec _ _|fail) (hx:=?_)|refine oZ ?_|refine oI ?_|refine oAB ?_|refine thenI_n ?_|refine IWP_seq ?_|refine IWP_region ?_|refine IWP_ct rfl ?_|refine IWP_cf rfl ?_|refine IWP_skip ?_|refine IWP_ret ?_|refine IWP_block ?_|refine inB_n ?_|refine thenI_r ?_|refine thenI_e ?_|refine inB_r ?_|refine inB_hit ?_|refine inB_miss rfl ?_|refine IWP_exit ?_|refine IWP_scope ?_|refine IWP_label ?_|refine noG_n ?_|refine noG_r ?_|refine noG_e ?_|refine jmp_n ?_|refine jmp_r ?_|refine jmp_e ?_|refine jmp_g ?_|refine thenI_g ?_|refine inB_g ?_|refine IWP_goto ?_|refine Loop_n ?_|refine oD (id:=4) W54_4 [] O54_4 [_,_,_,_,_,_,_,_,_,_,_,_,_,_,_] [_] rfl (by repeat' (first|exact trivial|refine And.intro ?_ ?_|exact bS|exact bX|exact bZ|exact bI|exact bC (π:=[]) (hs:=by first|exact less_spec _ _|fail)|fail)) ?_|refine oD (id:=6) W54_6 [15, 17] O54_6 [_,_,_,_,_,_,_,_,_,_,_,_,_,_,_,_,_,_] [_,_,_] rfl (by repeat' (first|exact trivial|refine And.intro ?_ ?_|exact bS|exact bX|exact bZ|exact bI|exact bC (π:=[]) (hs:=by first|exact less_spec _ _|fail)|fail)) ?_|fail)
        refine ⟨(sw N j (j - 1), j - 1), ⟨hp.trans (.sw (by omega) (by omega) (by omega) (by omega) (by omega)), InsI.step oc hs hja hj2 (by omega) (decide_eq_true hlt), by omega, by omega⟩, by simp only; omega, lP [0]⟩
      · repeat' (first|refine IOps_nil ?_|refine oS ?_|refine IOps_s rfl rfl ?_|refine oT ?_|refine IOps_s0 rfl ?_|refine oC (π:=[]) (hs:=by first|exact less_spec _ _|fail) (hx:=?_)|refine oZ ?_|refine oI ?_|refine oAB ?_|refine thenI_n ?_|refine IWP_seq ?_|refine IWP_region ?_|refine IWP_ct rfl ?_|refine IWP_cf rfl ?_|refine IWP_skip ?_|refine IWP_ret ?_|refine IWP_block ?_|refine inB_n ?_|refine thenI_r ?_|refine thenI_e ?_|refine inB_r ?_|refine inB_hit ?_|refine inB_miss rfl ?_|refine IWP_exit ?_|refine IWP_scope ?_|refine IWP_label ?_|refine noG_n ?_|refine noG_r ?_|refine noG_e ?_|refine jmp_n ?_|refine jmp_r ?_|refine jmp_e ?_|refine jmp_g ?_|refine thenI_g ?_|refine inB_g ?_|refine IWP_goto ?_|refine Loop_n ?_|refine oD (id:=4) W54_4 [] O54_4 [_,_,_,_,_,_,_,_,_,_,_,_,_,_,_] [_] rfl (by repeat' (first|exact trivial|refine And.intro ?_ ?_|exact bS|exact bX|exact bZ|exact bI|exact bC (π:=[]) (hs:=by first|exact less_spec _ _|fail)|fail)) ?_|refine oD (id:=6) W54_6 [15, 17] O54_6 [_,_,_,_,_,_,_,_,_,_,_,_,_,_,_,_,_,_] [_,_,_] rfl (by repeat' (first|exact trivial|refine And.intro ?_ ?_|exact bS|exact bX|exact bZ|exact bI|exact bC (π:=[]) (hs:=by first|exact less_spec _ _|fail)|fail)) ?_|fail)
        exact ⟨(N, i + 1), ⟨hp, InsI.fits oc hs hja (decide_eq_false hlt), by omega, .inl (by omega)⟩, by simp only; omega, lP [0]⟩
    · obtain rfl : j = a := by omega
      repeat' (first|refine IOps_nil ?_|refine oS ?_|refine IOps_s rfl rfl ?_|refine oT ?_|refine IOps_s0 rfl ?_|refine oC (π:=[]) (hs:=by first|exact less_spec _ _|fail) (hx:=?_)|refine oZ ?_|refine oI ?_|refine oAB ?_|refine thenI_n ?_|refine IWP_seq ?_|refine IWP_region ?_|refine IWP_ct rfl ?_|refine IWP_cf rfl ?_|refine IWP_skip ?_|refine IWP_ret ?_|refine IWP_block ?_|refine inB_n ?_|refine thenI_r ?_|refine thenI_e ?_|refine inB_r ?_|refine inB_hit ?_|refine inB_miss rfl ?_|refine IWP_exit ?_|refine IWP_scope ?_|refine IWP_label ?_|refine noG_n ?_|refine noG_r ?_|refine noG_e ?_|refine jmp_n ?_|refine jmp_r ?_|refine jmp_e ?_|refine jmp_g ?_|refine thenI_g ?_|refine inB_g ?_|refine IWP_goto ?_|refine Loop_n ?_|refine oD (id:=4) W54_4 [] O54_4 [_,_,_,_,_,_,_,_,_,_,_,_,_,_,_] [_] rfl (by repeat' (first|exact trivial|refine And.intro ?_ ?_|exact bS|exact bX|exact bZ|exact bI|exact bC (π:=[]) (hs:=by first|exact less_spec _ _|fail)|fail)) ?_|refine oD (id:=6) W54_6 [15, 17] O54_6 [_,_,_,_,_,_,_,_,_,_,_,_,_,_,_,_,_,_] [_,_,_] rfl (by repeat' (first|exact trivial|refine And.intro ?_ ?_|exact bS|exact bX|exact bZ|exact bI|exact bC (π:=[]) (hs:=by first|exact less_spec _ _|fail)|fail)) ?_|fail)
      exact ⟨(N, i + 1), ⟨hp, InsI.stop hs, by omega, .inl (by omega)⟩, by simp only; omega, lP [0]⟩
  · repeat' (first|refine IOps_nil ?_|refine oS ?_|refine IOps_s rfl rfl ?_|refine oT ?_|refine IOps_s0 rfl ?_|refine oC (π:=[]) (hs:=by first|exact less_spec _ _|fail) (hx:=?_)|refine oZ ?_|refine oI ?_|refine oAB ?_|refine thenI_n ?_|refine IWP_seq ?_|refine IWP_region ?_|refine IWP_ct rfl ?_|refine IWP_cf rfl ?_|refine IWP_skip ?_|refine IWP_ret ?_|refine IWP_block ?_|refine inB_n ?_|refine thenI_r ?_|refine thenI_e ?_|refine inB_r ?_|refine inB_hit ?_|refine inB_miss rfl ?_|refine IWP_exit ?_|refine IWP_scope ?_|refine IWP_label ?_|refine noG_n ?_|refine noG_r ?_|refine noG_e ?_|refine jmp_n ?_|refine jmp_r ?_|refine jmp_e ?_|refine jmp_g ?_|refine thenI_g ?_|refine inB_g ?_|refine IWP_goto ?_|refine Loop_n ?_|refine oD (id:=4) W54_4 [] O54_4 [_,_,_,_,_,_,_,_,_,_,_,_,_,_,_] [_] rfl (by repeat' (first|exact trivial|refine And.intro ?_ ?_|exact bS|exact bX|exact bZ|exact bI|exact bC (π:=[]) (hs:=by first|exact less_spec _ _|fail)|fail)) ?_|refine oD (id:=6) W54_6 [15, 17] O54_6 [_,_,_,_,_,_,_,_,_,_,_,_,_,_,_,_,_,_] [_,_,_] rfl (by repeat' (first|exact trivial|refine And.intro ?_ ?_|exact bS|exact bX|exact bZ|exact bI|exact bC (π:=[]) (hs:=by first|exact less_spec _ _|fail)|fail)) ?_|fail)
    exact pX [0] M ⟨hp, fun p q h1 h2 h3 => hs p q h1 h2 (by omega)⟩ rfl

end Go.Proofs.Ytmgcoopmbohkoaa

namespace Go.Proofs.Ytmgcoopmbohkoaa
open Go Go.Idl
set_option linter.unusedSimpArgs false
set_option linter.unusedVariables false
set_option linter.unusedSectionVars false
set_option maxRecDepth 100000
set_option maxHeartbeats 1000000
attribute [local irreducible] Go.Idl.IWP Go.Idl.IOps Go.Idl.Obl Go.Idl.OpG Go.Idl.thenI Go.Idl.inBlockI Go.Idl.LoopU Go.Idl.noGotoI Go.Idl.jumpI
attribute [local go_sem] List.length_set
theorem tn_x1 (r : Nat) : (2 : Int) * r + 1 = ((2 * r + 1 : Nat) : Int) := by omega
theorem tn_x2 (f k : Nat) : ((f : Int) + ((k : Int) + 1)).toNat = f + (k + 1) := by omega
theorem tn_x3 (a b : Nat) : ((a : Int) + (b : Int) + 1).toNat = a + b + 1 := by omega
attribute [local go_sem] tn_x1 tn_x2 tn_x3
theorem sift_spec (L : List Ks) (lo hi f cap : Nat) (oc : OrdL fun x y => decide (cS x y < 0)) (hf : f + hi ≤ L.length) (hL : L.length ≤ 1000000000) (hlo : lo ≤ 1000000000) (hH : HP (fun x y => decide (cS x y < 0)) f (lo + 1) hi L) :
    Idl.Spec Try.prog 68 [.sl 0 0 L.length cap 1, .i64 lo, .i64 hi, .i64 f] [.arr false (strs L)]
      (Ex (fun M : List Ks => PS f (f + hi) L M ∧ HP (fun x y => decide (cS x y < 0)) f lo hi M) (fun _ => .tup []) (fun M => [.arr false (strs M)])) := by
  refine sE Try.func68 Try.ntmps68 ?_
  repeat' (first|refine IOps_nil ?_|refine oS ?_|refine IOps_s rfl rfl ?_|refine oT ?_|refine IOps_s0 rfl ?_|refine oC (π:=[]) (hs:=by first|exact less_spec _ _|fail) (hx:=?_)|refine oZ ?_|refine oI ?_|refine oAB ?_|refine thenI_n ?_|refine IWP_seq ?_|refine IWP_region ?_|refine IWP_ct rfl ?_|refine IWP_cf rfl ?_|refine IWP_skip ?_|refine IWP_ret ?_|refine IWP_block ?_|refine inB_n ?_|refine thenI_r ?_|refine thenI_e ?_|refine inB_r ?_|refine inB_hit ?_|refine inB_miss rfl ?_|refine IWP_exit ?_|refine IWP_scope ?_|refine IWP_label ?_|refine noG_n ?_|refine noG_r ?_|refine noG_e ?_|refine jmp_n ?_|refine jmp_r ?_|refine jmp_e ?_|refine jmp_g ?_|refine thenI_g ?_|refine inB_g ?_|refine IWP_goto ?_|refine Loop_n ?_|refine oD (id:=3) W68_3 [] O68_3 [_,_,_,_,_,_,_,_,_,_,_,_,_,_,_,_,_,_,_,_] [_] rfl (by repeat' (first|exact trivial|refine And.intro ?_ ?_|exact bS|exact bX|exact bZ|exact bI|exact bC (π:=[]) (hs:=by first|exact less_spec _ _|fail)|fail)) ?_|refine oD (id:=5) W68_5 [] O68_5 [_,_,_,_,_,_,_,_,_,_,_,_,_,_] [_] rfl (by repeat' (first|exact trivial|refine And.intro ?_ ?_|exact bS|exact bX|exact bZ|exact bI|exact bC (π:=[]) (hs:=by first|exact less_spec _ _|fail)|fail)) ?_|refine oD (id:=6) W68_6 [21, 23] O68_6 [_,_,_,_,_,_,_,_,_,_,_,_,_,_,_,_,_,_,_,_,_,_,_,_] [_,_,_] rfl (by repeat' (first|exact trivial|refine And.intro ?_ ?_|exact bS|exact bX|exact bZ|exact bI|exact bC (π:=[]) (hs:=by first|exact less_spec _ _|fail)|fail)) ?_|fail)
  refine IWP_loop (fun x : List Ks × Nat => ⟨76, [(0, .sl 0 0 L.length cap 1), (1, .i64 lo), (2, .i64 hi), (3, .i64 f), (8, .i64 x.2)], [.arr false (strs x.1)]⟩)
    (fun x => PS f (f + hi) L x.1 ∧ Dn (fun x y => decide (cS x y < 0)) f lo hi x.2 x.1 ∧ lo ≤ x.2 ∧ (x.2 < hi ∨ x.2 = lo)) (fun x => hi - x.2) (L, lo) (lP [0]) ⟨.refl _ _ _, Dn.start hH, Nat.le_refl _, .inr rfl⟩ ?_
  rintro ⟨M, r⟩ ⟨hp, hs, hr, hr2⟩
  replace hp : PS f (f + hi) L M := hp
  have hl := hp.len
  simp only at hs hr hr2 ⊢
  by_cases h1 : 2 * r + 1 < hi
  · have e1 : f + (2 * r + 1) < M.length := by omega
    by_cases h2 : 2 * r + 2 < hi
    · by_cases h3 : cS (gd M (f + (2 * r + 1))) (gd M (f + (2 * r + 1) + 1)) < 0
      · by_cases h4 : cS (gd M (f + r)) (gd M (f + (2 * r + 1 + 1))) < 0
        · repeat' (first|refine IOps_nil ?_|refine oS ?_|refine IOps_s rfl rfl ?_|refine oT ?_|refine IOps_s0 rfl ?_|refine oC (π:=[]) (hs:=by first|exact less_spec _ _|fail) (hx:=?_)|refine oZ ?_|refine oI ?_|refine oAB ?_|refine thenI_n ?_|refine IWP_seq ?_|refine IWP_region ?_|refine IWP_ct rfl ?_|refine IWP_cf rfl ?_|refine IWP_skip ?_|refine IWP_ret ?_|refine IWP_block ?_|refine inB_n ?_|refine thenI_r ?_|refine thenI_e ?_|refine inB_r ?_|refine inB_hit ?_|refine inB_miss rfl ?_|refine IWP_exit ?_|refine IWP_scope ?_|refine IWP_label ?_|refine noG_n ?_|refine noG_r ?_|refine noG_e ?_|refine jmp_n ?_|refine jmp_r ?_|refine jmp_e ?_|refine jmp_g ?_|refine thenI_g ?_|refine inB_g ?_|refine IWP_goto ?_|refine Loop_n ?_|refine oD (id:=3) W68_3 [] O68_3 [_,_,_,_,_,_,_,_,_,_,_,_,_,_,_,_,_,_,_,_] [_] rfl (by repeat' (first|exact trivial|refine And.intro ?_ ?_|exact bS|exact bX|exact bZ|exact bI|exact bC (π:=[]) (hs:=by first|exact less_spec _ _|fail)|fail)) ?_|refine oD (id:=5) W68_5 [] O68_5 [_,_,_,_,_,_,_,_,_,_,_,_,_,_] [_] rfl (by repeat' (first|exact trivial|refine And.intro ?_ ?_|exact bS|exact bX|exact bZ|exact bI|exact bC (π:=[]) (hs:=by first|exact less_spec _ _|fail)|fail)) ?_|refine oD (id:=6) W68_6 [21, 23] O68_6 [_,_,_,_,_,_,_,_,_,_,_,_,_,_,_,_,_,_,_,_,_,_,_,_] [_,_,_] rfl (by repeat' (first|exact trivial|refine And.intro ?_ ?_|exact bS|exact bX|exact bZ|exact bI|exact bC (π:=[]) (hs:=by first|exact less_spec _ _|fail)|fail)) ?_|fail)
          refine ⟨(sw M (f + r) (f + (2 * r + 2)), 2 * r + 2), ⟨hp.trans (.sw (by omega) (by omega) (by omega) (by omega) (by omega)), Dn.step oc hs hr (.inr rfl) h2 (by omega) (decide_eq_true h4) (fun d hd hd2 => ?_), by omega, .inl h2⟩, by simp only; omega, lP [0]⟩
          rcases hd with rfl | rfl
          · exact oc.asym _ _ (decide_eq_true h3)
          · exact oc.irr _
        · repeat' (first|refine IOps_nil ?_|refine oS ?_|refine IOps_s rfl rfl ?_|refine oT ?_|refine IOps_s0 rfl ?_|refine oC (π:=[]) (hs:=by first|exact less_spec _ _|fail) (hx:=?_)|refine oZ ?_|refine oI ?_|refine oAB ?_|refine thenI_n ?_|refine IWP_seq ?_|refine IWP_region ?_|refine IWP_ct rfl ?_|refine IWP_cf rfl ?_|refine IWP_skip ?_|refine IWP_ret ?_|refine IWP_block ?_|refine inB_n ?_|refine thenI_r ?_|refine thenI_e ?_|refine inB_r ?_|refine inB_hit ?_|refine inB_miss rfl ?_|refine IWP_exit ?_|refine IWP_scope ?_|refine IWP_label ?_|refine noG_n ?_|refine noG_r ?_|refine noG_e ?_|refine jmp_n ?_|refine jmp_r ?_|refine jmp_e ?_|refine jmp_g ?_|refine thenI_g ?_|refine inB_g ?_|refine IWP_goto ?_|refine Loop_n ?_|refine oD (id:=3) W68_3 [] O68_3 [_,_,_,_,_,_,_,_,_,_,_,_,_,_,_,_,_,_,_,_] [_] rfl (by repeat' (first|exact trivial|refine And.intro ?_ ?_|exact bS|exact bX|exact bZ|exact bI|exact bC (π:=[]) (hs:=by first|exact less_spec _ _|fail)|fail)) ?_|refine oD (id:=5) W68_5 [] O68_5 [_,_,_,_,_,_,_,_,_,_,_,_,_,_] [_] rfl (by repeat' (first|exact trivial|refine And.intro ?_ ?_|exact bS|exact bX|exact bZ|exact bI|exact bC (π:=[]) (hs:=by first|exact less_spec _ _|fail)|fail)) ?_|refine oD (id:=6) W68_6 [21, 23] O68_6 [_,_,_,_,_,_,_,_,_,_,_,_,_,_,_,_,_,_,_,_,_,_,_,_] [_,_,_] rfl (by repeat' (first|exact trivial|refine And.intro ?_ ?_|exact bS|exact bX|exact bZ|exact bI|exact bC (π:=[]) (hs:=by first|exact less_spec _ _|fail)|fail)) ?_|fail)
          exact pX [0] M ⟨hp, Dn.stop hs (oc.trans _ _ _ (decide_eq_false h4) (oc.asym _ _ (decide_eq_true h3))) (fun _ => decide_eq_false h4)⟩ rfl
      · by_cases h4 : cS (gd M (f + r)) (gd M (f + (2 * r + 1))) < 0
        · repeat' (first|refine IOps_nil ?_|refine oS ?_|refine IOps_s rfl rfl ?_|refine oT ?_|refine IOps_s0 rfl ?_|refine oC (π:=[]) (hs:=by first|exact less_spec _ _|fail) (hx:=?_)|refine oZ ?_|refine oI ?_|refine oAB ?_|refine thenI_n ?_|refine IWP_seq ?_|refine IWP_region ?_|refine IWP_ct rfl ?_|refine IWP_cf rfl ?_|refine IWP_skip ?_|refine IWP_ret ?_|refine IWP_block ?_|refine inB_n ?_|refine thenI_r ?_|refine thenI_e ?_|refine inB_r ?_|refine inB_hit ?_|refine inB_miss rfl ?_|refine IWP_exit ?_|refine IWP_scope ?_|refine IWP_label ?_|refine noG_n ?_|refine noG_r ?_|refine noG_e ?_|refine jmp_n ?_|refine jmp_r ?_|refine jmp_e ?_|refine jmp_g ?_|refine thenI_g ?_|refine inB_g ?_|refine IWP_goto ?_|refine Loop_n ?_|refine oD (id:=3) W68_3 [] O68_3 [_,_,_,_,_,_,_,_,_,_,_,_,_,_,_,_,_,_,_,_] [_] rfl (by repeat' (first|exact trivial|refine And.intro ?_ ?_|exact bS|exact bX|exact bZ|exact bI|exact bC (π:=[]) (hs:=by first|exact less_spec _ _|fail)|fail)) ?_|refine oD (id:=5) W68_5 [] O68_5 [_,_,_,_,_,_,_,_,_,_,_,_,_,_] [_] rfl (by repeat' (first|exact trivial|refine And.intro ?_ ?_|exact bS|exact bX|exact bZ|exact bI|exact bC (π:=[]) (hs:=by first|exact less_spec _ _|fail)|fail)) ?_|refine oD (id:=6) W68_6 [21, 23] O68_6 [_,_,_,_,_,_,_,_,_,_,_,_,_,_,_,_,_,_,_,_,_,_,_,_] [_,_,_] rfl (by repeat' (first|exact trivial|refine And.intro ?_ ?_|exact bS|exact bX|exact bZ|exact bI|exact bC (π:=[]) (hs:=by first|exact less_spec _ _|fail)|fail)) ?_|fail)
          refine ⟨(sw M (f + r) (f + (2 * r + 1)), 2 * r + 1), ⟨hp.trans (.sw (by omega) (by omega) (by omega) (by omega) (by omega)), Dn.step oc hs hr (.inl rfl) h1 (by omega) (decide_eq_true h4) (fun d hd hd2 => ?_), by omega, .inl h1⟩, by simp only; omega, lP [0]⟩
          rcases hd with rfl | rfl
          · exact oc.irr _
          · exact decide_eq_false h3
        · repeat' (first|refine IOps_nil ?_|refine oS ?_|refine IOps_s rfl rfl ?_|refine oT ?_|refine IOps_s0 rfl ?_|refine oC (π:=[]) (hs:=by first|exact less_spec _ _|fail) (hx:=?_)|refine oZ ?_|refine oI ?_|refine oAB ?_|refine thenI_n ?_|refine IWP_seq ?_|refine IWP_region ?_|refine IWP_ct rfl ?_|refine IWP_cf rfl ?_|refine IWP_skip ?_|refine IWP_ret ?_|refine IWP_block ?_|refine inB_n ?_|refine thenI_r ?_|refine thenI_e ?_|refine inB_r ?_|refine inB_hit ?_|refine inB_miss rfl ?_|refine IWP_exit ?_|refine IWP_scope ?_|refine IWP_label ?_|refine noG_n ?_|refine noG_r ?_|refine noG_e ?_|refine jmp_n ?_|refine jmp_r ?_|refine jmp_e ?_|refine jmp_g ?_|refine thenI_g ?_|refine inB_g ?_|refine IWP_goto ?_|refine Loop_n ?_|refine oD (id:=3) W68_3 [] O68_3 [_,_,_,_,_,_,_,_,_,_,_,_,_,_,_,_,_,_,_,_] [_] rfl (by repeat' (first|exact trivial|refine And.intro ?_ ?_|exact bS|exact bX|exact bZ|exact bI|exact bC (π:=[]) (hs:=by first|exact less_spec _ _|fail)|fail)) ?_|refine oD (id:=5) W68_5 [] O68_5 [_,_,_,_,_,_,_,_,_,_,_,_,_,_] [_] rfl (by repeat' (first|exact trivial|refine And.intro ?_ ?_|exact bS|exact bX|exact bZ|exact bI|exact bC (π:=[]) (hs:=by first|exact less_spec _ _|fail)|fail)) ?_|refine oD (id:=6) W68_6 [21, 23] O68_6 [_,_,_,_,_,_,_,_,_,_,_,_,_,_,_,_,_,_,_,_,_,_,_,_] [_,_,_] rfl (by repeat' (first|exact trivial|refine And.intro ?_ ?_|exact bS|exact bX|exact bZ|exact bI|exact bC (π:=[]) (hs:=by first|exact less_spec _ _|fail)|fail)) ?_|fail)
          exact pX [0] M ⟨hp, Dn.stop hs (decide_eq_false h4) (fun _ => oc.trans _ _ _ (decide_eq_false h4) (decide_eq_false h3))⟩ rfl
    · by_cases h4 : cS (gd M (f + r)) (gd M (f + (2 * r + 1))) < 0
      · repeat' (first|refine IOps_nil ?_|refine oS ?_|refine IOps_s rfl rfl ?_|refine oT ?_|refine IOps_s0 rfl ?_|refine oC (π:=[]) (hs:=by first|exact less_spec _ _|fail) (hx:=?_)|refine oZ ?_|refine oI ?_|refine oAB ?_|refine thenI_n ?_|refine IWP_seq ?_|refine IWP_region ?_|refine IWP_ct rfl ?_|refine IWP_cf rfl ?_|refine IWP_skip ?_|refine IWP_ret ?_|refine IWP_block ?_|refine inB_n ?_|refine thenI_r ?_|refine thenI_e ?_|refine inB_r ?_|refine inB_hit ?_|refine inB_miss rfl ?_|refine IWP_exit ?_|refine IWP_scope ?_|refine IWP_label ?_|refine noG_n ?_|refine noG_r ?_|refine noG_e ?_|refine jmp_n ?_|refine jmp_r ?_|refine jmp_e ?_|refine jmp_g ?_|refine thenI_g ?_|refine inB_g ?_|refine IWP_goto ?_|refine Loop_n ?_|refine oD (id:=3) W68_3 [] O68_3 [_,_,_,_,_,_,_,_,_,_,_,_,_,_,_,_,_,_,_,_] [_] rfl (by repeat' (first|exact trivial|refine And.intro ?_ ?_|exact bS|exact bX|exact bZ|exact bI|exact bC (π:=[]) (hs:=by first|exact less_spec _ _|fail)|fail)) ?_|refine oD (id:=5) W68_5 [] O68_5 [_,_,_,_,_,_,_,_,_,_,_,_,_,_] [_] rfl (by repeat' (first|exact trivial|refine And.intro ?_ ?_|exact bS|exact bX|exact bZ|exact bI|exact bC (π:=[]) (hs:=by first|exact less_spec _ _|fail)|fail)) ?_|refine oD (id:=6) W68_6 [21, 23] O68_6 [_,_,_,_,_,_,_,_,_,_,_,_,_,_,_,_,_,_,_,_,_,_,_,_] [_,_,_] rfl (by repeat' (first|exact trivial|refine And.intro ?_ ?_|exact bS|exact bX|exact bZ|exact bI|exact bC (π:=[]) (hs:=by first|exact less_spec _ _|fail)|fail)) ?_|fail)
        refine ⟨(sw M (f + r) (f + (2 * r + 1)), 2 * r + 1), ⟨hp.trans (.sw (by omega) (by omega) (by omega) (by omega) (by omega)), Dn.step oc hs hr (.inl rfl) h1 (by omega) (decide_eq_true h4) (fun d hd hd2 => ?_), by omega, .inl h1⟩, by simp only; omega, lP [0]⟩
        rcases hd with rfl | rfl
        · exact oc.irr _
        · omega
      · repeat' (first|refine IOps_nil ?_|refine oS ?_|refine IOps_s rfl rfl ?_|refine oT ?_|refine IOps_s0 rfl ?_|refine oC (π:=[]) (hs:=by first|exact less_spec _ _|fail) (hx:=?_)|refine oZ ?_|refine oI ?_|refine oAB ?_|refine thenI_n ?_|refine IWP_seq ?_|refine IWP_region ?_|refine IWP_ct rfl ?_|refine IWP_cf rfl ?_|refine IWP_skip ?_|refine IWP_ret ?_|refine IWP_block ?_|refine inB_n ?_|refine thenI_r ?_|refine thenI_e ?_|refine inB_r ?_|refine inB_hit ?_|refine inB_miss rfl ?_|refine IWP_exit ?_|refine IWP_scope ?_|refine IWP_label ?_|refine noG_n ?_|refine noG_r ?_|refine noG_e ?_|refine jmp_n ?_|refine jmp_r ?_|refine jmp_e ?_|refine jmp_g ?_|refine thenI_g ?_|refine inB_g ?_|refine IWP_goto ?_|refine Loop_n ?_|refine oD (id:=3) W68_3 [] O68_3 [_,_,_,_,_,_,_,_,_,_,_,_,_,_,_,_,_,_,_,_] [_] rfl (by repeat' (first|exact trivial|refine And.intro ?_ ?_|exact bS|exact bX|exact bZ|exact bI|exact bC (π:=[]) (hs:=by first|exact less_spec _ _|fail)|fail)) ?_|refine oD (id:=5) W68_5 [] O68_5 [_,_,_,_,_,_,_,_,_,_,_,_,_,_] [_] rfl (by repeat' (first|exact trivial|refine And.intro ?_ ?_|exact bS|exact bX|exact bZ|exact bI|exact bC (π:=[]) (hs:=by first|exact less_spec _ _|fail)|fail)) ?_|refine oD (id:=6) W68_6 [21, 23] O68_6 [_,_,_,_,_,_,_,_,_,_,_,_,_,_,_,_,_,_,_,_,_,_,_,_] [_,_,_] rfl (by repeat' (first|exact trivial|refine And.intro ?_ ?_|exact bS|exact bX|exact bZ|exact bI|exact bC (π:=[]) (hs:=by first|exact less_spec _ _|fail)|fail)) ?_|fail)
        exact pX [0] M ⟨hp, Dn.stop hs (decide_eq_false h4) (fun _ => by omega)⟩ rfl
  · repeat' (first|refine IOps_nil ?_|refine oS ?_|refine IOps_s rfl rfl ?_|refine oT ?_|refine IOps_s0 rfl ?_|refine oC (π:=[]) (hs:=by first|exact less_spec _ _|fail) (hx:=?_)|refine oZ ?_|refine oI ?_|refine oAB ?_|refine thenI_n ?_|refine IWP_seq ?_|refine IWP_region ?_|refine IWP_ct rfl ?_|refine IWP_cf rfl ?_|refine IWP_skip ?_|refine IWP_ret ?_|refine IWP_block ?_|refine inB_n ?_|refine thenI_r ?_|refine thenI_e ?_|refine inB_r ?_|refine inB_hit ?_|refine inB_miss rfl ?_|refine IWP_exit ?_|refine IWP_scope ?_|refine IWP_label ?_|refine noG_n ?_|refine noG_r ?_|refine noG_e ?_|refine jmp_n ?_|refine jmp_r ?_|refine jmp_e ?_|refine jmp_g ?_|refine thenI_g ?_|refine inB_g ?_|refine IWP_goto ?_|refine Loop_n ?_|refine oD (id:=3) W68_3 [] O68_3 [_,_,_,_,_,_,_,_,_,_,_,_,_,_,_,_,_,_,_,_] [_] rfl (by repeat' (first|exact trivial|refine And.intro ?_ ?_|exact bS|exact bX|exact bZ|exact bI|exact bC (π:=[]) (hs:=by first|exact less_spec _ _|fail)|fail)) ?_|refine oD (id:=5) W68_5 [] O68_5 [_,_,_,_,_,_,_,_,_,_,_,_,_,_] [_] rfl (by repeat' (first|exact trivial|refine And.intro ?_ ?_|exact bS|exact bX|exact bZ|exact bI|exact bC (π:=[]) (hs:=by first|exact less_spec _ _|fail)|fail)) ?_|refine oD (id:=6) W68_6 [21, 23] O68_6 [_,_,_,_,_,_,_,_,_,_,_,_,_,_,_,_,_,_,_,_,_,_,_,_] [_,_,_] rfl (by repeat' (first|exact trivial|refine And.intro ?_ ?_|exact bS|exact bX|exact bZ|exact bI|exact bC (π:=[]) (hs:=by first|exact less_spec _ _|fail)|fail)) ?_|fail)
    exact pX [0] M ⟨hp, Dn.leaf hs (by omega)⟩ rfl

theorem rev_spec (L : List Ks) (a b cap : Nat) (hab : a ≤ b) (hb : b ≤ L.length) (hL : L.length ≤ 1000000000) :
    Idl.Spec Try.prog 58 [.sl 0 0 L.length cap 1, .i64 a, .i64 b] [.arr false (strs L)]
      (Ex (fun M : List Ks => PS a b L M) (fun _ => .tup []) (fun M => [.arr false (strs M)])) := by
  refine sE Try.func58 Try.ntmps58 ?_
  repeat' (first|refine IOps_nil ?_|refine oS ?_|refine IOps_s rfl rfl ?_|refine oT ?_|refine IOps_s0 rfl ?_|refine oC (π:=[]) (hs:=by first|exact less_spec _ _|fail) (hx:=?_)|refine oZ ?_|refine oI ?_|refine oAB ?_|refine thenI_n ?_|refine IWP_seq ?_|refine IWP_region ?_|refine IWP_ct rfl ?_|refine IWP_cf rfl ?_|refine IWP_skip ?_|refine IWP_ret ?_|refine IWP_block ?_|refine inB_n ?_|refine thenI_r ?_|refine thenI_e ?_|refine inB_r ?_|refine inB_hit ?_|refine inB_miss rfl ?_|refine IWP_exit ?_|refine IWP_scope ?_|refine IWP_label ?_|refine noG_n ?_|refine noG_r ?_|refine noG_e ?_|refine jmp_n ?_|refine jmp_r ?_|refine jmp_e ?_|refine jmp_g ?_|refine thenI_g ?_|refine inB_g ?_|refine IWP_goto ?_|refine Loop_n ?_|refine oD (id:=3) W58_3 [13, 15] O58_3 [_,_,_,_,_,_,_,_,_,_,_,_,_,_,_,_] [_,_,_] rfl (by repeat' (first|exact trivial|refine And.intro ?_ ?_|exact bS|exact bX|exact bZ|exact bI|exact bC (π:=[]) (hs:=by first|exact less_spec _ _|fail)|fail)) ?_|fail)
  refine IWP_loop (fun x : List Ks × Nat => ⟨32, [(0, .sl 0 0 L.length cap 1), (6, .i64 ((a : Int) + x.2)), (7, .i64 ((b : Int) - 1 - x.2))], [.arr false (strs x.1)]⟩)
    (fun x => PS a b L x.1 ∧ x.2 ≤ b) (fun x => b - x.2) (L, 0) (lP [0]) ⟨.refl _ _ _, Nat.zero_le _⟩ ?_
  rintro ⟨M, t⟩ ⟨hp, ht⟩
  replace hp : PS a b L M := hp
  have hl := hp.len
  simp only at ht ⊢
  by_cases h1 : a + t + 1 + t < b
  · obtain ⟨u, hu⟩ : ∃ u : Nat, (b : Int) - 1 - t = u := ⟨b - 1 - t, by omega⟩
    rw [hu]
    repeat' (first|refine IOps_nil ?_|refine oS ?_|refine IOps_s rfl rfl ?_|refine oT ?_|refine IOps_s0 rfl ?_|refine oC (π:=[]) (hs:=by first|exact less_spec _ _|fail) (hx:=?_)|refine oZ ?_|refine oI ?_|refine oAB ?_|refine thenI_n ?_|refine IWP_seq ?_|refine IWP_region ?_|refine IWP_ct rfl ?_|refine IWP_cf rfl ?_|refine IWP_skip ?_|refine IWP_ret ?_|refine IWP_block ?_|refine inB_n ?_|refine thenI_r ?_|refine thenI_e ?_|refine inB_r ?_|refine inB_hit ?_|refine inB_miss rfl ?_|refine IWP_exit ?_|refine IWP_scope ?_|refine IWP_label ?_|refine noG_n ?_|refine noG_r ?_|refine noG_e ?_|refine jmp_n ?_|refine jmp_r ?_|refine jmp_e ?_|refine jmp_g ?_|refine thenI_g ?_|refine inB_g ?_|refine IWP_goto ?_|refine Loop_n ?_|refine oD (id:=3) W58_3 [13, 15] O58_3 [_,_,_,_,_,_,_,_,_,_,_,_,_,_,_,_] [_,_,_] rfl (by repeat' (first|exact trivial|refine And.intro ?_ ?_|exact bS|exact bX|exact bZ|exact bI|exact bC (π:=[]) (hs:=by first|exact less_spec _ _|fail)|fail)) ?_|fail)
    exact ⟨(sw M (a + t) u, t + 1), ⟨hp.trans (.sw (by omega) (by omega) (by omega) (by omega) (by omega)), by omega⟩, by simp only; omega, lP [0]⟩
  · repeat' (first|refine IOps_nil ?_|refine oS ?_|refine IOps_s rfl rfl ?_|refine oT ?_|refine IOps_s0 rfl ?_|refine oC (π:=[]) (hs:=by first|exact less_spec _ _|fail) (hx:=?_)|refine oZ ?_|refine oI ?_|refine oAB ?_|refine thenI_n ?_|refine IWP_seq ?_|refine IWP_region ?_|refine IWP_ct rfl ?_|refine IWP_cf rfl ?_|refine IWP_skip ?_|refine IWP_ret ?_|refine IWP_block ?_|refine inB_n ?_|refine thenI_r ?_|refine thenI_e ?_|refine inB_r ?_|refine inB_hit ?_|refine inB_miss rfl ?_|refine IWP_exit ?_|refine IWP_scope ?_|refine IWP_label ?_|refine noG_n ?_|refine noG_r ?_|refine noG_e ?_|refine jmp_n ?_|refine jmp_r ?_|refine jmp_e ?_|refine jmp_g ?_|refine thenI_g ?_|refine inB_g ?_|refine IWP_goto ?_|refine Loop_n ?_|refine oD (id:=3) W58_3 [13, 15] O58_3 [_,_,_,_,_,_,_,_,_,_,_,_,_,_,_,_] [_,_,_] rfl (by repeat' (first|exact trivial|refine And.intro ?_ ?_|exact bS|exact bX|exact bZ|exact bI|exact bC (π:=[]) (hs:=by first|exact less_spec _ _|fail)|fail)) ?_|fail)
    exact pX [0] M hp rfl
end Go.Proofs.Ytmgcoopmbohkoaa

namespace Go.Proofs.Ytmgcoopmbohkoaa
open Go Go.Idl
set_option linter.unusedSimpArgs false
set_option linter.unusedVariables false
set_option maxRecDepth 100000
set_option maxHeartbeats 1000000
attribute [local irreducible] Go.Idl.IWP Go.Idl.IOps Go.Idl.Obl Go.Idl.OpG Go.Idl.thenI Go.Idl.inBlockI Go.Idl.LoopU Go.Idl.noGotoI Go.Idl.jumpI
attribute [local go_sem] List.length_set
theorem half_eq (a b : Nat) (hab : a ≤ b) (hb : b ≤ 1000000000) : IntKind.i64.wrap (((b : Int) - a - 1).tdiv 2) = (((b - a - 1) / 2 : Nat) : Int) := by
  have h : ((b : Int) - a - 1).tdiv 2 = (((b - a - 1) / 2 : Nat) : Int) := by
    rcases Nat.eq_or_lt_of_le hab with rfl | h
    · rw [show (a : Int) - a - 1 = -1 by omega, show a - a - 1 = 0 by omega]; rfl
    · rw [show (b : Int) - a - 1 = ((b - a - 1 : Nat) : Int) by omega]; rfl
  rw [h]; exact wrap_i64 (by omega) (by omega)

theorem hsort_spec (L : List Ks) (a b cap : Nat) (oc : OrdL fun x y => decide (cS x y < 0)) (hab : a ≤ b) (hb : b ≤ L.length) (hL : L.length ≤ 1000000000) :
    Idl.Spec Try.prog 55 [.sl 0 0 L.length cap 1, .i64 a, .i64 b] [.arr false (strs L)]
      (Ex (fun M : List Ks => PS a b L M ∧ SS (fun x y => decide (cS x y < 0)) a b M) (fun _ => .tup []) (fun M => [.arr false (strs M)])) := by
  obtain ⟨n, rfl⟩ : ∃ n, b = a + n := ⟨b - a, by omega⟩
  have hw := half_eq a (a + n) hab (by omega)
  refine sE Try.func55 Try.ntmps55 ?_
  repeat' (first|refine IOps_nil ?_|refine oS ?_|refine IOps_s rfl rfl ?_|refine oT ?_|refine IOps_s0 rfl ?_|refine oC (π:=[]) (hs:=by first|exact less_spec _ _|fail) (hx:=?_)|refine oZ ?_|refine oI ?_|refine oAB ?_|refine thenI_n ?_|refine IWP_seq ?_|refine IWP_region ?_|refine IWP_ct rfl ?_|refine IWP_cf rfl ?_|refine IWP_skip ?_|refine IWP_ret ?_|refine IWP_block ?_|refine inB_n ?_|refine thenI_r ?_|refine thenI_e ?_|refine inB_r ?_|refine inB_hit ?_|refine inB_miss rfl ?_|refine IWP_exit ?_|refine IWP_scope ?_|refine IWP_label ?_|refine noG_n ?_|refine noG_r ?_|refine noG_e ?_|refine jmp_n ?_|refine jmp_r ?_|refine jmp_e ?_|refine jmp_g ?_|refine thenI_g ?_|refine inB_g ?_|refine IWP_goto ?_|refine Loop_n ?_|refine oD (id:=10) W55_10 [17, 19] O55_10 [_,_,_,_,_,_,_,_,_,_,_,_,_,_,_,_,_,_,_,_] [_,_,_] rfl (by repeat' (first|exact trivial|refine And.intro ?_ ?_|exact bS|exact bX|exact bZ|exact bI|exact bC (π:=[]) (hs:=by first|exact less_spec _ _|fail)|fail)) ?_|fail)
  rw [hw]
  refine IWP_loop (fun x : List Ks × Nat => ⟨56, [(0, .sl 0 0 L.length cap 1), (6, .i64 a), (7, .i64 0), (8, .i64 n), (9, .i64 ((x.2 : Int) - 1))], [.arr false (strs x.1)]⟩)
    (fun x => PS a (a + n) L x.1 ∧ HP (fun x y => decide (cS x y < 0)) a x.2 n x.1 ∧ x.2 ≤ n + 1) (fun x => x.2) (L, (a + n - a - 1) / 2 + 1) (lP [0]) ⟨.refl _ _ _, fun p q h1 h2 h3 => by simp only at h1; omega, by simp only; omega⟩ ?_
  rintro ⟨M, j⟩ ⟨hp, hs, hj⟩
  replace hp : PS a (a + n) L M := hp
  have hl := hp.len
  simp only at hs hj ⊢
  cases j with
  | succ k =>
    rw [show (((k + 1 : Nat) : Int) - 1) = (k : Int) by omega]
    repeat' (first|refine IOps_nil ?_|refine oS ?_|refine IOps_s rfl rfl ?_|refine oT ?_|refine IOps_s0 rfl ?_|refine oC (π:=[]) (hs:=by first|exact less_spec _ _|fail) (hx:=?_)|refine oZ ?_|refine oI ?_|refine oAB ?_|refine thenI_n ?_|refine IWP_seq ?_|refine IWP_region ?_|refine IWP_ct rfl ?_|refine IWP_cf rfl ?_|refine IWP_skip ?_|refine IWP_ret ?_|refine IWP_block ?_|refine inB_n ?_|refine thenI_r ?_|refine thenI_e ?_|refine inB_r ?_|refine inB_hit ?_|refine inB_miss rfl ?_|refine IWP_exit ?_|refine IWP_scope ?_|refine IWP_label ?_|refine noG_n ?_|refine noG_r ?_|refine noG_e ?_|refine jmp_n ?_|refine jmp_r ?_|refine jmp_e ?_|refine jmp_g ?_|refine thenI_g ?_|refine inB_g ?_|refine IWP_goto ?_|refine Loop_n ?_|refine oD (id:=10) W55_10 [17, 19] O55_10 [_,_,_,_,_,_,_,_,_,_,_,_,_,_,_,_,_,_,_,_] [_,_,_] rfl (by repeat' (first|exact trivial|refine And.intro ?_ ?_|exact bS|exact bX|exact bZ|exact bI|exact bC (π:=[]) (hs:=by first|exact less_spec _ _|fail)|fail)) ?_|fail)
    have hsp := sift_spec M k n a cap oc (by omega) (by omega) (by omega) hs
    rw [hl] at hsp
    refine oE [0] (hs := hsp) (hx := ?_)
    rintro N ⟨hN, hH⟩
    have hl2 := hN.len
    repeat' (first|refine IOps_nil ?_|refine oS ?_|refine IOps_s rfl rfl ?_|refine oT ?_|refine IOps_s0 rfl ?_|refine oC (π:=[]) (hs:=by first|exact less_spec _ _|fail) (hx:=?_)|refine oZ ?_|refine oI ?_|refine oAB ?_|refine thenI_n ?_|refine IWP_seq ?_|refine IWP_region ?_|refine IWP_ct rfl ?_|refine IWP_cf rfl ?_|refine IWP_skip ?_|refine IWP_ret ?_|refine IWP_block ?_|refine inB_n ?_|refine thenI_r ?_|refine thenI_e ?_|refine inB_r ?_|refine inB_hit ?_|refine inB_miss rfl ?_|refine IWP_exit ?_|refine IWP_scope ?_|refine IWP_label ?_|refine noG_n ?_|refine noG_r ?_|refine noG_e ?_|refine jmp_n ?_|refine jmp_r ?_|refine jmp_e ?_|refine jmp_g ?_|refine thenI_g ?_|refine inB_g ?_|refine IWP_goto ?_|refine Loop_n ?_|refine oD (id:=10) W55_10 [17, 19] O55_10 [_,_,_,_,_,_,_,_,_,_,_,_,_,_,_,_,_,_,_,_] [_,_,_] rfl (by repeat' (first|exact trivial|refine And.intro ?_ ?_|exact bS|exact bX|exact bZ|exact bI|exact bC (π:=[]) (hs:=by first|exact less_spec _ _|fail)|fail)) ?_|fail)
    exact ⟨(N, k), ⟨hp.trans hN, hH, by omega⟩, by simp only; omega, lP [0]⟩
  | zero =>
    repeat' (first|refine IOps_nil ?_|refine oS ?_|refine IOps_s rfl rfl ?_|refine oT ?_|refine IOps_s0 rfl ?_|refine oC (π:=[]) (hs:=by first|exact less_spec _ _|fail) (hx:=?_)|refine oZ ?_|refine oI ?_|refine oAB ?_|refine thenI_n ?_|refine IWP_seq ?_|refine IWP_region ?_|refine IWP_ct rfl ?_|refine IWP_cf rfl ?_|refine IWP_skip ?_|refine IWP_ret ?_|refine IWP_block ?_|refine inB_n ?_|refine thenI_r ?_|refine thenI_e ?_|refine inB_r ?_|refine inB_hit ?_|refine inB_miss rfl ?_|refine IWP_exit ?_|refine IWP_scope ?_|refine IWP_label ?_|refine noG_n ?_|refine noG_r ?_|refine noG_e ?_|refine jmp_n ?_|refine jmp_r ?_|refine jmp_e ?_|refine jmp_g ?_|refine thenI_g ?_|refine inB_g ?_|refine IWP_goto ?_|refine Loop_n ?_|refine oD (id:=10) W55_10 [17, 19] O55_10 [_,_,_,_,_,_,_,_,_,_,_,_,_,_,_,_,_,_,_,_] [_,_,_] rfl (by repeat' (first|exact trivial|refine And.intro ?_ ?_|exact bS|exact bX|exact bZ|exact bI|exact bC (π:=[]) (hs:=by first|exact less_spec _ _|fail)|fail)) ?_|fail)
    refine IWP_loop (fun x : List Ks × Nat => ⟨56, [(0, .sl 0 0 L.length cap 1), (6, .i64 a), (7, .i64 0), (8, .i64 n), (10, .i64 ((x.2 : Int) - 1))], [.arr false (strs x.1)]⟩)
      (fun x => HS (fun x y => decide (cS x y < 0)) a (a + n) x.2 L x.1) (fun x => x.2) (M, n) (lP [0]) ⟨hp, by simp only; omega, by simp only; omega, hs, fun p q h1 h2 h3 => by simp only at h1; omega, fun p q h1 h2 h3 => by simp only at h3; omega⟩ ?_
    rintro ⟨M, j⟩ hS
    replace hS : HS (fun x y => decide (cS x y < 0)) a (a + n) j L M := hS
    have hl := hS.ps.len
    have hkb := hS.kb
    simp only at ⊢
    cases j with
    | zero =>
      repeat' (first|refine IOps_nil ?_|refine oS ?_|refine IOps_s rfl rfl ?_|refine oT ?_|refine IOps_s0 rfl ?_|refine oC (π:=[]) (hs:=by first|exact less_spec _ _|fail) (hx:=?_)|refine oZ ?_|refine oI ?_|refine oAB ?_|refine thenI_n ?_|refine IWP_seq ?_|refine IWP_region ?_|refine IWP_ct rfl ?_|refine IWP_cf rfl ?_|refine IWP_skip ?_|refine IWP_ret ?_|refine IWP_block ?_|refine inB_n ?_|refine thenI_r ?_|refine thenI_e ?_|refine inB_r ?_|refine inB_hit ?_|refine inB_miss rfl ?_|refine IWP_exit ?_|refine IWP_scope ?_|refine IWP_label ?_|refine noG_n ?_|refine noG_r ?_|refine noG_e ?_|refine jmp_n ?_|refine jmp_r ?_|refine jmp_e ?_|refine jmp_g ?_|refine thenI_g ?_|refine inB_g ?_|refine IWP_goto ?_|refine Loop_n ?_|refine oD (id:=10) W55_10 [17, 19] O55_10 [_,_,_,_,_,_,_,_,_,_,_,_,_,_,_,_,_,_,_,_] [_,_,_] rfl (by repeat' (first|exact trivial|refine And.intro ?_ ?_|exact bS|exact bX|exact bZ|exact bI|exact bC (π:=[]) (hs:=by first|exact less_spec _ _|fail)|fail)) ?_|fail)
      exact pX [0] M ⟨hS.ps, hS.ss⟩ rfl
    | succ k =>
      rw [show (((k + 1 : Nat) : Int) - 1) = (k : Int) by omega]
      have hst := hS.step oc
      repeat' (first|refine IOps_nil ?_|refine oS ?_|refine IOps_s rfl rfl ?_|refine oT ?_|refine IOps_s0 rfl ?_|refine oC (π:=[]) (hs:=by first|exact less_spec _ _|fail) (hx:=?_)|refine oZ ?_|refine oI ?_|refine oAB ?_|refine thenI_n ?_|refine IWP_seq ?_|refine IWP_region ?_|refine IWP_ct rfl ?_|refine IWP_cf rfl ?_|refine IWP_skip ?_|refine IWP_ret ?_|refine IWP_block ?_|refine inB_n ?_|refine thenI_r ?_|refine thenI_e ?_|refine inB_r ?_|refine inB_hit ?_|refine inB_miss rfl ?_|refine IWP_exit ?_|refine IWP_scope ?_|refine IWP_label ?_|refine noG_n ?_|refine noG_r ?_|refine noG_e ?_|refine jmp_n ?_|refine jmp_r ?_|refine jmp_e ?_|refine jmp_g ?_|refine thenI_g ?_|refine inB_g ?_|refine IWP_goto ?_|refine Loop_n ?_|refine oD (id:=10) W55_10 [17, 19] O55_10 [_,_,_,_,_,_,_,_,_,_,_,_,_,_,_,_,_,_,_,_] [_,_,_] rfl (by repeat' (first|exact trivial|refine And.intro ?_ ?_|exact bS|exact bX|exact bZ|exact bI|exact bC (π:=[]) (hs:=by first|exact less_spec _ _|fail)|fail)) ?_|fail)
      have hsp := sift_spec (sw M a (a + k)) 0 k a cap oc (by rw [sw_length]; omega) (by rw [sw_length]; omega) (by omega) hst.1
      rw [sw_length, hl] at hsp
      refine oE [0] (hs := hsp) (hx := ?_)
      rintro N ⟨hN, hH⟩
      have hl2 := hN.len
      repeat' (first|refine IOps_nil ?_|refine oS ?_|refine IOps_s rfl rfl ?_|refine oT ?_|refine IOps_s0 rfl ?_|refine oC (π:=[]) (hs:=by first|exact less_spec _ _|fail) (hx:=?_)|refine oZ ?_|refine oI ?_|refine oAB ?_|refine thenI_n ?_|refine IWP_seq ?_|refine IWP_region ?_|refine IWP_ct rfl ?_|refine IWP_cf rfl ?_|refine IWP_skip ?_|refine IWP_ret ?_|refine IWP_block ?_|refine inB_n ?_|refine thenI_r ?_|refine thenI_e ?_|refine inB_r ?_|refine inB_hit ?_|refine inB_miss rfl ?_|refine IWP_exit ?_|refine IWP_scope ?_|refine IWP_label ?_|refine noG_n ?_|refine noG_r ?_|refine noG_e ?_|refine jmp_n ?_|refine jmp_r ?_|refine jmp_e ?_|refine jmp_g ?_|refine thenI_g ?_|refine inB_g ?_|refine IWP_goto ?_|refine Loop_n ?_|refine oD (id:=10) W55_10 [17, 19] O55_10 [_,_,_,_,_,_,_,_,_,_,_,_,_,_,_,_,_,_,_,_] [_,_,_] rfl (by repeat' (first|exact trivial|refine And.intro ?_ ?_|exact bS|exact bX|exact bZ|exact bI|exact bC (π:=[]) (hs:=by first|exact less_spec _ _|fail)|fail)) ?_|fail)
      exact ⟨(N, k), hst.2 N hN hH, by simp only; omega, lP [0]⟩
end Go.Proofs.Ytmgcoopmbohkoaa

namespace Go.Proofs.Ytmgcoopmbohkoaa
open Go Go.Idl
set_option linter.unusedSimpArgs false
set_option linter.unusedVariables false
set_option maxRecDepth 100000
set_option maxHeartbeats 1000000
attribute [local irreducible] Go.Idl.IWP Go.Idl.IOps Go.Idl.Obl Go.Idl.OpG Go.Idl.thenI Go.Idl.inBlockI Go.Idl.LoopU Go.Idl.noGotoI Go.Idl.jumpI
attribute [local go_sem] List.length_set
def L8 (x : Nat) : Nat := if x = 0 then 0 else Nat.log2 x + 1
theorem L8_le {x : Nat} (hx : x < 256) : L8 x ≤ 8 := by
  unfold L8; split
  · omega
  · rename_i h
    have : Nat.log2 x < 8 := (Nat.log2_lt h).2 hx
    omega
theorem L8_pow {x : Nat} (hx : 0 < x) : 2 ^ L8 x ≤ 2 * x := by
  unfold L8; rw [if_neg (by omega)]
  have := Nat.log2_self_le (n := x) (by omega)
  rw [Nat.pow_succ]; omega
theorem len64_spec (x : Nat) (hx : x < 256) :
    Idl.Spec Try.prog 64 [.sc (.int .u64 x)] []
      (Ex (fun n : Nat => n ≤ 8 ∧ (0 < x → 2 ^ n ≤ 2 * x)) (fun n => .i64 n) (fun _ => [])) := by
  have h8 := L8_le hx
  refine sE Try.func64 Try.ntmps64 ?_
  repeat' (first|refine IOps_nil ?_|refine oS ?_|refine IOps_s rfl rfl ?_|refine oT ?_|refine IOps_s0 rfl ?_|refine oZ ?_|refine oI ?_|refine oAB ?_|refine thenI_n ?_|refine IWP_seq ?_|refine IWP_region ?_|refine IWP_ct rfl ?_|refine IWP_cf rfl ?_|refine IWP_skip ?_|refine IWP_ret ?_|refine IWP_block ?_|refine inB_n ?_|refine thenI_r ?_|refine thenI_e ?_|refine inB_r ?_|refine inB_hit ?_|refine inB_miss rfl ?_|refine IWP_exit ?_|refine IWP_scope ?_|refine IWP_label ?_|refine noG_n ?_|refine noG_r ?_|refine noG_e ?_|refine jmp_n ?_|refine jmp_r ?_|refine jmp_e ?_|refine jmp_g ?_|refine thenI_g ?_|refine inB_g ?_|refine IWP_goto ?_|refine Loop_n ?_|fail)
  refine oS (y := .sc (.int .u8 (L8 x))) (hy := ?hy) (hp := ?hp) ?_
  case hy =>
    refine congrArg (fun n : Int => IV.sc (.int .u8 n)) (congrArg (fun n : Nat => (n : Int)) ?_)
    rw [Int.toNat_natCast]
    revert x
    exact of_decide_eq_true (by kernel_rfl)
  case hp =>
    refine ⟨Int.natCast_nonneg _, Int.ofNat_lt.2 (Nat.lt_of_lt_of_le hx (Nat.le_of_eq ?_)), trivial⟩
    kernel_rfl
  repeat' (first|refine IOps_nil ?_|refine oS ?_|refine IOps_s rfl rfl ?_|refine oT ?_|refine IOps_s0 rfl ?_|refine oZ ?_|refine oI ?_|refine oAB ?_|refine thenI_n ?_|refine IWP_seq ?_|refine IWP_region ?_|refine IWP_ct rfl ?_|refine IWP_cf rfl ?_|refine IWP_skip ?_|refine IWP_ret ?_|refine IWP_block ?_|refine inB_n ?_|refine thenI_r ?_|refine thenI_e ?_|refine inB_r ?_|refine inB_hit ?_|refine inB_miss rfl ?_|refine IWP_exit ?_|refine IWP_scope ?_|refine IWP_label ?_|refine noG_n ?_|refine noG_r ?_|refine noG_e ?_|refine jmp_n ?_|refine jmp_r ?_|refine jmp_e ?_|refine jmp_g ?_|refine thenI_g ?_|refine inB_g ?_|refine IWP_goto ?_|refine Loop_n ?_|fail)
  exact pX [] (L8 x) ⟨h8, fun h => L8_pow h⟩ rfl

theorem len_spec (x : Nat) (hx : x < 256) :
    Idl.Spec Try.prog 47 [.sc (.int .u64 x)] []
      (Ex (fun n : Nat => n ≤ 8 ∧ (0 < x → 2 ^ n ≤ 2 * x)) (fun n => .i64 n) (fun _ => [])) := by
  refine sE Try.func47 Try.ntmps47 ?_
  repeat' (first|refine IOps_nil ?_|refine oS ?_|refine IOps_s rfl rfl ?_|refine oT ?_|refine IOps_s0 rfl ?_|refine oZ ?_|refine oI ?_|refine oAB ?_|refine thenI_n ?_|refine IWP_seq ?_|refine IWP_region ?_|refine IWP_ct rfl ?_|refine IWP_cf rfl ?_|refine IWP_skip ?_|refine IWP_ret ?_|refine IWP_block ?_|refine inB_n ?_|refine thenI_r ?_|refine thenI_e ?_|refine inB_r ?_|refine inB_hit ?_|refine inB_miss rfl ?_|refine IWP_exit ?_|refine IWP_scope ?_|refine IWP_label ?_|refine noG_n ?_|refine noG_r ?_|refine noG_e ?_|refine jmp_n ?_|refine jmp_r ?_|refine jmp_e ?_|refine jmp_g ?_|refine thenI_g ?_|refine inB_g ?_|refine IWP_goto ?_|refine Loop_n ?_|fail)
  refine oE [] (hs := len64_spec x hx) (hx := ?_)
  rintro n ⟨h1, h2⟩
  repeat' (first|refine IOps_nil ?_|refine oS ?_|refine IOps_s rfl rfl ?_|refine oT ?_|refine IOps_s0 rfl ?_|refine oZ ?_|refine oI ?_|refine oAB ?_|refine thenI_n ?_|refine IWP_seq ?_|refine IWP_region ?_|refine IWP_ct rfl ?_|refine IWP_cf rfl ?_|refine IWP_skip ?_|refine IWP_ret ?_|refine IWP_block ?_|refine inB_n ?_|refine thenI_r ?_|refine thenI_e ?_|refine inB_r ?_|refine inB_hit ?_|refine inB_miss rfl ?_|refine IWP_exit ?_|refine IWP_scope ?_|refine IWP_label ?_|refine noG_n ?_|refine noG_r ?_|refine noG_e ?_|refine jmp_n ?_|refine jmp_r ?_|refine jmp_e ?_|refine jmp_g ?_|refine thenI_g ?_|refine inB_g ?_|refine IWP_goto ?_|refine Loop_n ?_|fail)
  exact pX [] n ⟨h1, h2⟩ rfl

theorem power_spec (x : Nat) (hx0 : 0 < x) (hx : x < 256) :
    Idl.Spec Try.prog 69 [.i64 x] []
      (Ex (fun m : Nat => 1 ≤ m ∧ m ≤ 2 * x) (fun m => .sc (.int .u64 m)) (fun _ => [])) := by
  refine sE Try.func69 Try.ntmps69 ?_
  repeat' (first|refine IOps_nil ?_|refine oS ?_|refine IOps_s rfl rfl ?_|refine oT ?_|refine IOps_s0 rfl ?_|refine oZ ?_|refine oI ?_|refine oAB ?_|refine thenI_n ?_|refine IWP_seq ?_|refine IWP_region ?_|refine IWP_ct rfl ?_|refine IWP_cf rfl ?_|refine IWP_skip ?_|refine IWP_ret ?_|refine IWP_block ?_|refine inB_n ?_|refine thenI_r ?_|refine thenI_e ?_|refine inB_r ?_|refine inB_hit ?_|refine inB_miss rfl ?_|refine IWP_exit ?_|refine IWP_scope ?_|refine IWP_label ?_|refine noG_n ?_|refine noG_r ?_|refine noG_e ?_|refine jmp_n ?_|refine jmp_r ?_|refine jmp_e ?_|refine jmp_g ?_|refine thenI_g ?_|refine inB_g ?_|refine IWP_goto ?_|refine Loop_n ?_|fail)
  refine oE [] (hs := len_spec x hx) (hx := ?_)
  rintro n ⟨h1, h2⟩
  have h3 := h2 hx0
  have h4 : 1 ≤ 2 ^ n := Nat.one_le_two_pow
  have h5 : IntKind.u64.wrap ((1 : Int) * 2 ^ n) = ((2 ^ n : Nat) : Int) := by
    rw [Int.one_mul, Int.natCast_pow]
    have h6 : (2 : Int) ^ n = ((2 ^ n : Nat) : Int) := by simp
    exact wrap_u64 (by omega) (by omega)
  repeat' (first|refine IOps_nil ?_|refine oS ?_|refine IOps_s rfl rfl ?_|refine oT ?_|refine IOps_s0 rfl ?_|refine oZ ?_|refine oI ?_|refine oAB ?_|refine thenI_n ?_|refine IWP_seq ?_|refine IWP_region ?_|refine IWP_ct rfl ?_|refine IWP_cf rfl ?_|refine IWP_skip ?_|refine IWP_ret ?_|refine IWP_block ?_|refine inB_n ?_|refine thenI_r ?_|refine thenI_e ?_|refine inB_r ?_|refine inB_hit ?_|refine inB_miss rfl ?_|refine IWP_exit ?_|refine IWP_scope ?_|refine IWP_label ?_|refine noG_n ?_|refine noG_r ?_|refine noG_e ?_|refine jmp_n ?_|refine jmp_r ?_|refine jmp_e ?_|refine jmp_g ?_|refine thenI_g ?_|refine inB_g ?_|refine IWP_goto ?_|refine Loop_n ?_|fail)
  exact pX [] (2 ^ n) ⟨h4, h3⟩ (congrArg (fun z : Int => IV.sc (.int .u64 z)) h5)

theorem u64_range (z : Int) : 0 ≤ IntKind.u64.wrap z ∧ IntKind.u64.wrap z < 18446744073709551616 := by
  have : IntKind.u64.wrap z = z % 18446744073709551616 := rfl
  omega

def rn1 (x : Int) : Int := ibits .xor .u64 x (IntKind.u64.wrap (x * 2 ^ 13))
def rn2 (x : Int) : Int := ibits .xor .u64 x (x.fdiv (2 ^ 7))
def rn (x : Int) : Int := ibits .xor .u64 (rn2 (rn1 x)) (IntKind.u64.wrap (rn2 (rn1 x) * 2 ^ 17))
theorem next_spec (x : Int) :
    Idl.Spec Try.prog 70 [.ptr 0 0] [.box [.sc (.int .u64 x)]]
      (Ex (fun y : Int => 0 ≤ y ∧ y < 18446744073709551616) (fun y => .sc (.int .u64 y)) (fun y => [.box [.sc (.int .u64 y)]])) := by
  refine sE Try.func70 Try.ntmps70 ?_
  repeat' (first|refine IOps_nil ?_|refine oS ?_|refine IOps_s rfl rfl ?_|refine oT ?_|refine IOps_s0 rfl ?_|refine oZ ?_|refine oI ?_|refine oAB ?_|refine thenI_n ?_|refine IWP_seq ?_|refine IWP_region ?_|refine IWP_ct rfl ?_|refine IWP_cf rfl ?_|refine IWP_skip ?_|refine IWP_ret ?_|refine IWP_block ?_|refine inB_n ?_|refine thenI_r ?_|refine thenI_e ?_|refine inB_r ?_|refine inB_hit ?_|refine inB_miss rfl ?_|refine IWP_exit ?_|refine IWP_scope ?_|refine IWP_label ?_|refine noG_n ?_|refine noG_r ?_|refine noG_e ?_|refine jmp_n ?_|refine jmp_r ?_|refine jmp_e ?_|refine jmp_g ?_|refine thenI_g ?_|refine inB_g ?_|refine IWP_goto ?_|refine Loop_n ?_|refine oD (id:=1) W70_1 [9] O70_1 [_,_,_,_,_,_,_,_,_,_] [_,_] rfl (by repeat' (first|exact trivial|refine And.intro ?_ ?_|exact bS|exact bX|exact bZ|exact bI|fail)) ?_|refine oD (id:=2) W70_2 [9] O70_2 [_,_,_,_,_,_,_,_,_,_] [_,_] rfl (by repeat' (first|exact trivial|refine And.intro ?_ ?_|exact bS|exact bX|exact bZ|exact bI|fail)) ?_|refine oD (id:=3) W70_3 [9] O70_3 [_,_,_,_,_,_,_,_,_,_] [_,_] rfl (by repeat' (first|exact trivial|refine And.intro ?_ ?_|exact bS|exact bX|exact bZ|exact bI|fail)) ?_|fail)
  exact pX [0] (rn x) (u64_range _) rfl
def an (y z : Int) : Nat := (ibits .and .u64 y z).toNat
theorem an_eq (y z : Int) : ibits .and .u64 y z = ((an y z : Nat) : Int) := by
  have : 0 ≤ ibits .and .u64 y z := (u64_range _).1
  unfold an; omega
theorem an_le (y : Int) (m : Nat) (hm : m < 18446744073709551616) : an y m ≤ m := by
  have e2 : BitVec.ofInt IntKind.u64.bits (m : Int) = BitVec.ofNat 64 m := by
    show BitVec.ofInt 64 (m : Int) = _
    simp
  have h1 : (BitVec.ofInt 64 y &&& BitVec.ofNat 64 m).toNat ≤ m := by
    rw [BitVec.toNat_and]
    refine Nat.le_trans Nat.and_le_right ?_
    simp only [BitVec.toNat_ofNat]
    exact Nat.mod_le _ _
  have h2 : ibits .and .u64 y m = ((BitVec.ofInt 64 y &&& BitVec.ofNat 64 m).toNat : Int) := by
    show IntKind.u64.wrap ((BitVec.ofInt IntKind.u64.bits y &&& BitVec.ofInt IntKind.u64.bits (m : Int)).toNat : Int) = _
    rw [e2]
    show IntKind.u64.wrap ((BitVec.ofInt 64 y &&& BitVec.ofNat 64 m).toNat : Int) = _
    exact wrap_u64 (by omega) (by omega)
  unfold an; rw [h2]; omega
end Go.Proofs.Ytmgcoopmbohkoaa
