/-
  Sorting, at records of a text and a number.
-/
import Derived.Test.YtmgcoopmbohkoaaStJ
namespace Go.Proofs.Ytmgcoopmbohkoaa
open Go Go.Idl
set_option linter.unusedSimpArgs false
set_option linter.unusedVariables false
set_option maxRecDepth 100000
set_option maxHeartbeats 1000000
attribute [local irreducible] Go.Idl.IWP Go.Idl.IOps Go.Idl.Obl Go.Idl.OpG Go.Idl.thenI Go.Idl.inBlockI Go.Idl.LoopU Go.Idl.noGotoI Go.Idl.jumpI
attribute [local go_sem] List.length_set
structure Pr where
  tag : List UInt8
  id : Int
  deriving DecidableEq
instance : Inhabited Pr := ⟨⟨[], 0⟩⟩
def prRc : Rc Pr := ⟨fun x => [.str x.tag, .sc (.int .i64 x.id)], 2, fun _ => rfl⟩
def pairs (l : List Pr) : List IV := fl prRc l
section
variable {l a b : List Pr} {i n : Nat}
theorem pairs_length : (pairs l).length = l.length * 2 := fl_length prRc l
theorem pairs_drop : (pairs l).drop (n * 2) = pairs (l.drop n) := fl_drop prRc l n
theorem pairs_take : (pairs l).take (n * 2) = pairs (l.take n) := fl_take prRc l n
theorem pairs_app : pairs a ++ pairs b = pairs (a ++ b) := fl_app prRc a b
theorem pairs_snoc {v0 : List UInt8} {v1 : Int} : pairs a ++ [.sc (.string ⟨⟨v0⟩⟩), .sc (.int .i64 v1)] = pairs (a ++ [⟨v0, v1⟩]) := fl_app prRc a [⟨v0, v1⟩]
theorem pairs_part (h : i < l.length) : (pairs (l.drop i)).take 2 = [.sc (.string ⟨⟨(l.getD i default).tag⟩⟩), .sc (.int .i64 (l.getD i default).id)] := by rw [← pairs_drop]; exact fl_part prRc h
theorem pairs_part0 (h : 0 < l.length) : (pairs l).take 2 = [.sc (.string ⟨⟨(l.getD 0 default).tag⟩⟩), .sc (.int .i64 (l.getD 0 default).id)] := by have := pairs_part h; rwa [List.drop_zero] at this
theorem pairs_get0 (h : i < l.length) : (pairs l).getD (i * 2) .any = .sc (.string ⟨⟨(l.getD i default).tag⟩⟩) := fl_get prRc (j := 0) h (by decide)
theorem pairs_set0 (h : i < l.length) {v : List UInt8} : (pairs l).set (i * 2) (.sc (.string ⟨⟨v⟩⟩)) = pairs (l.set i ⟨v, (l.getD i default).id⟩) := fl_set prRc h (j := 0) (by decide) _ _ rfl
theorem pairs_get1 (h : i < l.length) : (pairs l).getD (i * 2 + 1) .any = .sc (.int .i64 (l.getD i default).id) := fl_get prRc (j := 1) h (by decide)
theorem pairs_set1 (h : i < l.length) {v : Int} : (pairs l).set (i * 2 + 1) (.sc (.int .i64 v)) = pairs (l.set i ⟨(l.getD i default).tag, v⟩) := fl_set prRc h (j := 1) (by decide) _ _ rfl
theorem pairs_splice (h : i < l.length) {v0 : List UInt8} {v1 : Int} : splice (pairs l) (i * 2) [.sc (.string ⟨⟨v0⟩⟩), .sc (.int .i64 v1)] = pairs (l.set i ⟨v0, v1⟩) := fl_splice prRc h ⟨v0, v1⟩
theorem pairs_zeros : zrep n [.sc (.string ⟨⟨[]⟩⟩), .sc (.int .i64 0)] = pairs (List.replicate n default) := fl_zeros prRc default n (by decide)
theorem pairs_closed : IV.closedL (pairs l) = true := fl_closed prRc (fun _ => rfl) l
theorem pairs_ones : IV.ones (pairs l) = true := fl_ones prRc (fun _ => rfl) l
theorem pairs_fresh : IV.freshL (pairs l) = true := fl_fresh prRc (fun _ => rfl) l
theorem pairs_relab : IV.relabL (pairs l) = pairs l := fl_relab prRc (fun _ => by simp [prRc, IV.relabL, IV.relab, IV.str]) l
theorem pairs_ren {σ : Nat → Option Nat} : IV.renL σ (pairs l) = pairs l := fl_ren prRc (fun _ => by simp [prRc, IV.renL, IV.ren, IV.str]) l
end
attribute [go_sem] pairs_length pairs_drop pairs_take pairs_app pairs_snoc pairs_part pairs_part0 pairs_get0 pairs_set0 pairs_get1 pairs_set1 pairs_zeros pairs_closed pairs_ones pairs_fresh pairs_relab pairs_ren
attribute [go_sem] pairs_splice

/-! ### Sorting pairs -/
section
variable {c : Pr → Pr → Int} {kc : FuncId} (hc : ∀ x y : Pr, Idl.Spec Try.prog kc [.agg [.sc (.string ⟨⟨x.tag⟩⟩), .sc (.int .i64 x.id)], .agg [.sc (.string ⟨⟨y.tag⟩⟩), .sc (.int .i64 y.id)]] [] (Only (.i64 (c x y)) []))
include hc

theorem disort_spec (L : List Pr) (a b cap : Nat) (oc : OrdL fun x y => decide (c x y < 0)) (hab : a ≤ b) (hb : b ≤ L.length) (hL : L.length ≤ 1000000000) :
    Idl.Spec Try.prog 73 [.sl 0 0 L.length cap 2, .i64 a, .i64 b, .fn (.func kc) [] []] [.arr false (pairs L)]
      (Ex (fun M : List Pr => PS a b L M ∧ SS (fun x y => decide (c x y < 0)) a b M) (fun _ => .tup []) (fun M => [.arr false (pairs M)])) := by
  refine sE Try.func73 Try.ntmps73 ?_
  repeat' (first|refine IOps_nil ?_|refine oS ?_|refine IOps_s rfl rfl ?_|refine oT ?_|refine IOps_s0 rfl ?_|refine oZ ?_|refine oI ?_|refine oAB ?_|refine thenI_n ?_|refine IWP_seq ?_|refine IWP_region ?_|refine IWP_ct rfl ?_|refine IWP_cf rfl ?_|refine IWP_skip ?_|refine IWP_ret ?_|refine IWP_block ?_|refine inB_n ?_|refine thenI_r ?_|refine thenI_e ?_|refine inB_r ?_|refine inB_hit ?_|refine inB_miss rfl ?_|refine IWP_exit ?_|refine IWP_scope ?_|refine IWP_label ?_|refine noG_n ?_|refine noG_r ?_|refine noG_e ?_|refine jmp_n ?_|refine jmp_r ?_|refine jmp_e ?_|refine jmp_g ?_|refine thenI_g ?_|refine inB_g ?_|refine IWP_goto ?_|refine Loop_n ?_|refine oD (id:=4) W73_4 [] O73_4 [_,_,_,_,_,_,_,_,_,_,_,_,_,_,_,_,_] [_] rfl (by repeat' (first|exact trivial|refine And.intro ?_ ?_|exact bS|exact bX|exact bZ|exact bI|fail)) ?_|refine oD (id:=6) W73_6 [15, 17] O73_6 [_,_,_,_,_,_,_,_,_,_,_,_,_,_,_,_,_,_] [_,_,_] rfl (by repeat' (first|exact trivial|refine And.intro ?_ ?_|exact bS|exact bX|exact bZ|exact bI|fail)) ?_|fail)
  refine IWP_loop (fun x : List Pr × Nat => ⟨53, [(0, .sl 0 0 L.length cap 2), (1, .i64 a), (2, .i64 b), (3, .fn (.func kc) [] []), (8, .i64 x.2)], [.arr false (pairs x.1)]⟩)
    (fun x => PS a b L x.1 ∧ SS (fun x y => decide (c x y < 0)) a x.2 x.1 ∧ a + 1 ≤ x.2 ∧ (x.2 ≤ b ∨ x.2 = a + 1)) (fun x => b - x.2) (L, a + 1) (lP [0]) ⟨.refl _ _ _, fun p q h1 h2 h3 => by omega, by simp, .inr rfl⟩ ?_
  rintro ⟨M, i⟩ ⟨hp, hs, hi1, hi2⟩
  have hl := hp.len
  simp only at hs hi1 hi2 hl ⊢
  by_cases hib : i < b
  · repeat' (first|refine IOps_nil ?_|refine oS ?_|refine IOps_s rfl rfl ?_|refine oT ?_|refine IOps_s0 rfl ?_|refine oZ ?_|refine oI ?_|refine oAB ?_|refine thenI_n ?_|refine IWP_seq ?_|refine IWP_region ?_|refine IWP_ct rfl ?_|refine IWP_cf rfl ?_|refine IWP_skip ?_|refine IWP_ret ?_|refine IWP_block ?_|refine inB_n ?_|refine thenI_r ?_|refine thenI_e ?_|refine inB_r ?_|refine inB_hit ?_|refine inB_miss rfl ?_|refine IWP_exit ?_|refine IWP_scope ?_|refine IWP_label ?_|refine noG_n ?_|refine noG_r ?_|refine noG_e ?_|refine jmp_n ?_|refine jmp_r ?_|refine jmp_e ?_|refine jmp_g ?_|refine thenI_g ?_|refine inB_g ?_|refine IWP_goto ?_|refine Loop_n ?_|refine oD (id:=4) W73_4 [] O73_4 [_,_,_,_,_,_,_,_,_,_,_,_,_,_,_,_,_] [_] rfl (by repeat' (first|exact trivial|refine And.intro ?_ ?_|exact bS|exact bX|exact bZ|exact bI|fail)) ?_|refine oD (id:=6) W73_6 [15, 17] O73_6 [_,_,_,_,_,_,_,_,_,_,_,_,_,_,_,_,_,_] [_,_,_] rfl (by repeat' (first|exact trivial|refine And.intro ?_ ?_|exact bS|exact bX|exact bZ|exact bI|fail)) ?_|fail)
    refine IWP_loop (fun x : List Pr × Nat => ⟨53, [(0, .sl 0 0 L.length cap 2), (1, .i64 a), (2, .i64 b), (3, .fn (.func kc) [] []), (8, .i64 i), (9, .i64 x.2)], [.arr false (pairs x.1)]⟩)
      (fun x => PS a b L x.1 ∧ InsI (fun x y => decide (c x y < 0)) a i x.2 x.1 ∧ a ≤ x.2 ∧ x.2 ≤ i) (fun x => x.2) (M, i) (lP [0]) ⟨hp, InsI.start hs, by omega, Nat.le_refl _⟩ ?_
    rintro ⟨N, j⟩ ⟨hp, hs, hj1, hj2⟩
    have hl := hp.len
    simp only at hs hj1 hj2 hl ⊢
    replace hp : PS a b L N := hp
    by_cases hja : a < j
    · by_cases hlt : c (gd N j) (gd N (j - 1)) < 0
      · repeat' (first|refine IOps_nil ?_|refine oS ?_|refine IOps_s rfl rfl ?_|refine oT ?_|refine IOps_s0 rfl ?_|refine oC (π:=[]) (hs:=by first|exact hc _ _|fail) (hx:=?_)|refine oZ ?_|refine oI ?_|refine oAB ?_|refine thenI_n ?_|refine IWP_seq ?_|refine IWP_region ?_|refine IWP_ct rfl ?_|refine IWP_cf rfl ?_|refine IWP_skip ?_|refine IWP_ret ?_|refine IWP_block ?_|refine inB_n ?_|refine thenI_r ?_|refine thenI_e ?_|refine inB_r ?_|refine inB_hit ?_|refine inB_miss rfl ?_|refine IWP_exit ?_|refine IWP_scope ?_|refine IWP_label ?_|refine noG_n ?_|refine noG_r ?_|refine noG_e ?_|refine jmp_n ?_|refine jmp_r ?_|refine jmp_e ?_|refine jmp_g ?_|refine thenI_g ?_|refine inB_g ?_|refine IWP_goto ?_|refine Loop_n ?_|refine oD (id:=4) W73_4 [] O73_4 [_,_,_,_,_,_,_,_,_,_,_,_,_,_,_,_,_] [_] rfl (by repeat' (first|exact trivial|refine And.intro ?_ ?_|exact bS|exact bX|exact bZ|exact bI|exact bC (π:=[]) (hs:=by first|exact hc _ _|fail)|fail)) ?_|refine oD (id:=6) W73_6 [15, 17] O73_6 [_,_,_,_,_,_,_,_,_,_,_,_,_,_,_,_,_,_] [_,_,_] rfl (by repeat' (first|exact trivial|refine And.intro ?_ ?_|exact bS|exact bX|exact bZ|exact bI|exact bC (π:=[]) (hs:=by first|exact hc _ _|fail)|fail)) ?_|fail)
        refine ⟨(sw N j (j - 1), j - 1), ⟨hp.trans (.sw (by omega) (by omega) (by omega) (by omega) (by omega)), InsI.step oc hs hja hj2 (by omega) (decide_eq_true hlt), by omega, by omega⟩, by simp only; omega, lP [0]⟩
      · repeat' (first|refine IOps_nil ?_|refine oS ?_|refine IOps_s rfl rfl ?_|refine oT ?_|refine IOps_s0 rfl ?_|refine oC (π:=[]) (hs:=by first|exact hc _ _|fail) (hx:=?_)|refine oZ ?_|refine oI ?_|refine oAB ?_|refine thenI_n ?_|refine IWP_seq ?_|refine IWP_region ?_|refine IWP_ct rfl ?_|refine IWP_cf rfl ?_|refine IWP_skip ?_|refine IWP_ret ?_|refine IWP_block ?_|refine inB_n ?_|refine thenI_r ?_|refine thenI_e ?_|refine inB_r ?_|refine inB_hit ?_|refine inB_miss rfl ?_|refine IWP_exit ?_|refine IWP_scope ?_|refine IWP_label ?_|refine noG_n ?_|refine noG_r ?_|refine noG_e ?_|refine jmp_n ?_|refine jmp_r ?_|refine jmp_e ?_|refine jmp_g ?_|refine thenI_g ?_|refine inB_g ?_|refine IWP_goto ?_|refine Loop_n ?_|refine oD (id:=4) W73_4 [] O73_4 [_,_,_,_,_,_,_,_,_,_,_,_,_,_,_,_,_] [_] rfl (by repeat' (first|exact trivial|refine And.intro ?_ ?_|exact bS|exact bX|exact bZ|exact bI|exact bC (π:=[]) (hs:=by first|exact hc _ _|fail)|fail)) ?_|refine oD (id:=6) W73_6 [15, 17] O73_6 [_,_,_,_,_,_,_,_,_,_,_,_,_,_,_,_,_,_] [_,_,_] rfl (by repeat' (first|exact trivial|refine And.intro ?_ ?_|exact bS|exact bX|exact bZ|exact bI|exact bC (π:=[]) (hs:=by first|exact hc _ _|fail)|fail)) ?_|fail)
        exact ⟨(N, i + 1), ⟨hp, InsI.fits oc hs hja (decide_eq_false hlt), by omega, .inl (by omega)⟩, by simp only; omega, lP [0]⟩
    · obtain rfl : j = a := by omega
      repeat' (first|refine IOps_nil ?_|refine oS ?_|refine IOps_s rfl rfl ?_|refine oT ?_|refine IOps_s0 rfl ?_|refine oC (π:=[]) (hs:=by first|exact hc _ _|fail) (hx:=?_)|refine oZ ?_|refine oI ?_|refine oAB ?_|refine thenI_n ?_|refine IWP_seq ?_|refine IWP_region ?_|refine IWP_ct rfl ?_|refine IWP_cf rfl ?_|refine IWP_skip ?_|refine IWP_ret ?_|refine IWP_block ?_|refine inB_n ?_|refine thenI_r ?_|refine thenI_e ?_|refine inB_r ?_|refine inB_hit ?_|refine inB_miss rfl ?_|refine IWP_exit ?_|refine IWP_scope ?_|refine IWP_label ?_|refine noG_n ?_|refine noG_r ?_|refine noG_e ?_|refine jmp_n ?_|refine jmp_r ?_|refine jmp_e ?_|refine jmp_g ?_|refine thenI_g ?_|refine inB_g ?_|refine IWP_goto ?_|refine Loop_n ?_|refine oD (id:=4) W73_4 [] O73_4 [_,_,_,_,_,_,_,_,_,_,_,_,_,_,_,_,_] [_] rfl (by repeat' (first|exact trivial|refine And.intro ?_ ?_|exact bS|exact bX|exact bZ|exact bI|exact bC (π:=[]) (hs:=by first|exact hc _ _|fail)|fail)) ?_|refine oD (id:=6) W73_6 [15, 17] O73_6 [_,_,_,_,_,_,_,_,_,_,_,_,_,_,_,_,_,_] [_,_,_] rfl (by repeat' (first|exact trivial|refine And.intro ?_ ?_|exact bS|exact bX|exact bZ|exact bI|exact bC (π:=[]) (hs:=by first|exact hc _ _|fail)|fail)) ?_|fail)
      exact ⟨(N, i + 1), ⟨hp, InsI.stop hs, by omega, .inl (by omega)⟩, by simp only; omega, lP [0]⟩
  · repeat' (first|refine IOps_nil ?_|refine oS ?_|refine IOps_s rfl rfl ?_|refine oT ?_|refine IOps_s0 rfl ?_|refine oC (π:=[]) (hs:=by first|exact hc _ _|fail) (hx:=?_)|refine oZ ?_|refine oI ?_|refine oAB ?_|refine thenI_n ?_|refine IWP_seq ?_|refine IWP_region ?_|refine IWP_ct rfl ?_|refine IWP_cf rfl ?_|refine IWP_skip ?_|refine IWP_ret ?_|refine IWP_block ?_|refine inB_n ?_|refine thenI_r ?_|refine thenI_e ?_|refine inB_r ?_|refine inB_hit ?_|refine inB_miss rfl ?_|refine IWP_exit ?_|refine IWP_scope ?_|refine IWP_label ?_|refine noG_n ?_|refine noG_r ?_|refine noG_e ?_|refine jmp_n ?_|refine jmp_r ?_|refine jmp_e ?_|refine jmp_g ?_|refine thenI_g ?_|refine inB_g ?_|refine IWP_goto ?_|refine Loop_n ?_|refine oD (id:=4) W73_4 [] O73_4 [_,_,_,_,_,_,_,_,_,_,_,_,_,_,_,_,_] [_] rfl (by repeat' (first|exact trivial|refine And.intro ?_ ?_|exact bS|exact bX|exact bZ|exact bI|exact bC (π:=[]) (hs:=by first|exact hc _ _|fail)|fail)) ?_|refine oD (id:=6) W73_6 [15, 17] O73_6 [_,_,_,_,_,_,_,_,_,_,_,_,_,_,_,_,_,_] [_,_,_] rfl (by repeat' (first|exact trivial|refine And.intro ?_ ?_|exact bS|exact bX|exact bZ|exact bI|exact bC (π:=[]) (hs:=by first|exact hc _ _|fail)|fail)) ?_|fail)
    exact pX [0] M ⟨hp, fun p q h1 h2 h3 => hs p q h1 h2 (by omega)⟩ rfl

end
end Go.Proofs.Ytmgcoopmbohkoaa

namespace Go.Proofs.Ytmgcoopmbohkoaa
open Go Go.Idl
set_option linter.unusedSimpArgs false
set_option linter.unusedVariables false
set_option linter.unusedSectionVars false
set_option maxRecDepth 100000
set_option maxHeartbeats 1000000
attribute [local irreducible] Go.Idl.IWP Go.Idl.IOps Go.Idl.Obl Go.Idl.OpG Go.Idl.thenI Go.Idl.inBlockI Go.Idl.LoopU Go.Idl.noGotoI Go.Idl.jumpI
attribute [local go_sem] List.length_set
theorem dtn_x1 (r : Nat) : (2 : Int) * r + 1 = ((2 * r + 1 : Nat) : Int) := by omega
theorem dtn_x2 (f k : Nat) : ((f : Int) + ((k : Int) + 1)).toNat = f + (k + 1) := by omega
theorem dtn_x3 (a b : Nat) : ((a : Int) + (b : Int) + 1).toNat = a + b + 1 := by omega
attribute [local go_sem] dtn_x1 dtn_x2 dtn_x3
section
variable {c : Pr → Pr → Int} {kc : FuncId} (hc : ∀ x y : Pr, Idl.Spec Try.prog kc [.agg [.sc (.string ⟨⟨x.tag⟩⟩), .sc (.int .i64 x.id)], .agg [.sc (.string ⟨⟨y.tag⟩⟩), .sc (.int .i64 y.id)]] [] (Only (.i64 (c x y)) []))
include hc
theorem dsift_spec (L : List Pr) (lo hi f cap : Nat) (oc : OrdL fun x y => decide (c x y < 0)) (hf : f + hi ≤ L.length) (hL : L.length ≤ 1000000000) (hlo : lo ≤ 1000000000) (hH : HP (fun x y => decide (c x y < 0)) f (lo + 1) hi L) :
    Idl.Spec Try.prog 82 [.sl 0 0 L.length cap 2, .i64 lo, .i64 hi, .i64 f, .fn (.func kc) [] []] [.arr false (pairs L)]
      (Ex (fun M : List Pr => PS f (f + hi) L M ∧ HP (fun x y => decide (c x y < 0)) f lo hi M) (fun _ => .tup []) (fun M => [.arr false (pairs M)])) := by
  refine sE Try.func82 Try.ntmps82 ?_
  repeat' (first|refine IOps_nil ?_|refine oS ?_|refine IOps_s rfl rfl ?_|refine oT ?_|refine IOps_s0 rfl ?_|refine oC (π:=[]) (hs:=by first|exact hc _ _|fail) (hx:=?_)|refine oZ ?_|refine oI ?_|refine oAB ?_|refine thenI_n ?_|refine IWP_seq ?_|refine IWP_region ?_|refine IWP_ct rfl ?_|refine IWP_cf rfl ?_|refine IWP_skip ?_|refine IWP_ret ?_|refine IWP_block ?_|refine inB_n ?_|refine thenI_r ?_|refine thenI_e ?_|refine inB_r ?_|refine inB_hit ?_|refine inB_miss rfl ?_|refine IWP_exit ?_|refine IWP_scope ?_|refine IWP_label ?_|refine noG_n ?_|refine noG_r ?_|refine noG_e ?_|refine jmp_n ?_|refine jmp_r ?_|refine jmp_e ?_|refine jmp_g ?_|refine thenI_g ?_|refine inB_g ?_|refine IWP_goto ?_|refine Loop_n ?_|refine oD (id:=3) W82_3 [] O82_3 [_,_,_,_,_,_,_,_,_,_,_,_,_,_,_,_,_,_,_,_,_,_] [_] rfl (by repeat' (first|exact trivial|refine And.intro ?_ ?_|exact bS|exact bX|exact bZ|exact bI|exact bC (π:=[]) (hs:=by first|exact hc _ _|fail)|fail)) ?_|refine oD (id:=5) W82_5 [] O82_5 [_,_,_,_,_,_,_,_,_,_,_,_,_,_,_,_] [_] rfl (by repeat' (first|exact trivial|refine And.intro ?_ ?_|exact bS|exact bX|exact bZ|exact bI|exact bC (π:=[]) (hs:=by first|exact hc _ _|fail)|fail)) ?_|refine oD (id:=6) W82_6 [21, 23] O82_6 [_,_,_,_,_,_,_,_,_,_,_,_,_,_,_,_,_,_,_,_,_,_,_,_] [_,_,_] rfl (by repeat' (first|exact trivial|refine And.intro ?_ ?_|exact bS|exact bX|exact bZ|exact bI|exact bC (π:=[]) (hs:=by first|exact hc _ _|fail)|fail)) ?_|fail)
  refine IWP_loop (fun x : List Pr × Nat => ⟨82, [(0, .sl 0 0 L.length cap 2), (1, .i64 lo), (2, .i64 hi), (3, .i64 f), (4, .fn (.func kc) [] []), (10, .i64 x.2)], [.arr false (pairs x.1)]⟩)
    (fun x => PS f (f + hi) L x.1 ∧ Dn (fun x y => decide (c x y < 0)) f lo hi x.2 x.1 ∧ lo ≤ x.2 ∧ (x.2 < hi ∨ x.2 = lo)) (fun x => hi - x.2) (L, lo) (lP [0]) ⟨.refl _ _ _, Dn.start hH, Nat.le_refl _, .inr rfl⟩ ?_
  rintro ⟨M, r⟩ ⟨hp, hs, hr, hr2⟩
  replace hp : PS f (f + hi) L M := hp
  have hl := hp.len
  simp only at hs hr hr2 ⊢
  by_cases h1 : 2 * r + 1 < hi
  · have e1 : f + (2 * r + 1) < M.length := by omega
    by_cases h2 : 2 * r + 2 < hi
    · by_cases h3 : c (gd M (f + (2 * r + 1))) (gd M (f + (2 * r + 1) + 1)) < 0
      · by_cases h4 : c (gd M (f + r)) (gd M (f + (2 * r + 1 + 1))) < 0
        · repeat' (first|refine IOps_nil ?_|refine oS ?_|refine IOps_s rfl rfl ?_|refine oT ?_|refine IOps_s0 rfl ?_|refine oC (π:=[]) (hs:=by first|exact hc _ _|fail) (hx:=?_)|refine oZ ?_|refine oI ?_|refine oAB ?_|refine thenI_n ?_|refine IWP_seq ?_|refine IWP_region ?_|refine IWP_ct rfl ?_|refine IWP_cf rfl ?_|refine IWP_skip ?_|refine IWP_ret ?_|refine IWP_block ?_|refine inB_n ?_|refine thenI_r ?_|refine thenI_e ?_|refine inB_r ?_|refine inB_hit ?_|refine inB_miss rfl ?_|refine IWP_exit ?_|refine IWP_scope ?_|refine IWP_label ?_|refine noG_n ?_|refine noG_r ?_|refine noG_e ?_|refine jmp_n ?_|refine jmp_r ?_|refine jmp_e ?_|refine jmp_g ?_|refine thenI_g ?_|refine inB_g ?_|refine IWP_goto ?_|refine Loop_n ?_|refine oD (id:=3) W82_3 [] O82_3 [_,_,_,_,_,_,_,_,_,_,_,_,_,_,_,_,_,_,_,_,_,_] [_] rfl (by repeat' (first|exact trivial|refine And.intro ?_ ?_|exact bS|exact bX|exact bZ|exact bI|exact bC (π:=[]) (hs:=by first|exact hc _ _|fail)|fail)) ?_|refine oD (id:=5) W82_5 [] O82_5 [_,_,_,_,_,_,_,_,_,_,_,_,_,_,_,_] [_] rfl (by repeat' (first|exact trivial|refine And.intro ?_ ?_|exact bS|exact bX|exact bZ|exact bI|exact bC (π:=[]) (hs:=by first|exact hc _ _|fail)|fail)) ?_|refine oD (id:=6) W82_6 [21, 23] O82_6 [_,_,_,_,_,_,_,_,_,_,_,_,_,_,_,_,_,_,_,_,_,_,_,_] [_,_,_] rfl (by repeat' (first|exact trivial|refine And.intro ?_ ?_|exact bS|exact bX|exact bZ|exact bI|exact bC (π:=[]) (hs:=by first|exact hc _ _|fail)|fail)) ?_|fail)
          refine ⟨(sw M (f + r) (f + (2 * r + 2)), 2 * r + 2), ⟨hp.trans (.sw (by omega) (by omega) (by omega) (by omega) (by omega)), Dn.step oc hs hr (.inr rfl) h2 (by omega) (decide_eq_true h4) (fun d hd hd2 => ?_), by omega, .inl h2⟩, by simp only; omega, lP [0]⟩
          rcases hd with rfl | rfl
          · exact oc.asym _ _ (decide_eq_true h3)
          · exact oc.irr _
        · repeat' (first|refine IOps_nil ?_|refine oS ?_|refine IOps_s rfl rfl ?_|refine oT ?_|refine IOps_s0 rfl ?_|refine oC (π:=[]) (hs:=by first|exact hc _ _|fail) (hx:=?_)|refine oZ ?_|refine oI ?_|refine oAB ?_|refine thenI_n ?_|refine IWP_seq ?_|refine IWP_region ?_|refine IWP_ct rfl ?_|refine IWP_cf rfl ?_|refine IWP_skip ?_|refine IWP_ret ?_|refine IWP_block ?_|refine inB_n ?_|refine thenI_r ?_|refine thenI_e ?_|refine inB_r ?_|refine inB_hit ?_|refine inB_miss rfl ?_|refine IWP_exit ?_|refine IWP_scope ?_|refine IWP_label ?_|refine noG_n ?_|refine noG_r ?_|refine noG_e ?_|refine jmp_n ?_|refine jmp_r ?_|refine jmp_e ?_|refine jmp_g ?_|refine thenI_g ?_|refine inB_g ?_|refine IWP_goto ?_|refine Loop_n ?_|refine oD (id:=3) W82_3 [] O82_3 [_,_,_,_,_,_,_,_,_,_,_,_,_,_,_,_,_,_,_,_,_,_] [_] rfl (by repeat' (first|exact trivial|refine And.intro ?_ ?_|exact bS|exact bX|exact bZ|exact bI|exact bC (π:=[]) (hs:=by first|exact hc _ _|fail)|fail)) ?_|refine oD (id:=5) W82_5 [] O82_5 [_,_,_,_,_,_,_,_,_,_,_,_,_,_,_,_] [_] rfl (by repeat' (first|exact trivial|refine And.intro ?_ ?_|exact bS|exact bX|exact bZ|exact bI|exact bC (π:=[]) (hs:=by first|exact hc _ _|fail)|fail)) ?_|refine oD (id:=6) W82_6 [21, 23] O82_6 [_,_,_,_,_,_,_,_,_,_,_,_,_,_,_,_,_,_,_,_,_,_,_,_] [_,_,_] rfl (by repeat' (first|exact trivial|refine And.intro ?_ ?_|exact bS|exact bX|exact bZ|exact bI|exact bC (π:=[]) (hs:=by first|exact hc _ _|fail)|fail)) ?_|fail)
          exact pX [0] M ⟨hp, Dn.stop hs (oc.trans _ _ _ (decide_eq_false h4) (oc.asym _ _ (decide_eq_true h3))) (fun _ => decide_eq_false h4)⟩ rfl
      · by_cases h4 : c (gd M (f + r)) (gd M (f + (2 * r + 1))) < 0
        · repeat' (first|refine IOps_nil ?_|refine oS ?_|refine IOps_s rfl rfl ?_|refine oT ?_|refine IOps_s0 rfl ?_|refine oC (π:=[]) (hs:=by first|exact hc _ _|fail) (hx:=?_)|refine oZ ?_|refine oI ?_|refine oAB ?_|refine thenI_n ?_|refine IWP_seq ?_|refine IWP_region ?_|refine IWP_ct rfl ?_|refine IWP_cf rfl ?_|refine IWP_skip ?_|refine IWP_ret ?_|refine IWP_block ?_|refine inB_n ?_|refine thenI_r ?_|refine thenI_e ?_|refine inB_r ?_|refine inB_hit ?_|refine inB_miss rfl ?_|refine IWP_exit ?_|refine IWP_scope ?_|refine IWP_label ?_|refine noG_n ?_|refine noG_r ?_|refine noG_e ?_|refine jmp_n ?_|refine jmp_r ?_|refine jmp_e ?_|refine jmp_g ?_|refine thenI_g ?_|refine inB_g ?_|refine IWP_goto ?_|refine Loop_n ?_|refine oD (id:=3) W82_3 [] O82_3 [_,_,_,_,_,_,_,_,_,_,_,_,_,_,_,_,_,_,_,_,_,_] [_] rfl (by repeat' (first|exact trivial|refine And.intro ?_ ?_|exact bS|exact bX|exact bZ|exact bI|exact bC (π:=[]) (hs:=by first|exact hc _ _|fail)|fail)) ?_|refine oD (id:=5) W82_5 [] O82_5 [_,_,_,_,_,_,_,_,_,_,_,_,_,_,_,_] [_] rfl (by repeat' (first|exact trivial|refine And.intro ?_ ?_|exact bS|exact bX|exact bZ|exact bI|exact bC (π:=[]) (hs:=by first|exact hc _ _|fail)|fail)) ?_|refine oD (id:=6) W82_6 [21, 23] O82_6 [_,_,_,_,_,_,_,_,_,_,_,_,_,_,_,_,_,_,_,_,_,_,_,_] [_,_,_] rfl (by repeat' (first|exact trivial|refine And.intro ?_ ?_|exact bS|exact bX|exact bZ|exact bI|exact bC (π:=[]) (hs:=by first|exact hc _ _|fail)|fail)) ?_|fail)
          refine ⟨(sw M (f + r) (f + (2 * r + 1)), 2 * r + 1), ⟨hp.trans (.sw (by omega) (by omega) (by omega) (by omega) (by omega)), Dn.step oc hs hr (.inl rfl) h1 (by omega) (decide_eq_true h4) (fun d hd hd2 => ?_), by omega, .inl h1⟩, by simp only; omega, lP [0]⟩
          rcases hd with rfl | rfl
          · exact oc.irr _
          · exact decide_eq_false h3
        · repeat' (first|refine IOps_nil ?_|refine oS ?_|refine IOps_s rfl rfl ?_|refine oT ?_|refine IOps_s0 rfl ?_|refine oC (π:=[]) (hs:=by first|exact hc _ _|fail) (hx:=?_)|refine oZ ?_|refine oI ?_|refine oAB ?_|refine thenI_n ?_|refine IWP_seq ?_|refine IWP_region ?_|refine IWP_ct rfl ?_|refine IWP_cf rfl ?_|refine IWP_skip ?_|refine IWP_ret ?_|refine IWP_block ?_|refine inB_n ?_|refine thenI_r ?_|refine thenI_e ?_|refine inB_r ?_|refine inB_hit ?_|refine inB_miss rfl ?_|refine IWP_exit ?_|refine IWP_scope ?_|refine IWP_label ?_|refine noG_n ?_|refine noG_r ?_|refine noG_e ?_|refine jmp_n ?_|refine jmp_r ?_|refine jmp_e ?_|refine jmp_g ?_|refine thenI_g ?_|refine inB_g ?_|refine IWP_goto ?_|refine Loop_n ?_|refine oD (id:=3) W82_3 [] O82_3 [_,_,_,_,_,_,_,_,_,_,_,_,_,_,_,_,_,_,_,_,_,_] [_] rfl (by repeat' (first|exact trivial|refine And.intro ?_ ?_|exact bS|exact bX|exact bZ|exact bI|exact bC (π:=[]) (hs:=by first|exact hc _ _|fail)|fail)) ?_|refine oD (id:=5) W82_5 [] O82_5 [_,_,_,_,_,_,_,_,_,_,_,_,_,_,_,_] [_] rfl (by repeat' (first|exact trivial|refine And.intro ?_ ?_|exact bS|exact bX|exact bZ|exact bI|exact bC (π:=[]) (hs:=by first|exact hc _ _|fail)|fail)) ?_|refine oD (id:=6) W82_6 [21, 23] O82_6 [_,_,_,_,_,_,_,_,_,_,_,_,_,_,_,_,_,_,_,_,_,_,_,_] [_,_,_] rfl (by repeat' (first|exact trivial|refine And.intro ?_ ?_|exact bS|exact bX|exact bZ|exact bI|exact bC (π:=[]) (hs:=by first|exact hc _ _|fail)|fail)) ?_|fail)
          exact pX [0] M ⟨hp, Dn.stop hs (decide_eq_false h4) (fun _ => oc.trans _ _ _ (decide_eq_false h4) (decide_eq_false h3))⟩ rfl
    · by_cases h4 : c (gd M (f + r)) (gd M (f + (2 * r + 1))) < 0
      · repeat' (first|refine IOps_nil ?_|refine oS ?_|refine IOps_s rfl rfl ?_|refine oT ?_|refine IOps_s0 rfl ?_|refine oC (π:=[]) (hs:=by first|exact hc _ _|fail) (hx:=?_)|refine oZ ?_|refine oI ?_|refine oAB ?_|refine thenI_n ?_|refine IWP_seq ?_|refine IWP_region ?_|refine IWP_ct rfl ?_|refine IWP_cf rfl ?_|refine IWP_skip ?_|refine IWP_ret ?_|refine IWP_block ?_|refine inB_n ?_|refine thenI_r ?_|refine thenI_e ?_|refine inB_r ?_|refine inB_hit ?_|refine inB_miss rfl ?_|refine IWP_exit ?_|refine IWP_scope ?_|refine IWP_label ?_|refine noG_n ?_|refine noG_r ?_|refine noG_e ?_|refine jmp_n ?_|refine jmp_r ?_|refine jmp_e ?_|refine jmp_g ?_|refine thenI_g ?_|refine inB_g ?_|refine IWP_goto ?_|refine Loop_n ?_|refine oD (id:=3) W82_3 [] O82_3 [_,_,_,_,_,_,_,_,_,_,_,_,_,_,_,_,_,_,_,_,_,_] [_] rfl (by repeat' (first|exact trivial|refine And.intro ?_ ?_|exact bS|exact bX|exact bZ|exact bI|exact bC (π:=[]) (hs:=by first|exact hc _ _|fail)|fail)) ?_|refine oD (id:=5) W82_5 [] O82_5 [_,_,_,_,_,_,_,_,_,_,_,_,_,_,_,_] [_] rfl (by repeat' (first|exact trivial|refine And.intro ?_ ?_|exact bS|exact bX|exact bZ|exact bI|exact bC (π:=[]) (hs:=by first|exact hc _ _|fail)|fail)) ?_|refine oD (id:=6) W82_6 [21, 23] O82_6 [_,_,_,_,_,_,_,_,_,_,_,_,_,_,_,_,_,_,_,_,_,_,_,_] [_,_,_] rfl (by repeat' (first|exact trivial|refine And.intro ?_ ?_|exact bS|exact bX|exact bZ|exact bI|exact bC (π:=[]) (hs:=by first|exact hc _ _|fail)|fail)) ?_|fail)
        refine ⟨(sw M (f + r) (f + (2 * r + 1)), 2 * r + 1), ⟨hp.trans (.sw (by omega) (by omega) (by omega) (by omega) (by omega)), Dn.step oc hs hr (.inl rfl) h1 (by omega) (decide_eq_true h4) (fun d hd hd2 => ?_), by omega, .inl h1⟩, by simp only; omega, lP [0]⟩
        rcases hd with rfl | rfl
        · exact oc.irr _
        · omega
      · repeat' (first|refine IOps_nil ?_|refine oS ?_|refine IOps_s rfl rfl ?_|refine oT ?_|refine IOps_s0 rfl ?_|refine oC (π:=[]) (hs:=by first|exact hc _ _|fail) (hx:=?_)|refine oZ ?_|refine oI ?_|refine oAB ?_|refine thenI_n ?_|refine IWP_seq ?_|refine IWP_region ?_|refine IWP_ct rfl ?_|refine IWP_cf rfl ?_|refine IWP_skip ?_|refine IWP_ret ?_|refine IWP_block ?_|refine inB_n ?_|refine thenI_r ?_|refine thenI_e ?_|refine inB_r ?_|refine inB_hit ?_|refine inB_miss rfl ?_|refine IWP_exit ?_|refine IWP_scope ?_|refine IWP_label ?_|refine noG_n ?_|refine noG_r ?_|refine noG_e ?_|refine jmp_n ?_|refine jmp_r ?_|refine jmp_e ?_|refine jmp_g ?_|refine thenI_g ?_|refine inB_g ?_|refine IWP_goto ?_|refine Loop_n ?_|refine oD (id:=3) W82_3 [] O82_3 [_,_,_,_,_,_,_,_,_,_,_,_,_,_,_,_,_,_,_,_,_,_] [_] rfl (by repeat' (first|exact trivial|refine And.intro ?_ ?_|exact bS|exact bX|exact bZ|exact bI|exact bC (π:=[]) (hs:=by first|exact hc _ _|fail)|fail)) ?_|refine oD (id:=5) W82_5 [] O82_5 [_,_,_,_,_,_,_,_,_,_,_,_,_,_,_,_] [_] rfl (by repeat' (first|exact trivial|refine And.intro ?_ ?_|exact bS|exact bX|exact bZ|exact bI|exact bC (π:=[]) (hs:=by first|exact hc _ _|fail)|fail)) ?_|refine oD (id:=6) W82_6 [21, 23] O82_6 [_,_,_,_,_,_,_,_,_,_,_,_,_,_,_,_,_,_,_,_,_,_,_,_] [_,_,_] rfl (by repeat' (first|exact trivial|refine And.intro ?_ ?_|exact bS|exact bX|exact bZ|exact bI|exact bC (π:=[]) (hs:=by first|exact hc _ _|fail)|fail)) ?_|fail)
        exact pX [0] M ⟨hp, Dn.stop hs (decide_eq_false h4) (fun _ => by omega)⟩ rfl
  · repeat' (first|refine IOps_nil ?_|refine oS ?_|refine IOps_s rfl rfl ?_|refine oT ?_|refine IOps_s0 rfl ?_|refine oC (π:=[]) (hs:=by first|exact hc _ _|fail) (hx:=?_)|refine oZ ?_|refine oI ?_|refine oAB ?_|refine thenI_n ?_|refine IWP_seq ?_|refine IWP_region ?_|refine IWP_ct rfl ?_|refine IWP_cf rfl ?_|refine IWP_skip ?_|refine IWP_ret ?_|refine IWP_block ?_|refine inB_n ?_|refine thenI_r ?_|refine thenI_e ?_|refine inB_r ?_|refine inB_hit ?_|refine inB_miss rfl ?_|refine IWP_exit ?_|refine IWP_scope ?_|refine IWP_label ?_|refine noG_n ?_|refine noG_r ?_|refine noG_e ?_|refine jmp_n ?_|refine jmp_r ?_|refine jmp_e ?_|refine jmp_g ?_|refine thenI_g ?_|refine inB_g ?_|refine IWP_goto ?_|refine Loop_n ?_|refine oD (id:=3) W82_3 [] O82_3 [_,_,_,_,_,_,_,_,_,_,_,_,_,_,_,_,_,_,_,_,_,_] [_] rfl (by repeat' (first|exact trivial|refine And.intro ?_ ?_|exact bS|exact bX|exact bZ|exact bI|exact bC (π:=[]) (hs:=by first|exact hc _ _|fail)|fail)) ?_|refine oD (id:=5) W82_5 [] O82_5 [_,_,_,_,_,_,_,_,_,_,_,_,_,_,_,_] [_] rfl (by repeat' (first|exact trivial|refine And.intro ?_ ?_|exact bS|exact bX|exact bZ|exact bI|exact bC (π:=[]) (hs:=by first|exact hc _ _|fail)|fail)) ?_|refine oD (id:=6) W82_6 [21, 23] O82_6 [_,_,_,_,_,_,_,_,_,_,_,_,_,_,_,_,_,_,_,_,_,_,_,_] [_,_,_] rfl (by repeat' (first|exact trivial|refine And.intro ?_ ?_|exact bS|exact bX|exact bZ|exact bI|exact bC (π:=[]) (hs:=by first|exact hc _ _|fail)|fail)) ?_|fail)
    exact pX [0] M ⟨hp, Dn.leaf hs (by omega)⟩ rfl

theorem drev_spec (L : List Pr) (a b cap : Nat) (hab : a ≤ b) (hb : b ≤ L.length) (hL : L.length ≤ 1000000000) :
    Idl.Spec Try.prog 77 [.sl 0 0 L.length cap 2, .i64 a, .i64 b, .fn (.func kc) [] []] [.arr false (pairs L)]
      (Ex (fun M : List Pr => PS a b L M) (fun _ => .tup []) (fun M => [.arr false (pairs M)])) := by
  refine sE Try.func77 Try.ntmps77 ?_
  repeat' (first|refine IOps_nil ?_|refine oS ?_|refine IOps_s rfl rfl ?_|refine oT ?_|refine IOps_s0 rfl ?_|refine oC (π:=[]) (hs:=by first|exact hc _ _|fail) (hx:=?_)|refine oZ ?_|refine oI ?_|refine oAB ?_|refine thenI_n ?_|refine IWP_seq ?_|refine IWP_region ?_|refine IWP_ct rfl ?_|refine IWP_cf rfl ?_|refine IWP_skip ?_|refine IWP_ret ?_|refine IWP_block ?_|refine inB_n ?_|refine thenI_r ?_|refine thenI_e ?_|refine inB_r ?_|refine inB_hit ?_|refine inB_miss rfl ?_|refine IWP_exit ?_|refine IWP_scope ?_|refine IWP_label ?_|refine noG_n ?_|refine noG_r ?_|refine noG_e ?_|refine jmp_n ?_|refine jmp_r ?_|refine jmp_e ?_|refine jmp_g ?_|refine thenI_g ?_|refine inB_g ?_|refine IWP_goto ?_|refine Loop_n ?_|refine oD (id:=3) W77_3 [13, 15] O77_3 [_,_,_,_,_,_,_,_,_,_,_,_,_,_,_,_] [_,_,_] rfl (by repeat' (first|exact trivial|refine And.intro ?_ ?_|exact bS|exact bX|exact bZ|exact bI|exact bC (π:=[]) (hs:=by first|exact hc _ _|fail)|fail)) ?_|fail)
  refine IWP_loop (fun x : List Pr × Nat => ⟨34, [(0, .sl 0 0 L.length cap 2), (8, .i64 ((a : Int) + x.2)), (9, .i64 ((b : Int) - 1 - x.2))], [.arr false (pairs x.1)]⟩)
    (fun x => PS a b L x.1 ∧ x.2 ≤ b) (fun x => b - x.2) (L, 0) (lP [0]) ⟨.refl _ _ _, Nat.zero_le _⟩ ?_
  rintro ⟨M, t⟩ ⟨hp, ht⟩
  replace hp : PS a b L M := hp
  have hl := hp.len
  simp only at ht ⊢
  by_cases h1 : a + t + 1 + t < b
  · obtain ⟨u, hu⟩ : ∃ u : Nat, (b : Int) - 1 - t = u := ⟨b - 1 - t, by omega⟩
    rw [hu]
    repeat' (first|refine IOps_nil ?_|refine oS ?_|refine IOps_s rfl rfl ?_|refine oT ?_|refine IOps_s0 rfl ?_|refine oC (π:=[]) (hs:=by first|exact hc _ _|fail) (hx:=?_)|refine oZ ?_|refine oI ?_|refine oAB ?_|refine thenI_n ?_|refine IWP_seq ?_|refine IWP_region ?_|refine IWP_ct rfl ?_|refine IWP_cf rfl ?_|refine IWP_skip ?_|refine IWP_ret ?_|refine IWP_block ?_|refine inB_n ?_|refine thenI_r ?_|refine thenI_e ?_|refine inB_r ?_|refine inB_hit ?_|refine inB_miss rfl ?_|refine IWP_exit ?_|refine IWP_scope ?_|refine IWP_label ?_|refine noG_n ?_|refine noG_r ?_|refine noG_e ?_|refine jmp_n ?_|refine jmp_r ?_|refine jmp_e ?_|refine jmp_g ?_|refine thenI_g ?_|refine inB_g ?_|refine IWP_goto ?_|refine Loop_n ?_|refine oD (id:=3) W77_3 [13, 15] O77_3 [_,_,_,_,_,_,_,_,_,_,_,_,_,_,_,_] [_,_,_] rfl (by repeat' (first|exact trivial|refine And.intro ?_ ?_|exact bS|exact bX|exact bZ|exact bI|exact bC (π:=[]) (hs:=by first|exact hc _ _|fail)|fail)) ?_|fail)
    exact ⟨(sw M (a + t) u, t + 1), ⟨hp.trans (.sw (by omega) (by omega) (by omega) (by omega) (by omega)), by omega⟩, by simp only; omega, lP [0]⟩
  · repeat' (first|refine IOps_nil ?_|refine oS ?_|refine IOps_s rfl rfl ?_|refine oT ?_|refine IOps_s0 rfl ?_|refine oC (π:=[]) (hs:=by first|exact hc _ _|fail) (hx:=?_)|refine oZ ?_|refine oI ?_|refine oAB ?_|refine thenI_n ?_|refine IWP_seq ?_|refine IWP_region ?_|refine IWP_ct rfl ?_|refine IWP_cf rfl ?_|refine IWP_skip ?_|refine IWP_ret ?_|refine IWP_block ?_|refine inB_n ?_|refine thenI_r ?_|refine thenI_e ?_|refine inB_r ?_|refine inB_hit ?_|refine inB_miss rfl ?_|refine IWP_exit ?_|refine IWP_scope ?_|refine IWP_label ?_|refine noG_n ?_|refine noG_r ?_|refine noG_e ?_|refine jmp_n ?_|refine jmp_r ?_|refine jmp_e ?_|refine jmp_g ?_|refine thenI_g ?_|refine inB_g ?_|refine IWP_goto ?_|refine Loop_n ?_|refine oD (id:=3) W77_3 [13, 15] O77_3 [_,_,_,_,_,_,_,_,_,_,_,_,_,_,_,_] [_,_,_] rfl (by repeat' (first|exact trivial|refine And.intro ?_ ?_|exact bS|exact bX|exact bZ|exact bI|exact bC (π:=[]) (hs:=by first|exact hc _ _|fail)|fail)) ?_|fail)
    exact pX [0] M hp rfl
end
end Go.Proofs.Ytmgcoopmbohkoaa

namespace Go.Proofs.Ytmgcoopmbohkoaa
open Go Go.Idl
set_option linter.unusedSimpArgs false
set_option linter.unusedVariables false
set_option maxRecDepth 100000
set_option maxHeartbeats 1000000
attribute [local irreducible] Go.Idl.IWP Go.Idl.IOps Go.Idl.Obl Go.Idl.OpG Go.Idl.thenI Go.Idl.inBlockI Go.Idl.LoopU Go.Idl.noGotoI Go.Idl.jumpI
attribute [local go_sem] List.length_set
theorem dhalf_eq (a b : Nat) (hab : a ≤ b) (hb : b ≤ 1000000000) : IntKind.i64.wrap (((b : Int) - a - 1).tdiv 2) = (((b - a - 1) / 2 : Nat) : Int) := by
  have h : ((b : Int) - a - 1).tdiv 2 = (((b - a - 1) / 2 : Nat) : Int) := by
    rcases Nat.eq_or_lt_of_le hab with rfl | h
    · rw [show (a : Int) - a - 1 = -1 by omega, show a - a - 1 = 0 by omega]; rfl
    · rw [show (b : Int) - a - 1 = ((b - a - 1 : Nat) : Int) by omega]; rfl
  rw [h]; exact wrap_i64 (by omega) (by omega)

section
variable {c : Pr → Pr → Int} {kc : FuncId} (hc : ∀ x y : Pr, Idl.Spec Try.prog kc [.agg [.sc (.string ⟨⟨x.tag⟩⟩), .sc (.int .i64 x.id)], .agg [.sc (.string ⟨⟨y.tag⟩⟩), .sc (.int .i64 y.id)]] [] (Only (.i64 (c x y)) []))
include hc
theorem dhsort_spec (L : List Pr) (a b cap : Nat) (oc : OrdL fun x y => decide (c x y < 0)) (hab : a ≤ b) (hb : b ≤ L.length) (hL : L.length ≤ 1000000000) :
    Idl.Spec Try.prog 74 [.sl 0 0 L.length cap 2, .i64 a, .i64 b, .fn (.func kc) [] []] [.arr false (pairs L)]
      (Ex (fun M : List Pr => PS a b L M ∧ SS (fun x y => decide (c x y < 0)) a b M) (fun _ => .tup []) (fun M => [.arr false (pairs M)])) := by
  obtain ⟨n, rfl⟩ : ∃ n, b = a + n := ⟨b - a, by omega⟩
  have hw := dhalf_eq a (a + n) hab (by omega)
  refine sE Try.func74 Try.ntmps74 ?_
  repeat' (first|refine IOps_nil ?_|refine oS ?_|refine IOps_s rfl rfl ?_|refine oT ?_|refine IOps_s0 rfl ?_|refine oC (π:=[]) (hs:=by first|exact hc _ _|fail) (hx:=?_)|refine oZ ?_|refine oI ?_|refine oAB ?_|refine thenI_n ?_|refine IWP_seq ?_|refine IWP_region ?_|refine IWP_ct rfl ?_|refine IWP_cf rfl ?_|refine IWP_skip ?_|refine IWP_ret ?_|refine IWP_block ?_|refine inB_n ?_|refine thenI_r ?_|refine thenI_e ?_|refine inB_r ?_|refine inB_hit ?_|refine inB_miss rfl ?_|refine IWP_exit ?_|refine IWP_scope ?_|refine IWP_label ?_|refine noG_n ?_|refine noG_r ?_|refine noG_e ?_|refine jmp_n ?_|refine jmp_r ?_|refine jmp_e ?_|refine jmp_g ?_|refine thenI_g ?_|refine inB_g ?_|refine IWP_goto ?_|refine Loop_n ?_|refine oD (id:=10) W74_10 [17, 19] O74_10 [_,_,_,_,_,_,_,_,_,_,_,_,_,_,_,_,_,_,_,_] [_,_,_] rfl (by repeat' (first|exact trivial|refine And.intro ?_ ?_|exact bS|exact bX|exact bZ|exact bI|exact bC (π:=[]) (hs:=by first|exact hc _ _|fail)|fail)) ?_|fail)
  rw [hw]
  refine IWP_loop (fun x : List Pr × Nat => ⟨60, [(0, .sl 0 0 L.length cap 2), (3, .fn (.func kc) [] []), (8, .i64 a), (9, .i64 0), (10, .i64 n), (11, .i64 ((x.2 : Int) - 1))], [.arr false (pairs x.1)]⟩)
    (fun x => PS a (a + n) L x.1 ∧ HP (fun x y => decide (c x y < 0)) a x.2 n x.1 ∧ x.2 ≤ n + 1) (fun x => x.2) (L, (a + n - a - 1) / 2 + 1) (lP [0]) ⟨.refl _ _ _, fun p q h1 h2 h3 => by simp only at h1; omega, by simp only; omega⟩ ?_
  rintro ⟨M, j⟩ ⟨hp, hs, hj⟩
  replace hp : PS a (a + n) L M := hp
  have hl := hp.len
  simp only at hs hj ⊢
  cases j with
  | succ k =>
    rw [show (((k + 1 : Nat) : Int) - 1) = (k : Int) by omega]
    repeat' (first|refine IOps_nil ?_|refine oS ?_|refine IOps_s rfl rfl ?_|refine oT ?_|refine IOps_s0 rfl ?_|refine oC (π:=[]) (hs:=by first|exact hc _ _|fail) (hx:=?_)|refine oZ ?_|refine oI ?_|refine oAB ?_|refine thenI_n ?_|refine IWP_seq ?_|refine IWP_region ?_|refine IWP_ct rfl ?_|refine IWP_cf rfl ?_|refine IWP_skip ?_|refine IWP_ret ?_|refine IWP_block ?_|refine inB_n ?_|refine thenI_r ?_|refine thenI_e ?_|refine inB_r ?_|refine inB_hit ?_|refine inB_miss rfl ?_|refine IWP_exit ?_|refine IWP_scope ?_|refine IWP_label ?_|refine noG_n ?_|refine noG_r ?_|refine noG_e ?_|refine jmp_n ?_|refine jmp_r ?_|refine jmp_e ?_|refine jmp_g ?_|refine thenI_g ?_|refine inB_g ?_|refine IWP_goto ?_|refine Loop_n ?_|refine oD (id:=10) W74_10 [17, 19] O74_10 [_,_,_,_,_,_,_,_,_,_,_,_,_,_,_,_,_,_,_,_] [_,_,_] rfl (by repeat' (first|exact trivial|refine And.intro ?_ ?_|exact bS|exact bX|exact bZ|exact bI|exact bC (π:=[]) (hs:=by first|exact hc _ _|fail)|fail)) ?_|fail)
    have hsp := dsift_spec hc M k n a cap oc (by omega) (by omega) (by omega) hs
    rw [hl] at hsp
    refine oE [0] (hs := hsp) (hx := ?_)
    rintro N ⟨hN, hH⟩
    have hl2 := hN.len
    repeat' (first|refine IOps_nil ?_|refine oS ?_|refine IOps_s rfl rfl ?_|refine oT ?_|refine IOps_s0 rfl ?_|refine oC (π:=[]) (hs:=by first|exact hc _ _|fail) (hx:=?_)|refine oZ ?_|refine oI ?_|refine oAB ?_|refine thenI_n ?_|refine IWP_seq ?_|refine IWP_region ?_|refine IWP_ct rfl ?_|refine IWP_cf rfl ?_|refine IWP_skip ?_|refine IWP_ret ?_|refine IWP_block ?_|refine inB_n ?_|refine thenI_r ?_|refine thenI_e ?_|refine inB_r ?_|refine inB_hit ?_|refine inB_miss rfl ?_|refine IWP_exit ?_|refine IWP_scope ?_|refine IWP_label ?_|refine noG_n ?_|refine noG_r ?_|refine noG_e ?_|refine jmp_n ?_|refine jmp_r ?_|refine jmp_e ?_|refine jmp_g ?_|refine thenI_g ?_|refine inB_g ?_|refine IWP_goto ?_|refine Loop_n ?_|refine oD (id:=10) W74_10 [17, 19] O74_10 [_,_,_,_,_,_,_,_,_,_,_,_,_,_,_,_,_,_,_,_] [_,_,_] rfl (by repeat' (first|exact trivial|refine And.intro ?_ ?_|exact bS|exact bX|exact bZ|exact bI|exact bC (π:=[]) (hs:=by first|exact hc _ _|fail)|fail)) ?_|fail)
    exact ⟨(N, k), ⟨hp.trans hN, hH, by omega⟩, by simp only; omega, lP [0]⟩
  | zero =>
    repeat' (first|refine IOps_nil ?_|refine oS ?_|refine IOps_s rfl rfl ?_|refine oT ?_|refine IOps_s0 rfl ?_|refine oC (π:=[]) (hs:=by first|exact hc _ _|fail) (hx:=?_)|refine oZ ?_|refine oI ?_|refine oAB ?_|refine thenI_n ?_|refine IWP_seq ?_|refine IWP_region ?_|refine IWP_ct rfl ?_|refine IWP_cf rfl ?_|refine IWP_skip ?_|refine IWP_ret ?_|refine IWP_block ?_|refine inB_n ?_|refine thenI_r ?_|refine thenI_e ?_|refine inB_r ?_|refine inB_hit ?_|refine inB_miss rfl ?_|refine IWP_exit ?_|refine IWP_scope ?_|refine IWP_label ?_|refine noG_n ?_|refine noG_r ?_|refine noG_e ?_|refine jmp_n ?_|refine jmp_r ?_|refine jmp_e ?_|refine jmp_g ?_|refine thenI_g ?_|refine inB_g ?_|refine IWP_goto ?_|refine Loop_n ?_|refine oD (id:=10) W74_10 [17, 19] O74_10 [_,_,_,_,_,_,_,_,_,_,_,_,_,_,_,_,_,_,_,_] [_,_,_] rfl (by repeat' (first|exact trivial|refine And.intro ?_ ?_|exact bS|exact bX|exact bZ|exact bI|exact bC (π:=[]) (hs:=by first|exact hc _ _|fail)|fail)) ?_|fail)
    refine IWP_loop (fun x : List Pr × Nat => ⟨60, [(0, .sl 0 0 L.length cap 2), (3, .fn (.func kc) [] []), (8, .i64 a), (9, .i64 0), (10, .i64 n), (12, .i64 ((x.2 : Int) - 1))], [.arr false (pairs x.1)]⟩)
      (fun x => HS (fun x y => decide (c x y < 0)) a (a + n) x.2 L x.1) (fun x => x.2) (M, n) (lP [0]) ⟨hp, by simp only; omega, by simp only; omega, hs, fun p q h1 h2 h3 => by simp only at h1; omega, fun p q h1 h2 h3 => by simp only at h3; omega⟩ ?_
    rintro ⟨M, j⟩ hS
    replace hS : HS (fun x y => decide (c x y < 0)) a (a + n) j L M := hS
    have hl := hS.ps.len
    have hkb := hS.kb
    simp only at ⊢
    cases j with
    | zero =>
      repeat' (first|refine IOps_nil ?_|refine oS ?_|refine IOps_s rfl rfl ?_|refine oT ?_|refine IOps_s0 rfl ?_|refine oC (π:=[]) (hs:=by first|exact hc _ _|fail) (hx:=?_)|refine oZ ?_|refine oI ?_|refine oAB ?_|refine thenI_n ?_|refine IWP_seq ?_|refine IWP_region ?_|refine IWP_ct rfl ?_|refine IWP_cf rfl ?_|refine IWP_skip ?_|refine IWP_ret ?_|refine IWP_block ?_|refine inB_n ?_|refine thenI_r ?_|refine thenI_e ?_|refine inB_r ?_|refine inB_hit ?_|refine inB_miss rfl ?_|refine IWP_exit ?_|refine IWP_scope ?_|refine IWP_label ?_|refine noG_n ?_|refine noG_r ?_|refine noG_e ?_|refine jmp_n ?_|refine jmp_r ?_|refine jmp_e ?_|refine jmp_g ?_|refine thenI_g ?_|refine inB_g ?_|refine IWP_goto ?_|refine Loop_n ?_|refine oD (id:=10) W74_10 [17, 19] O74_10 [_,_,_,_,_,_,_,_,_,_,_,_,_,_,_,_,_,_,_,_] [_,_,_] rfl (by repeat' (first|exact trivial|refine And.intro ?_ ?_|exact bS|exact bX|exact bZ|exact bI|exact bC (π:=[]) (hs:=by first|exact hc _ _|fail)|fail)) ?_|fail)
      exact pX [0] M ⟨hS.ps, hS.ss⟩ rfl
    | succ k =>
      rw [show (((k + 1 : Nat) : Int) - 1) = (k : Int) by omega]
      have hst := hS.step oc
      repeat' (first|refine IOps_nil ?_|refine oS ?_|refine IOps_s rfl rfl ?_|refine oT ?_|refine IOps_s0 rfl ?_|refine oC (π:=[]) (hs:=by first|exact hc _ _|fail) (hx:=?_)|refine oZ ?_|refine oI ?_|refine oAB ?_|refine thenI_n ?_|refine IWP_seq ?_|refine IWP_region ?_|refine IWP_ct rfl ?_|refine IWP_cf rfl ?_|refine IWP_skip ?_|refine IWP_ret ?_|refine IWP_block ?_|refine inB_n ?_|refine thenI_r ?_|refine thenI_e ?_|refine inB_r ?_|refine inB_hit ?_|refine inB_miss rfl ?_|refine IWP_exit ?_|refine IWP_scope ?_|refine IWP_label ?_|refine noG_n ?_|refine noG_r ?_|refine noG_e ?_|refine jmp_n ?_|refine jmp_r ?_|refine jmp_e ?_|refine jmp_g ?_|refine thenI_g ?_|refine inB_g ?_|refine IWP_goto ?_|refine Loop_n ?_|refine oD (id:=10) W74_10 [17, 19] O74_10 [_,_,_,_,_,_,_,_,_,_,_,_,_,_,_,_,_,_,_,_] [_,_,_] rfl (by repeat' (first|exact trivial|refine And.intro ?_ ?_|exact bS|exact bX|exact bZ|exact bI|exact bC (π:=[]) (hs:=by first|exact hc _ _|fail)|fail)) ?_|fail)
      have hsp := dsift_spec hc (sw M a (a + k)) 0 k a cap oc (by rw [sw_length]; omega) (by rw [sw_length]; omega) (by omega) hst.1
      rw [sw_length, hl] at hsp
      refine oE [0] (hs := hsp) (hx := ?_)
      rintro N ⟨hN, hH⟩
      have hl2 := hN.len
      repeat' (first|refine IOps_nil ?_|refine oS ?_|refine IOps_s rfl rfl ?_|refine oT ?_|refine IOps_s0 rfl ?_|refine oC (π:=[]) (hs:=by first|exact hc _ _|fail) (hx:=?_)|refine oZ ?_|refine oI ?_|refine oAB ?_|refine thenI_n ?_|refine IWP_seq ?_|refine IWP_region ?_|refine IWP_ct rfl ?_|refine IWP_cf rfl ?_|refine IWP_skip ?_|refine IWP_ret ?_|refine IWP_block ?_|refine inB_n ?_|refine thenI_r ?_|refine thenI_e ?_|refine inB_r ?_|refine inB_hit ?_|refine inB_miss rfl ?_|refine IWP_exit ?_|refine IWP_scope ?_|refine IWP_label ?_|refine noG_n ?_|refine noG_r ?_|refine noG_e ?_|refine jmp_n ?_|refine jmp_r ?_|refine jmp_e ?_|refine jmp_g ?_|refine thenI_g ?_|refine inB_g ?_|refine IWP_goto ?_|refine Loop_n ?_|refine oD (id:=10) W74_10 [17, 19] O74_10 [_,_,_,_,_,_,_,_,_,_,_,_,_,_,_,_,_,_,_,_] [_,_,_] rfl (by repeat' (first|exact trivial|refine And.intro ?_ ?_|exact bS|exact bX|exact bZ|exact bI|exact bC (π:=[]) (hs:=by first|exact hc _ _|fail)|fail)) ?_|fail)
      exact ⟨(N, k), hst.2 N hN hH, by simp only; omega, lP [0]⟩
end
end Go.Proofs.Ytmgcoopmbohkoaa
