/-
  Sorting, at records of two cells.
-/
import Derived.Test.YtnlelckfhlcbgaaSorJ
import Derived.Test.YtnlelckfhlcbgaaSorH
namespace Go.Proofs.Ytnlelckfhlcbgaa
open Go Go.Idl
set_option linter.unusedSimpArgs false
set_option linter.unusedVariables false
set_option maxRecDepth 100000
set_option maxHeartbeats 1000000
attribute [local irreducible] Go.Idl.IWP Go.Idl.IOps Go.Idl.Obl Go.Idl.OpG Go.Idl.thenI Go.Idl.inBlockI Go.Idl.LoopU Go.Idl.noGotoI Go.Idl.jumpI
attribute [local go_sem] List.length_set
structure Du where
  id : Int
  due : Int
  deriving DecidableEq
instance : Inhabited Du := ⟨⟨0, 0⟩⟩
def duRc : Rc Du := ⟨fun x => [.sc (.int .i64 x.id), .sc (.int .i64 x.due)], 2, fun _ => rfl⟩
def dues (l : List Du) : List IV := fl duRc l
section
variable {l a b : List Du} {i n : Nat}
theorem dues_length : (dues l).length = l.length * 2 := fl_length duRc l
theorem dues_drop : (dues l).drop (n * 2) = dues (l.drop n) := fl_drop duRc l n
theorem dues_take : (dues l).take (n * 2) = dues (l.take n) := fl_take duRc l n
theorem dues_app : dues a ++ dues b = dues (a ++ b) := fl_app duRc a b
theorem dues_one {v0 : Int} {v1 : Int} : dues [⟨v0, v1⟩] = [.sc (.int .i64 v0), .sc (.int .i64 v1)] := rfl
theorem dues_nil : dues [] = [] := rfl
theorem dues_snoc {v0 : Int} {v1 : Int} : dues a ++ [.sc (.int .i64 v0), .sc (.int .i64 v1)] = dues (a ++ [⟨v0, v1⟩]) := fl_app duRc a [⟨v0, v1⟩]
theorem dues_part (h : i < l.length) : (dues (l.drop i)).take 2 = [.sc (.int .i64 (l.getD i default).id), .sc (.int .i64 (l.getD i default).due)] := by rw [← dues_drop]; exact fl_part duRc h
theorem dues_part0 (h : 0 < l.length) : (dues l).take 2 = [.sc (.int .i64 (l.getD 0 default).id), .sc (.int .i64 (l.getD 0 default).due)] := by have := dues_part h; rwa [List.drop_zero] at this
theorem dues_get0 (h : i < l.length) : (dues l).getD (i * 2) .any = .sc (.int .i64 (l.getD i default).id) := fl_get duRc (j := 0) h (by decide)
theorem dues_set0 (h : i < l.length) {v : Int} : (dues l).set (i * 2) (.sc (.int .i64 v)) = dues (l.set i ⟨v, (l.getD i default).due⟩) := fl_set duRc h (j := 0) (by decide) _ _ rfl
theorem dues_get1 (h : i < l.length) : (dues l).getD (i * 2 + 1) .any = .sc (.int .i64 (l.getD i default).due) := fl_get duRc (j := 1) h (by decide)
theorem dues_set1 (h : i < l.length) {v : Int} : (dues l).set (i * 2 + 1) (.sc (.int .i64 v)) = dues (l.set i ⟨(l.getD i default).id, v⟩) := fl_set duRc h (j := 1) (by decide) _ _ rfl
theorem dues_splice (h : i < l.length) {v0 : Int} {v1 : Int} : splice (dues l) (i * 2) [.sc (.int .i64 v0), .sc (.int .i64 v1)] = dues (l.set i ⟨v0, v1⟩) := fl_splice duRc h ⟨v0, v1⟩
theorem dues_zeros : zrep n [.sc (.int .i64 0), .sc (.int .i64 0)] = dues (List.replicate n default) := fl_zeros duRc default n (by decide)
theorem dues_closed : IV.closedL (dues l) = true := fl_closed duRc (fun _ => rfl) l
theorem dues_ones : IV.ones (dues l) = true := fl_ones duRc (fun _ => rfl) l
theorem dues_fresh : IV.freshL (dues l) = true := fl_fresh duRc (fun _ => rfl) l
theorem dues_relab : IV.relabL (dues l) = dues l := fl_relab duRc (fun _ => by simp [duRc, IV.relabL, IV.relab, IV.str]) l
theorem dues_ren {σ : Nat → Option Nat} : IV.renL σ (dues l) = dues l := fl_ren duRc (fun _ => by simp [duRc, IV.renL, IV.ren, IV.str]) l
end
attribute [go_sem] dues_length dues_drop dues_take dues_app dues_snoc dues_part dues_part0 dues_get0 dues_set0 dues_get1 dues_set1 dues_zeros dues_closed dues_ones dues_fresh dues_relab dues_ren
attribute [go_sem] dues_splice

/-! ### Sorting dues -/
def ditl (x : Du) (y : Du → Du → Int) (z : Du) : Bool := decide (y x z < 0)
section
variable {c : Du → Du → Int} {kc : FuncId} (hc : ∀ x y : Du, Idl.Spec Try.prog kc [.agg [.sc (.int .i64 x.id), .sc (.int .i64 x.due)], .agg [.sc (.int .i64 y.id), .sc (.int .i64 y.due)]] [] (Only (.i64 (c x y)) []))
include hc

theorem disort_spec (L : List Du) (a b cap : Nat) (oc : OrdL fun x y => decide (c x y < 0)) (hab : a ≤ b) (hb : b ≤ L.length) (hL : L.length ≤ 1000000000) :
    Idl.Spec Try.prog 79 [.sl 0 0 L.length cap 2, .i64 a, .i64 b, .fn (.func kc) [] []] [.arr false (dues L)]
      (Ex (fun M : List Du => PS a b L M ∧ SS (fun x y => decide (c x y < 0)) a b M) (fun _ => .tup []) (fun M => [.arr false (dues M)])) := by
  refine sE Try.func79 Try.ntmps79 ?_
  repeat' (first|refine IOps_nil ?_|refine oS ?_|refine IOps_s rfl rfl ?_|refine oT ?_|refine IOps_s0 rfl ?_|refine oZ ?_|refine oI ?_|refine thenI_n ?_|refine IWP_seq ?_|refine IWP_region ?_|refine IWP_ct rfl ?_|refine IWP_cf rfl ?_|refine IWP_skip ?_|refine IWP_ret ?_|refine IWP_block ?_|refine inB_n ?_|refine thenI_r ?_|refine thenI_e ?_|refine inB_r ?_|refine inB_hit ?_|refine inB_miss rfl ?_|refine IWP_exit ?_|refine IWP_scope ?_|refine IWP_label ?_|refine noG_n ?_|refine noG_r ?_|refine noG_e ?_|refine jmp_n ?_|refine jmp_r ?_|refine jmp_e ?_|refine jmp_g ?_|refine thenI_g ?_|refine inB_g ?_|refine IWP_goto ?_|refine Loop_n ?_|refine oD (id:=4) W79_4 [] O79_4 [_,_,_,_,_,_,_,_,_,_,_,_,_,_,_,_,_] [_] rfl (by repeat' (first|exact trivial|refine And.intro ?_ ?_|exact bS|exact bX|exact bZ|exact bI|fail)) ?_|refine oD (id:=6) W79_6 [15, 17] O79_6 [_,_,_,_,_,_,_,_,_,_,_,_,_,_,_,_,_,_] [_,_,_] rfl (by repeat' (first|exact trivial|refine And.intro ?_ ?_|exact bS|exact bX|exact bZ|exact bI|fail)) ?_|fail)
  refine IWP_loop (fun x : List Du × Nat => ⟨53, [(0, .sl 0 0 L.length cap 2), (1, .i64 a), (2, .i64 b), (3, .fn (.func kc) [] []), (8, .i64 x.2)], [.arr false (dues x.1)]⟩)
    (fun x => PS a b L x.1 ∧ SS (fun x y => decide (c x y < 0)) a x.2 x.1 ∧ a + 1 ≤ x.2 ∧ (x.2 ≤ b ∨ x.2 = a + 1)) (fun x => b - x.2) (L, a + 1) (lP [0]) ⟨.refl _ _ _, fun p q h1 h2 h3 => by omega, by simp, .inr rfl⟩ ?_
  rintro ⟨M, i⟩ ⟨hp, hs, hi1, hi2⟩
  have hl := hp.len
  simp only at hs hi1 hi2 hl ⊢
  by_cases hib : i < b
  · repeat' (first|refine IOps_nil ?_|refine oS ?_|refine IOps_s rfl rfl ?_|refine oT ?_|refine IOps_s0 rfl ?_|refine oZ ?_|refine oI ?_|refine thenI_n ?_|refine IWP_seq ?_|refine IWP_region ?_|refine IWP_ct rfl ?_|refine IWP_cf rfl ?_|refine IWP_skip ?_|refine IWP_ret ?_|refine IWP_block ?_|refine inB_n ?_|refine thenI_r ?_|refine thenI_e ?_|refine inB_r ?_|refine inB_hit ?_|refine inB_miss rfl ?_|refine IWP_exit ?_|refine IWP_scope ?_|refine IWP_label ?_|refine noG_n ?_|refine noG_r ?_|refine noG_e ?_|refine jmp_n ?_|refine jmp_r ?_|refine jmp_e ?_|refine jmp_g ?_|refine thenI_g ?_|refine inB_g ?_|refine IWP_goto ?_|refine Loop_n ?_|refine oD (id:=4) W79_4 [] O79_4 [_,_,_,_,_,_,_,_,_,_,_,_,_,_,_,_,_] [_] rfl (by repeat' (first|exact trivial|refine And.intro ?_ ?_|exact bS|exact bX|exact bZ|exact bI|fail)) ?_|refine oD (id:=6) W79_6 [15, 17] O79_6 [_,_,_,_,_,_,_,_,_,_,_,_,_,_,_,_,_,_] [_,_,_] rfl (by repeat' (first|exact trivial|refine And.intro ?_ ?_|exact bS|exact bX|exact bZ|exact bI|fail)) ?_|fail)
    refine IWP_loop (fun x : List Du × Nat => ⟨53, [(0, .sl 0 0 L.length cap 2), (1, .i64 a), (2, .i64 b), (3, .fn (.func kc) [] []), (8, .i64 i), (9, .i64 x.2)], [.arr false (dues x.1)]⟩)
      (fun x => PS a b L x.1 ∧ InsI (fun x y => decide (c x y < 0)) a i x.2 x.1 ∧ a ≤ x.2 ∧ x.2 ≤ i) (fun x => x.2) (M, i) (lP [0]) ⟨hp, InsI.start hs, by omega, Nat.le_refl _⟩ ?_
    rintro ⟨N, j⟩ ⟨hp, hs, hj1, hj2⟩
    have hl := hp.len
    simp only at hs hj1 hj2 hl ⊢
    replace hp : PS a b L N := hp
    by_cases hja : a < j
    · by_cases hlt : c (gd N j) (gd N (j - 1)) < 0
      · repeat' (first|refine IOps_nil ?_|refine oS ?_|refine IOps_s rfl rfl ?_|refine oT ?_|refine IOps_s0 rfl ?_|refine oC (π:=[]) (hs:=by first|exact hc _ _|fail) (hx:=?_)|refine oZ ?_|refine oI ?_|refine thenI_n ?_|refine IWP_seq ?_|refine IWP_region ?_|refine IWP_ct rfl ?_|refine IWP_cf rfl ?_|refine IWP_skip ?_|refine IWP_ret ?_|refine IWP_block ?_|refine inB_n ?_|refine thenI_r ?_|refine thenI_e ?_|refine inB_r ?_|refine inB_hit ?_|refine inB_miss rfl ?_|refine IWP_exit ?_|refine IWP_scope ?_|refine IWP_label ?_|refine noG_n ?_|refine noG_r ?_|refine noG_e ?_|refine jmp_n ?_|refine jmp_r ?_|refine jmp_e ?_|refine jmp_g ?_|refine thenI_g ?_|refine inB_g ?_|refine IWP_goto ?_|refine Loop_n ?_|refine oD (id:=4) W79_4 [] O79_4 [_,_,_,_,_,_,_,_,_,_,_,_,_,_,_,_,_] [_] rfl (by repeat' (first|exact trivial|refine And.intro ?_ ?_|exact bS|exact bX|exact bZ|exact bI|exact bC (π:=[]) (hs:=by first|exact hc _ _|fail)|fail)) ?_|refine oD (id:=6) W79_6 [15, 17] O79_6 [_,_,_,_,_,_,_,_,_,_,_,_,_,_,_,_,_,_] [_,_,_] rfl (by repeat' (first|exact trivial|refine And.intro ?_ ?_|exact bS|exact bX|exact bZ|exact bI|exact bC (π:=[]) (hs:=by first|exact hc _ _|fail)|fail)) ?_|fail)
        refine ⟨(sw N j (j - 1), j - 1), ⟨hp.trans (.sw (by omega) (by omega) (by omega) (by omega) (by omega)), InsI.step oc hs hja hj2 (by omega) (decide_eq_true hlt), by omega, by omega⟩, by simp only; omega, lP [0]⟩
      · repeat' (first|refine IOps_nil ?_|refine oS ?_|refine IOps_s rfl rfl ?_|refine oT ?_|refine IOps_s0 rfl ?_|refine oC (π:=[]) (hs:=by first|exact hc _ _|fail) (hx:=?_)|refine oZ ?_|refine oI ?_|refine thenI_n ?_|refine IWP_seq ?_|refine IWP_region ?_|refine IWP_ct rfl ?_|refine IWP_cf rfl ?_|refine IWP_skip ?_|refine IWP_ret ?_|refine IWP_block ?_|refine inB_n ?_|refine thenI_r ?_|refine thenI_e ?_|refine inB_r ?_|refine inB_hit ?_|refine inB_miss rfl ?_|refine IWP_exit ?_|refine IWP_scope ?_|refine IWP_label ?_|refine noG_n ?_|refine noG_r ?_|refine noG_e ?_|refine jmp_n ?_|refine jmp_r ?_|refine jmp_e ?_|refine jmp_g ?_|refine thenI_g ?_|refine inB_g ?_|refine IWP_goto ?_|refine Loop_n ?_|refine oD (id:=4) W79_4 [] O79_4 [_,_,_,_,_,_,_,_,_,_,_,_,_,_,_,_,_] [_] rfl (by repeat' (first|exact trivial|refine And.intro ?_ ?_|exact bS|exact bX|exact bZ|exact bI|exact bC (π:=[]) (hs:=by first|exact hc _ _|fail)|fail)) ?_|refine oD (id:=6) W79_6 [15, 17] O79_6 [_,_,_,_,_,_,_,_,_,_,_,_,_,_,_,_,_,_] [_,_,_] rfl (by repeat' (first|exact trivial|refine And.intro ?_ ?_|exact bS|exact bX|exact bZ|exact bI|exact bC (π:=[]) (hs:=by first|exact hc _ _|fail)|fail)) ?_|fail)
        exact ⟨(N, i + 1), ⟨hp, InsI.fits oc hs hja (decide_eq_false hlt), by omega, .inl (by omega)⟩, by simp only; omega, lP [0]⟩
    · obtain rfl : j = a := by omega
      repeat' (first|refine IOps_nil ?_|refine oS ?_|refine IOps_s rfl rfl ?_|refine oT ?_|refine IOps_s0 rfl ?_|refine oC (π:=[]) (hs:=by first|exact hc _ _|fail) (hx:=?_)|refine oZ ?_|refine oI ?_|refine thenI_n ?_|refine IWP_seq ?_|refine IWP_region ?_|refine IWP_ct rfl ?_|refine IWP_cf rfl ?_|refine IWP_skip ?_|refine IWP_ret ?_|refine IWP_block ?_|refine inB_n ?_|refine thenI_r ?_|refine thenI_e ?_|refine inB_r ?_|refine inB_hit ?_|refine inB_miss rfl ?_|refine IWP_exit ?_|refine IWP_scope ?_|refine IWP_label ?_|refine noG_n ?_|refine noG_r ?_|refine noG_e ?_|refine jmp_n ?_|refine jmp_r ?_|refine jmp_e ?_|refine jmp_g ?_|refine thenI_g ?_|refine inB_g ?_|refine IWP_goto ?_|refine Loop_n ?_|refine oD (id:=4) W79_4 [] O79_4 [_,_,_,_,_,_,_,_,_,_,_,_,_,_,_,_,_] [_] rfl (by repeat' (first|exact trivial|refine And.intro ?_ ?_|exact bS|exact bX|exact bZ|exact bI|exact bC (π:=[]) (hs:=by first|exact hc _ _|fail)|fail)) ?_|refine oD (id:=6) W79_6 [15, 17] O79_6 [_,_,_,_,_,_,_,_,_,_,_,_,_,_,_,_,_,_] [_,_,_] rfl (by repeat' (first|exact trivial|refine And.intro ?_ ?_|exact bS|exact bX|exact bZ|exact bI|exact bC (π:=[]) (hs:=by first|exact hc _ _|fail)|fail)) ?_|fail)
      exact ⟨(N, i + 1), ⟨hp, InsI.stop hs, by omega, .inl (by omega)⟩, by simp only; omega, lP [0]⟩
  · repeat' (first|refine IOps_nil ?_|refine oS ?_|refine IOps_s rfl rfl ?_|refine oT ?_|refine IOps_s0 rfl ?_|refine oC (π:=[]) (hs:=by first|exact hc _ _|fail) (hx:=?_)|refine oZ ?_|refine oI ?_|refine thenI_n ?_|refine IWP_seq ?_|refine IWP_region ?_|refine IWP_ct rfl ?_|refine IWP_cf rfl ?_|refine IWP_skip ?_|refine IWP_ret ?_|refine IWP_block ?_|refine inB_n ?_|refine thenI_r ?_|refine thenI_e ?_|refine inB_r ?_|refine inB_hit ?_|refine inB_miss rfl ?_|refine IWP_exit ?_|refine IWP_scope ?_|refine IWP_label ?_|refine noG_n ?_|refine noG_r ?_|refine noG_e ?_|refine jmp_n ?_|refine jmp_r ?_|refine jmp_e ?_|refine jmp_g ?_|refine thenI_g ?_|refine inB_g ?_|refine IWP_goto ?_|refine Loop_n ?_|refine oD (id:=4) W79_4 [] O79_4 [_,_,_,_,_,_,_,_,_,_,_,_,_,_,_,_,_] [_] rfl (by repeat' (first|exact trivial|refine And.intro ?_ ?_|exact bS|exact bX|exact bZ|exact bI|exact bC (π:=[]) (hs:=by first|exact hc _ _|fail)|fail)) ?_|refine oD (id:=6) W79_6 [15, 17] O79_6 [_,_,_,_,_,_,_,_,_,_,_,_,_,_,_,_,_,_] [_,_,_] rfl (by repeat' (first|exact trivial|refine And.intro ?_ ?_|exact bS|exact bX|exact bZ|exact bI|exact bC (π:=[]) (hs:=by first|exact hc _ _|fail)|fail)) ?_|fail)
    exact pX [0] M ⟨hp, fun p q h1 h2 h3 => hs p q h1 h2 (by omega)⟩ rfl

end
end Go.Proofs.Ytnlelckfhlcbgaa

namespace Go.Proofs.Ytnlelckfhlcbgaa
open Go Go.Idl
set_option linter.unusedSimpArgs false
set_option linter.unusedVariables false
set_option linter.unusedSectionVars false
set_option maxRecDepth 100000
set_option maxHeartbeats 1000000
attribute [local irreducible] Go.Idl.IWP Go.Idl.IOps Go.Idl.Obl Go.Idl.OpG Go.Idl.thenI Go.Idl.inBlockI Go.Idl.LoopU Go.Idl.noGotoI Go.Idl.jumpI
attribute [local go_sem] List.length_set
theorem dtn_x1 (r : Nat) : (2 : Int) * r + 1 = ((2 * r + 1 : Nat) : Int) := by omega
theorem dtn_x2 (f k : Nat) : ((f : Int) + ((k : Int) + 1)).toNat = f + (k + 1) := by omega
theorem dtn_x3 (a b : Nat) : ((a : Int) + (b : Int) + 1).toNat = a + b + 1 := by omega
attribute [local go_sem] dtn_x1 dtn_x2 dtn_x3
section
variable {c : Du → Du → Int} {kc : FuncId} (hc : ∀ x y : Du, Idl.Spec Try.prog kc [.agg [.sc (.int .i64 x.id), .sc (.int .i64 x.due)], .agg [.sc (.int .i64 y.id), .sc (.int .i64 y.due)]] [] (Only (.i64 (c x y)) []))
include hc
theorem dsift_spec (L : List Du) (lo hi f cap : Nat) (oc : OrdL fun x y => decide (c x y < 0)) (hf : f + hi ≤ L.length) (hL : L.length ≤ 1000000000) (hlo : lo ≤ 1000000000) (hH : HP (fun x y => decide (c x y < 0)) f (lo + 1) hi L) :
    Idl.Spec Try.prog 92 [.sl 0 0 L.length cap 2, .i64 lo, .i64 hi, .i64 f, .fn (.func kc) [] []] [.arr false (dues L)]
      (Ex (fun M : List Du => PS f (f + hi) L M ∧ HP (fun x y => decide (c x y < 0)) f lo hi M) (fun _ => .tup []) (fun M => [.arr false (dues M)])) := by
  refine sE Try.func92 Try.ntmps92 ?_
  repeat' (first|refine IOps_nil ?_|refine oS ?_|refine IOps_s rfl rfl ?_|refine oT ?_|refine IOps_s0 rfl ?_|refine oC (π:=[]) (hs:=by first|exact hc _ _|fail) (hx:=?_)|refine oZ ?_|refine oI ?_|refine thenI_n ?_|refine IWP_seq ?_|refine IWP_region ?_|refine IWP_ct rfl ?_|refine IWP_cf rfl ?_|refine IWP_skip ?_|refine IWP_ret ?_|refine IWP_block ?_|refine inB_n ?_|refine thenI_r ?_|refine thenI_e ?_|refine inB_r ?_|refine inB_hit ?_|refine inB_miss rfl ?_|refine IWP_exit ?_|refine IWP_scope ?_|refine IWP_label ?_|refine noG_n ?_|refine noG_r ?_|refine noG_e ?_|refine jmp_n ?_|refine jmp_r ?_|refine jmp_e ?_|refine jmp_g ?_|refine thenI_g ?_|refine inB_g ?_|refine IWP_goto ?_|refine Loop_n ?_|refine oD (id:=3) W92_3 [] O92_3 [_,_,_,_,_,_,_,_,_,_,_,_,_,_,_,_,_,_,_,_,_,_] [_] rfl (by repeat' (first|exact trivial|refine And.intro ?_ ?_|exact bS|exact bX|exact bZ|exact bI|exact bC (π:=[]) (hs:=by first|exact hc _ _|fail)|fail)) ?_|refine oD (id:=5) W92_5 [] O92_5 [_,_,_,_,_,_,_,_,_,_,_,_,_,_,_,_] [_] rfl (by repeat' (first|exact trivial|refine And.intro ?_ ?_|exact bS|exact bX|exact bZ|exact bI|exact bC (π:=[]) (hs:=by first|exact hc _ _|fail)|fail)) ?_|refine oD (id:=6) W92_6 [21, 23] O92_6 [_,_,_,_,_,_,_,_,_,_,_,_,_,_,_,_,_,_,_,_,_,_,_,_] [_,_,_] rfl (by repeat' (first|exact trivial|refine And.intro ?_ ?_|exact bS|exact bX|exact bZ|exact bI|exact bC (π:=[]) (hs:=by first|exact hc _ _|fail)|fail)) ?_|fail)
  refine IWP_loop (fun x : List Du × Nat => ⟨82, [(0, .sl 0 0 L.length cap 2), (1, .i64 lo), (2, .i64 hi), (3, .i64 f), (4, .fn (.func kc) [] []), (10, .i64 x.2)], [.arr false (dues x.1)]⟩)
    (fun x => PS f (f + hi) L x.1 ∧ Dn (fun x y => decide (c x y < 0)) f lo hi x.2 x.1 ∧ lo ≤ x.2 ∧ (x.2 < hi ∨ x.2 = lo)) (fun x => hi - x.2) (L, lo) (lP [0]) ⟨.refl _ _ _, Dn.start hH, Nat.le_refl _, .inr rfl⟩ ?_
  rintro ⟨M, r⟩ ⟨hp, hs, hr, hr2⟩
  replace hp : PS f (f + hi) L M := hp
  have hl := hp.len
  simp only at hs hr hr2 ⊢
  by_cases h1 : 2 * r + 1 < hi
  · have e1 : f + (2 * r + 1) < M.length := by omega
    by_cases h2 : 2 * r + 2 < hi
    · by_cases h3 : c (gd M (f + (2 * r + 1))) (gd M (f + (2 * r + 1) + 1)) < 0
      · by_cases h4 : c (gd M (f + r)) (gd M (f + (2 * r + 1 + 1))) < 0
        · repeat' (first|refine IOps_nil ?_|refine oS ?_|refine IOps_s rfl rfl ?_|refine oT ?_|refine IOps_s0 rfl ?_|refine oC (π:=[]) (hs:=by first|exact hc _ _|fail) (hx:=?_)|refine oZ ?_|refine oI ?_|refine thenI_n ?_|refine IWP_seq ?_|refine IWP_region ?_|refine IWP_ct rfl ?_|refine IWP_cf rfl ?_|refine IWP_skip ?_|refine IWP_ret ?_|refine IWP_block ?_|refine inB_n ?_|refine thenI_r ?_|refine thenI_e ?_|refine inB_r ?_|refine inB_hit ?_|refine inB_miss rfl ?_|refine IWP_exit ?_|refine IWP_scope ?_|refine IWP_label ?_|refine noG_n ?_|refine noG_r ?_|refine noG_e ?_|refine jmp_n ?_|refine jmp_r ?_|refine jmp_e ?_|refine jmp_g ?_|refine thenI_g ?_|refine inB_g ?_|refine IWP_goto ?_|refine Loop_n ?_|refine oD (id:=3) W92_3 [] O92_3 [_,_,_,_,_,_,_,_,_,_,_,_,_,_,_,_,_,_,_,_,_,_] [_] rfl (by repeat' (first|exact trivial|refine And.intro ?_ ?_|exact bS|exact bX|exact bZ|exact bI|exact bC (π:=[]) (hs:=by first|exact hc _ _|fail)|fail)) ?_|refine oD (id:=5) W92_5 [] O92_5 [_,_,_,_,_,_,_,_,_,_,_,_,_,_,_,_] [_] rfl (by repeat' (first|exact trivial|refine And.intro ?_ ?_|exact bS|exact bX|exact bZ|exact bI|exact bC (π:=[]) (hs:=by first|exact hc _ _|fail)|fail)) ?_|refine oD (id:=6) W92_6 [21, 23] O92_6 [_,_,_,_,_,_,_,_,_,_,_,_,_,_,_,_,_,_,_,_,_,_,_,_] [_,_,_] rfl (by repeat' (first|exact trivial|refine And.intro ?_ ?_|exact bS|exact bX|exact bZ|exact bI|exact bC (π:=[]) (hs:=by first|exact hc _ _|fail)|fail)) ?_|fail)
          refine ⟨(sw M (f + r) (f + (2 * r + 2)), 2 * r + 2), ⟨hp.trans (.sw (by omega) (by omega) (by omega) (by omega) (by omega)), Dn.step oc hs hr (.inr rfl) h2 (by omega) (decide_eq_true h4) (fun d hd hd2 => ?_), by omega, .inl h2⟩, by simp only; omega, lP [0]⟩
          rcases hd with rfl | rfl
          · exact oc.asym _ _ (decide_eq_true h3)
          · exact oc.irr _
        · repeat' (first|refine IOps_nil ?_|refine oS ?_|refine IOps_s rfl rfl ?_|refine oT ?_|refine IOps_s0 rfl ?_|refine oC (π:=[]) (hs:=by first|exact hc _ _|fail) (hx:=?_)|refine oZ ?_|refine oI ?_|refine thenI_n ?_|refine IWP_seq ?_|refine IWP_region ?_|refine IWP_ct rfl ?_|refine IWP_cf rfl ?_|refine IWP_skip ?_|refine IWP_ret ?_|refine IWP_block ?_|refine inB_n ?_|refine thenI_r ?_|refine thenI_e ?_|refine inB_r ?_|refine inB_hit ?_|refine inB_miss rfl ?_|refine IWP_exit ?_|refine IWP_scope ?_|refine IWP_label ?_|refine noG_n ?_|refine noG_r ?_|refine noG_e ?_|refine jmp_n ?_|refine jmp_r ?_|refine jmp_e ?_|refine jmp_g ?_|refine thenI_g ?_|refine inB_g ?_|refine IWP_goto ?_|refine Loop_n ?_|refine oD (id:=3) W92_3 [] O92_3 [_,_,_,_,_,_,_,_,_,_,_,_,_,_,_,_,_,_,_,_,_,_] [_] rfl (by repeat' (first|exact trivial|refine And.intro ?_ ?_|exact bS|exact bX|exact bZ|exact bI|exact bC (π:=[]) (hs:=by first|exact hc _ _|fail)|fail)) ?_|refine oD (id:=5) W92_5 [] O92_5 [_,_,_,_,_,_,_,_,_,_,_,_,_,_,_,_] [_] rfl (by repeat' (first|exact trivial|refine And.intro ?_ ?_|exact bS|exact bX|exact bZ|exact bI|exact bC (π:=[]) (hs:=by first|exact hc _ _|fail)|fail)) ?_|refine oD (id:=6) W92_6 [21, 23] O92_6 [_,_,_,_,_,_,_,_,_,_,_,_,_,_,_,_,_,_,_,_,_,_,_,_] [_,_,_] rfl (by repeat' (first|exact trivial|refine And.intro ?_ ?_|exact bS|exact bX|exact bZ|exact bI|exact bC (π:=[]) (hs:=by first|exact hc _ _|fail)|fail)) ?_|fail)
          exact pX [0] M ⟨hp, Dn.stop hs (oc.trans _ _ _ (decide_eq_false h4) (oc.asym _ _ (decide_eq_true h3))) (fun _ => decide_eq_false h4)⟩ rfl
      · by_cases h4 : c (gd M (f + r)) (gd M (f + (2 * r + 1))) < 0
        · repeat' (first|refine IOps_nil ?_|refine oS ?_|refine IOps_s rfl rfl ?_|refine oT ?_|refine IOps_s0 rfl ?_|refine oC (π:=[]) (hs:=by first|exact hc _ _|fail) (hx:=?_)|refine oZ ?_|refine oI ?_|refine thenI_n ?_|refine IWP_seq ?_|refine IWP_region ?_|refine IWP_ct rfl ?_|refine IWP_cf rfl ?_|refine IWP_skip ?_|refine IWP_ret ?_|refine IWP_block ?_|refine inB_n ?_|refine thenI_r ?_|refine thenI_e ?_|refine inB_r ?_|refine inB_hit ?_|refine inB_miss rfl ?_|refine IWP_exit ?_|refine IWP_scope ?_|refine IWP_label ?_|refine noG_n ?_|refine noG_r ?_|refine noG_e ?_|refine jmp_n ?_|refine jmp_r ?_|refine jmp_e ?_|refine jmp_g ?_|refine thenI_g ?_|refine inB_g ?_|refine IWP_goto ?_|refine Loop_n ?_|refine oD (id:=3) W92_3 [] O92_3 [_,_,_,_,_,_,_,_,_,_,_,_,_,_,_,_,_,_,_,_,_,_] [_] rfl (by repeat' (first|exact trivial|refine And.intro ?_ ?_|exact bS|exact bX|exact bZ|exact bI|exact bC (π:=[]) (hs:=by first|exact hc _ _|fail)|fail)) ?_|refine oD (id:=5) W92_5 [] O92_5 [_,_,_,_,_,_,_,_,_,_,_,_,_,_,_,_] [_] rfl (by repeat' (first|exact trivial|refine And.intro ?_ ?_|exact bS|exact bX|exact bZ|exact bI|exact bC (π:=[]) (hs:=by first|exact hc _ _|fail)|fail)) ?_|refine oD (id:=6) W92_6 [21, 23] O92_6 [_,_,_,_,_,_,_,_,_,_,_,_,_,_,_,_,_,_,_,_,_,_,_,_] [_,_,_] rfl (by repeat' (first|exact trivial|refine And.intro ?_ ?_|exact bS|exact bX|exact bZ|exact bI|exact bC (π:=[]) (hs:=by first|exact hc _ _|fail)|fail)) ?_|fail)
          refine ⟨(sw M (f + r) (f + (2 * r + 1)), 2 * r + 1), ⟨hp.trans (.sw (by omega) (by omega) (by omega) (by omega) (by omega)), Dn.step oc hs hr (.inl rfl) h1 (by omega) (decide_eq_true h4) (fun d hd hd2 => ?_), by omega, .inl h1⟩, by simp only; omega, lP [0]⟩
          rcases hd with rfl | rfl
          · exact oc.irr _
          · exact decide_eq_false h3
        · repeat' (first|refine IOps_nil ?_|refine oS ?_|refine IOps_s rfl rfl ?_|refine oT ?_|refine IOps_s0 rfl ?_|refine oC (π:=[]) (hs:=by first|exact hc _ _|fail) (hx:=?_)|refine oZ ?_|refine oI ?_|refine thenI_n ?_|refine IWP_seq ?_|refine IWP_region ?_|refine IWP_ct rfl ?_|refine IWP_cf rfl ?_|refine IWP_skip ?_|refine IWP_ret ?_|refine IWP_block ?_|refine inB_n ?_|refine thenI_r ?_|refine thenI_e ?_|refine inB_r ?_|refine inB_hit ?_|refine inB_miss rfl ?_|refine IWP_exit ?_|refine IWP_scope ?_|refine IWP_label ?_|refine noG_n ?_|refine noG_r ?_|refine noG_e ?_|refine jmp_n ?_|refine jmp_r ?_|refine jmp_e ?_|refine jmp_g ?_|refine thenI_g ?_|refine inB_g ?_|refine IWP_goto ?_|refine Loop_n ?_|refine oD (id:=3) W92_3 [] O92_3 [_,_,_,_,_,_,_,_,_,_,_,_,_,_,_,_,_,_,_,_,_,_] [_] rfl (by repeat' (first|exact trivial|refine And.intro ?_ ?_|exact bS|exact bX|exact bZ|exact bI|exact bC (π:=[]) (hs:=by first|exact hc _ _|fail)|fail)) ?_|refine oD (id:=5) W92_5 [] O92_5 [_,_,_,_,_,_,_,_,_,_,_,_,_,_,_,_] [_] rfl (by repeat' (first|exact trivial|refine And.intro ?_ ?_|exact bS|exact bX|exact bZ|exact bI|exact bC (π:=[]) (hs:=by first|exact hc _ _|fail)|fail)) ?_|refine oD (id:=6) W92_6 [21, 23] O92_6 [_,_,_,_,_,_,_,_,_,_,_,_,_,_,_,_,_,_,_,_,_,_,_,_] [_,_,_] rfl (by repeat' (first|exact trivial|refine And.intro ?_ ?_|exact bS|exact bX|exact bZ|exact bI|exact bC (π:=[]) (hs:=by first|exact hc _ _|fail)|fail)) ?_|fail)
          exact pX [0] M ⟨hp, Dn.stop hs (decide_eq_false h4) (fun _ => oc.trans _ _ _ (decide_eq_false h4) (decide_eq_false h3))⟩ rfl
    · by_cases h4 : c (gd M (f + r)) (gd M (f + (2 * r + 1))) < 0
      · repeat' (first|refine IOps_nil ?_|refine oS ?_|refine IOps_s rfl rfl ?_|refine oT ?_|refine IOps_s0 rfl ?_|refine oC (π:=[]) (hs:=by first|exact hc _ _|fail) (hx:=?_)|refine oZ ?_|refine oI ?_|refine thenI_n ?_|refine IWP_seq ?_|refine IWP_region ?_|refine IWP_ct rfl ?_|refine IWP_cf rfl ?_|refine IWP_skip ?_|refine IWP_ret ?_|refine IWP_block ?_|refine inB_n ?_|refine thenI_r ?_|refine thenI_e ?_|refine inB_r ?_|refine inB_hit ?_|refine inB_miss rfl ?_|refine IWP_exit ?_|refine IWP_scope ?_|refine IWP_label ?_|refine noG_n ?_|refine noG_r ?_|refine noG_e ?_|refine jmp_n ?_|refine jmp_r ?_|refine jmp_e ?_|refine jmp_g ?_|refine thenI_g ?_|refine inB_g ?_|refine IWP_goto ?_|refine Loop_n ?_|refine oD (id:=3) W92_3 [] O92_3 [_,_,_,_,_,_,_,_,_,_,_,_,_,_,_,_,_,_,_,_,_,_] [_] rfl (by repeat' (first|exact trivial|refine And.intro ?_ ?_|exact bS|exact bX|exact bZ|exact bI|exact bC (π:=[]) (hs:=by first|exact hc _ _|fail)|fail)) ?_|refine oD (id:=5) W92_5 [] O92_5 [_,_,_,_,_,_,_,_,_,_,_,_,_,_,_,_] [_] rfl (by repeat' (first|exact trivial|refine And.intro ?_ ?_|exact bS|exact bX|exact bZ|exact bI|exact bC (π:=[]) (hs:=by first|exact hc _ _|fail)|fail)) ?_|refine oD (id:=6) W92_6 [21, 23] O92_6 [_,_,_,_,_,_,_,_,_,_,_,_,_,_,_,_,_,_,_,_,_,_,_,_] [_,_,_] rfl (by repeat' (first|exact trivial|refine And.intro ?_ ?_|exact bS|exact bX|exact bZ|exact bI|exact bC (π:=[]) (hs:=by first|exact hc _ _|fail)|fail)) ?_|fail)
        refine ⟨(sw M (f + r) (f + (2 * r + 1)), 2 * r + 1), ⟨hp.trans (.sw (by omega) (by omega) (by omega) (by omega) (by omega)), Dn.step oc hs hr (.inl rfl) h1 (by omega) (decide_eq_true h4) (fun d hd hd2 => ?_), by omega, .inl h1⟩, by simp only; omega, lP [0]⟩
        rcases hd with rfl | rfl
        · exact oc.irr _
        · omega
      · repeat' (first|refine IOps_nil ?_|refine oS ?_|refine IOps_s rfl rfl ?_|refine oT ?_|refine IOps_s0 rfl ?_|refine oC (π:=[]) (hs:=by first|exact hc _ _|fail) (hx:=?_)|refine oZ ?_|refine oI ?_|refine thenI_n ?_|refine IWP_seq ?_|refine IWP_region ?_|refine IWP_ct rfl ?_|refine IWP_cf rfl ?_|refine IWP_skip ?_|refine IWP_ret ?_|refine IWP_block ?_|refine inB_n ?_|refine thenI_r ?_|refine thenI_e ?_|refine inB_r ?_|refine inB_hit ?_|refine inB_miss rfl ?_|refine IWP_exit ?_|refine IWP_scope ?_|refine IWP_label ?_|refine noG_n ?_|refine noG_r ?_|refine noG_e ?_|refine jmp_n ?_|refine jmp_r ?_|refine jmp_e ?_|refine jmp_g ?_|refine thenI_g ?_|refine inB_g ?_|refine IWP_goto ?_|refine Loop_n ?_|refine oD (id:=3) W92_3 [] O92_3 [_,_,_,_,_,_,_,_,_,_,_,_,_,_,_,_,_,_,_,_,_,_] [_] rfl (by repeat' (first|exact trivial|refine And.intro ?_ ?_|exact bS|exact bX|exact bZ|exact bI|exact bC (π:=[]) (hs:=by first|exact hc _ _|fail)|fail)) ?_|refine oD (id:=5) W92_5 [] O92_5 [_,_,_,_,_,_,_,_,_,_,_,_,_,_,_,_] [_] rfl (by repeat' (first|exact trivial|refine And.intro ?_ ?_|exact bS|exact bX|exact bZ|exact bI|exact bC (π:=[]) (hs:=by first|exact hc _ _|fail)|fail)) ?_|refine oD (id:=6) W92_6 [21, 23] O92_6 [_,_,_,_,_,_,_,_,_,_,_,_,_,_,_,_,_,_,_,_,_,_,_,_] [_,_,_] rfl (by repeat' (first|exact trivial|refine And.intro ?_ ?_|exact bS|exact bX|exact bZ|exact bI|exact bC (π:=[]) (hs:=by first|exact hc _ _|fail)|fail)) ?_|fail)
        exact pX [0] M ⟨hp, Dn.stop hs (decide_eq_false h4) (fun _ => by omega)⟩ rfl
  · repeat' (first|refine IOps_nil ?_|refine oS ?_|refine IOps_s rfl rfl ?_|refine oT ?_|refine IOps_s0 rfl ?_|refine oC (π:=[]) (hs:=by first|exact hc _ _|fail) (hx:=?_)|refine oZ ?_|refine oI ?_|refine thenI_n ?_|refine IWP_seq ?_|refine IWP_region ?_|refine IWP_ct rfl ?_|refine IWP_cf rfl ?_|refine IWP_skip ?_|refine IWP_ret ?_|refine IWP_block ?_|refine inB_n ?_|refine thenI_r ?_|refine thenI_e ?_|refine inB_r ?_|refine inB_hit ?_|refine inB_miss rfl ?_|refine IWP_exit ?_|refine IWP_scope ?_|refine IWP_label ?_|refine noG_n ?_|refine noG_r ?_|refine noG_e ?_|refine jmp_n ?_|refine jmp_r ?_|refine jmp_e ?_|refine jmp_g ?_|refine thenI_g ?_|refine inB_g ?_|refine IWP_goto ?_|refine Loop_n ?_|refine oD (id:=3) W92_3 [] O92_3 [_,_,_,_,_,_,_,_,_,_,_,_,_,_,_,_,_,_,_,_,_,_] [_] rfl (by repeat' (first|exact trivial|refine And.intro ?_ ?_|exact bS|exact bX|exact bZ|exact bI|exact bC (π:=[]) (hs:=by first|exact hc _ _|fail)|fail)) ?_|refine oD (id:=5) W92_5 [] O92_5 [_,_,_,_,_,_,_,_,_,_,_,_,_,_,_,_] [_] rfl (by repeat' (first|exact trivial|refine And.intro ?_ ?_|exact bS|exact bX|exact bZ|exact bI|exact bC (π:=[]) (hs:=by first|exact hc _ _|fail)|fail)) ?_|refine oD (id:=6) W92_6 [21, 23] O92_6 [_,_,_,_,_,_,_,_,_,_,_,_,_,_,_,_,_,_,_,_,_,_,_,_] [_,_,_] rfl (by repeat' (first|exact trivial|refine And.intro ?_ ?_|exact bS|exact bX|exact bZ|exact bI|exact bC (π:=[]) (hs:=by first|exact hc _ _|fail)|fail)) ?_|fail)
    exact pX [0] M ⟨hp, Dn.leaf hs (by omega)⟩ rfl

theorem drev_spec (L : List Du) (a b cap : Nat) (hab : a ≤ b) (hb : b ≤ L.length) (hL : L.length ≤ 1000000000) :
    Idl.Spec Try.prog 83 [.sl 0 0 L.length cap 2, .i64 a, .i64 b, .fn (.func kc) [] []] [.arr false (dues L)]
      (Ex (fun M : List Du => PS a b L M) (fun _ => .tup []) (fun M => [.arr false (dues M)])) := by
  refine sE Try.func83 Try.ntmps83 ?_
  repeat' (first|refine IOps_nil ?_|refine oS ?_|refine IOps_s rfl rfl ?_|refine oT ?_|refine IOps_s0 rfl ?_|refine oC (π:=[]) (hs:=by first|exact hc _ _|fail) (hx:=?_)|refine oZ ?_|refine oI ?_|refine thenI_n ?_|refine IWP_seq ?_|refine IWP_region ?_|refine IWP_ct rfl ?_|refine IWP_cf rfl ?_|refine IWP_skip ?_|refine IWP_ret ?_|refine IWP_block ?_|refine inB_n ?_|refine thenI_r ?_|refine thenI_e ?_|refine inB_r ?_|refine inB_hit ?_|refine inB_miss rfl ?_|refine IWP_exit ?_|refine IWP_scope ?_|refine IWP_label ?_|refine noG_n ?_|refine noG_r ?_|refine noG_e ?_|refine jmp_n ?_|refine jmp_r ?_|refine jmp_e ?_|refine jmp_g ?_|refine thenI_g ?_|refine inB_g ?_|refine IWP_goto ?_|refine Loop_n ?_|refine oD (id:=3) W83_3 [13, 15] O83_3 [_,_,_,_,_,_,_,_,_,_,_,_,_,_,_,_] [_,_,_] rfl (by repeat' (first|exact trivial|refine And.intro ?_ ?_|exact bS|exact bX|exact bZ|exact bI|exact bC (π:=[]) (hs:=by first|exact hc _ _|fail)|fail)) ?_|fail)
  refine IWP_loop (fun x : List Du × Nat => ⟨34, [(0, .sl 0 0 L.length cap 2), (8, .i64 ((a : Int) + x.2)), (9, .i64 ((b : Int) - 1 - x.2))], [.arr false (dues x.1)]⟩)
    (fun x => PS a b L x.1 ∧ x.2 ≤ b) (fun x => b - x.2) (L, 0) (lP [0]) ⟨.refl _ _ _, Nat.zero_le _⟩ ?_
  rintro ⟨M, t⟩ ⟨hp, ht⟩
  replace hp : PS a b L M := hp
  have hl := hp.len
  simp only at ht ⊢
  by_cases h1 : a + t + 1 + t < b
  · obtain ⟨u, hu⟩ : ∃ u : Nat, (b : Int) - 1 - t = u := ⟨b - 1 - t, by omega⟩
    rw [hu]
    repeat' (first|refine IOps_nil ?_|refine oS ?_|refine IOps_s rfl rfl ?_|refine oT ?_|refine IOps_s0 rfl ?_|refine oC (π:=[]) (hs:=by first|exact hc _ _|fail) (hx:=?_)|refine oZ ?_|refine oI ?_|refine thenI_n ?_|refine IWP_seq ?_|refine IWP_region ?_|refine IWP_ct rfl ?_|refine IWP_cf rfl ?_|refine IWP_skip ?_|refine IWP_ret ?_|refine IWP_block ?_|refine inB_n ?_|refine thenI_r ?_|refine thenI_e ?_|refine inB_r ?_|refine inB_hit ?_|refine inB_miss rfl ?_|refine IWP_exit ?_|refine IWP_scope ?_|refine IWP_label ?_|refine noG_n ?_|refine noG_r ?_|refine noG_e ?_|refine jmp_n ?_|refine jmp_r ?_|refine jmp_e ?_|refine jmp_g ?_|refine thenI_g ?_|refine inB_g ?_|refine IWP_goto ?_|refine Loop_n ?_|refine oD (id:=3) W83_3 [13, 15] O83_3 [_,_,_,_,_,_,_,_,_,_,_,_,_,_,_,_] [_,_,_] rfl (by repeat' (first|exact trivial|refine And.intro ?_ ?_|exact bS|exact bX|exact bZ|exact bI|exact bC (π:=[]) (hs:=by first|exact hc _ _|fail)|fail)) ?_|fail)
    exact ⟨(sw M (a + t) u, t + 1), ⟨hp.trans (.sw (by omega) (by omega) (by omega) (by omega) (by omega)), by omega⟩, by simp only; omega, lP [0]⟩
  · repeat' (first|refine IOps_nil ?_|refine oS ?_|refine IOps_s rfl rfl ?_|refine oT ?_|refine IOps_s0 rfl ?_|refine oC (π:=[]) (hs:=by first|exact hc _ _|fail) (hx:=?_)|refine oZ ?_|refine oI ?_|refine thenI_n ?_|refine IWP_seq ?_|refine IWP_region ?_|refine IWP_ct rfl ?_|refine IWP_cf rfl ?_|refine IWP_skip ?_|refine IWP_ret ?_|refine IWP_block ?_|refine inB_n ?_|refine thenI_r ?_|refine thenI_e ?_|refine inB_r ?_|refine inB_hit ?_|refine inB_miss rfl ?_|refine IWP_exit ?_|refine IWP_scope ?_|refine IWP_label ?_|refine noG_n ?_|refine noG_r ?_|refine noG_e ?_|refine jmp_n ?_|refine jmp_r ?_|refine jmp_e ?_|refine jmp_g ?_|refine thenI_g ?_|refine inB_g ?_|refine IWP_goto ?_|refine Loop_n ?_|refine oD (id:=3) W83_3 [13, 15] O83_3 [_,_,_,_,_,_,_,_,_,_,_,_,_,_,_,_] [_,_,_] rfl (by repeat' (first|exact trivial|refine And.intro ?_ ?_|exact bS|exact bX|exact bZ|exact bI|exact bC (π:=[]) (hs:=by first|exact hc _ _|fail)|fail)) ?_|fail)
    exact pX [0] M hp rfl
end
end Go.Proofs.Ytnlelckfhlcbgaa

namespace Go.Proofs.Ytnlelckfhlcbgaa
open Go Go.Idl
set_option linter.unusedSimpArgs false
set_option linter.unusedVariables false
set_option maxRecDepth 100000
set_option maxHeartbeats 1000000
attribute [local irreducible] Go.Idl.IWP Go.Idl.IOps Go.Idl.Obl Go.Idl.OpG Go.Idl.thenI Go.Idl.inBlockI Go.Idl.LoopU Go.Idl.noGotoI Go.Idl.jumpI
attribute [local go_sem] List.length_set
theorem dhalf_eq (a b : Nat) (hab : a ≤ b) (hb : b ≤ 1000000000) : IntKind.i64.wrap (((b : Int) - a - 1).tdiv 2) = (((b - a - 1) / 2 : Nat) : Int) := by
  have h : ((b : Int) - a - 1).tdiv 2 = (((b - a - 1) / 2 : Nat) : Int) := by
    rcases Nat.eq_or_lt_of_le hab with rfl | h
    · rw [show (a : Int) - a - 1 = -1 by omega, show a - a - 1 = 0 by omega]; rfl
    · rw [show (b : Int) - a - 1 = ((b - a - 1 : Nat) : Int) by omega]; rfl
  rw [h]; exact wrap_i64 (by omega) (by omega)

section
variable {c : Du → Du → Int} {kc : FuncId} (hc : ∀ x y : Du, Idl.Spec Try.prog kc [.agg [.sc (.int .i64 x.id), .sc (.int .i64 x.due)], .agg [.sc (.int .i64 y.id), .sc (.int .i64 y.due)]] [] (Only (.i64 (c x y)) []))
include hc
theorem dhsort_spec (L : List Du) (a b cap : Nat) (oc : OrdL fun x y => decide (c x y < 0)) (hab : a ≤ b) (hb : b ≤ L.length) (hL : L.length ≤ 1000000000) :
    Idl.Spec Try.prog 80 [.sl 0 0 L.length cap 2, .i64 a, .i64 b, .fn (.func kc) [] []] [.arr false (dues L)]
      (Ex (fun M : List Du => PS a b L M ∧ SS (fun x y => decide (c x y < 0)) a b M) (fun _ => .tup []) (fun M => [.arr false (dues M)])) := by
  obtain ⟨n, rfl⟩ : ∃ n, b = a + n := ⟨b - a, by omega⟩
  have hw := dhalf_eq a (a + n) hab (by omega)
  refine sE Try.func80 Try.ntmps80 ?_
  repeat' (first|refine IOps_nil ?_|refine oS ?_|refine IOps_s rfl rfl ?_|refine oT ?_|refine IOps_s0 rfl ?_|refine oC (π:=[]) (hs:=by first|exact hc _ _|fail) (hx:=?_)|refine oZ ?_|refine oI ?_|refine thenI_n ?_|refine IWP_seq ?_|refine IWP_region ?_|refine IWP_ct rfl ?_|refine IWP_cf rfl ?_|refine IWP_skip ?_|refine IWP_ret ?_|refine IWP_block ?_|refine inB_n ?_|refine thenI_r ?_|refine thenI_e ?_|refine inB_r ?_|refine inB_hit ?_|refine inB_miss rfl ?_|refine IWP_exit ?_|refine IWP_scope ?_|refine IWP_label ?_|refine noG_n ?_|refine noG_r ?_|refine noG_e ?_|refine jmp_n ?_|refine jmp_r ?_|refine jmp_e ?_|refine jmp_g ?_|refine thenI_g ?_|refine inB_g ?_|refine IWP_goto ?_|refine Loop_n ?_|refine oD (id:=10) W80_10 [17, 19] O80_10 [_,_,_,_,_,_,_,_,_,_,_,_,_,_,_,_,_,_,_,_] [_,_,_] rfl (by repeat' (first|exact trivial|refine And.intro ?_ ?_|exact bS|exact bX|exact bZ|exact bI|exact bC (π:=[]) (hs:=by first|exact hc _ _|fail)|fail)) ?_|fail)
  rw [hw]
  refine IWP_loop (fun x : List Du × Nat => ⟨60, [(0, .sl 0 0 L.length cap 2), (3, .fn (.func kc) [] []), (8, .i64 a), (9, .i64 0), (10, .i64 n), (11, .i64 ((x.2 : Int) - 1))], [.arr false (dues x.1)]⟩)
    (fun x => PS a (a + n) L x.1 ∧ HP (fun x y => decide (c x y < 0)) a x.2 n x.1 ∧ x.2 ≤ n + 1) (fun x => x.2) (L, (a + n - a - 1) / 2 + 1) (lP [0]) ⟨.refl _ _ _, fun p q h1 h2 h3 => by simp only at h1; omega, by simp only; omega⟩ ?_
  rintro ⟨M, j⟩ ⟨hp, hs, hj⟩
  replace hp : PS a (a + n) L M := hp
  have hl := hp.len
  simp only at hs hj ⊢
  cases j with
  | succ k =>
    rw [show (((k + 1 : Nat) : Int) - 1) = (k : Int) by omega]
    repeat' (first|refine IOps_nil ?_|refine oS ?_|refine IOps_s rfl rfl ?_|refine oT ?_|refine IOps_s0 rfl ?_|refine oC (π:=[]) (hs:=by first|exact hc _ _|fail) (hx:=?_)|refine oZ ?_|refine oI ?_|refine thenI_n ?_|refine IWP_seq ?_|refine IWP_region ?_|refine IWP_ct rfl ?_|refine IWP_cf rfl ?_|refine IWP_skip ?_|refine IWP_ret ?_|refine IWP_block ?_|refine inB_n ?_|refine thenI_r ?_|refine thenI_e ?_|refine inB_r ?_|refine inB_hit ?_|refine inB_miss rfl ?_|refine IWP_exit ?_|refine IWP_scope ?_|refine IWP_label ?_|refine noG_n ?_|refine noG_r ?_|refine noG_e ?_|refine jmp_n ?_|refine jmp_r ?_|refine jmp_e ?_|refine jmp_g ?_|refine thenI_g ?_|refine inB_g ?_|refine IWP_goto ?_|refine Loop_n ?_|refine oD (id:=10) W80_10 [17, 19] O80_10 [_,_,_,_,_,_,_,_,_,_,_,_,_,_,_,_,_,_,_,_] [_,_,_] rfl (by repeat' (first|exact trivial|refine And.intro ?_ ?_|exact bS|exact bX|exact bZ|exact bI|exact bC (π:=[]) (hs:=by first|exact hc _ _|fail)|fail)) ?_|fail)
    have hsp := dsift_spec hc M k n a cap oc (by omega) (by omega) (by omega) hs
    rw [hl] at hsp
    refine oE [0] (hs := hsp) (hx := ?_)
    rintro N ⟨hN, hH⟩
    have hl2 := hN.len
    repeat' (first|refine IOps_nil ?_|refine oS ?_|refine IOps_s rfl rfl ?_|refine oT ?_|refine IOps_s0 rfl ?_|refine oC (π:=[]) (hs:=by first|exact hc _ _|fail) (hx:=?_)|refine oZ ?_|refine oI ?_|refine thenI_n ?_|refine IWP_seq ?_|refine IWP_region ?_|refine IWP_ct rfl ?_|refine IWP_cf rfl ?_|refine IWP_skip ?_|refine IWP_ret ?_|refine IWP_block ?_|refine inB_n ?_|refine thenI_r ?_|refine thenI_e ?_|refine inB_r ?_|refine inB_hit ?_|refine inB_miss rfl ?_|refine IWP_exit ?_|refine IWP_scope ?_|refine IWP_label ?_|refine noG_n ?_|refine noG_r ?_|refine noG_e ?_|refine jmp_n ?_|refine jmp_r ?_|refine jmp_e ?_|refine jmp_g ?_|refine thenI_g ?_|refine inB_g ?_|refine IWP_goto ?_|refine Loop_n ?_|refine oD (id:=10) W80_10 [17, 19] O80_10 [_,_,_,_,_,_,_,_,_,_,_,_,_,_,_,_,_,_,_,_] [_,_,_] rfl (by repeat' (first|exact trivial|refine And.intro ?_ ?_|exact bS|exact bX|exact bZ|exact bI|exact bC (π:=[]) (hs:=by first|exact hc _ _|fail)|fail)) ?_|fail)
    exact ⟨(N, k), ⟨hp.trans hN, hH, by omega⟩, by simp only; omega, lP [0]⟩
  | zero =>
    repeat' (first|refine IOps_nil ?_|refine oS ?_|refine IOps_s rfl rfl ?_|refine oT ?_|refine IOps_s0 rfl ?_|refine oC (π:=[]) (hs:=by first|exact hc _ _|fail) (hx:=?_)|refine oZ ?_|refine oI ?_|refine thenI_n ?_|refine IWP_seq ?_|refine IWP_region ?_|refine IWP_ct rfl ?_|refine IWP_cf rfl ?_|refine IWP_skip ?_|refine IWP_ret ?_|refine IWP_block ?_|refine inB_n ?_|refine thenI_r ?_|refine thenI_e ?_|refine inB_r ?_|refine inB_hit ?_|refine inB_miss rfl ?_|refine IWP_exit ?_|refine IWP_scope ?_|refine IWP_label ?_|refine noG_n ?_|refine noG_r ?_|refine noG_e ?_|refine jmp_n ?_|refine jmp_r ?_|refine jmp_e ?_|refine jmp_g ?_|refine thenI_g ?_|refine inB_g ?_|refine IWP_goto ?_|refine Loop_n ?_|refine oD (id:=10) W80_10 [17, 19] O80_10 [_,_,_,_,_,_,_,_,_,_,_,_,_,_,_,_,_,_,_,_] [_,_,_] rfl (by repeat' (first|exact trivial|refine And.intro ?_ ?_|exact bS|exact bX|exact bZ|exact bI|exact bC (π:=[]) (hs:=by first|exact hc _ _|fail)|fail)) ?_|fail)
    refine IWP_loop (fun x : List Du × Nat => ⟨60, [(0, .sl 0 0 L.length cap 2), (3, .fn (.func kc) [] []), (8, .i64 a), (9, .i64 0), (10, .i64 n), (12, .i64 ((x.2 : Int) - 1))], [.arr false (dues x.1)]⟩)
      (fun x => HS (fun x y => decide (c x y < 0)) a (a + n) x.2 L x.1) (fun x => x.2) (M, n) (lP [0]) ⟨hp, by simp only; omega, by simp only; omega, hs, fun p q h1 h2 h3 => by simp only at h1; omega, fun p q h1 h2 h3 => by simp only at h3; omega⟩ ?_
    rintro ⟨M, j⟩ hS
    replace hS : HS (fun x y => decide (c x y < 0)) a (a + n) j L M := hS
    have hl := hS.ps.len
    have hkb := hS.kb
    simp only at ⊢
    cases j with
    | zero =>
      repeat' (first|refine IOps_nil ?_|refine oS ?_|refine IOps_s rfl rfl ?_|refine oT ?_|refine IOps_s0 rfl ?_|refine oC (π:=[]) (hs:=by first|exact hc _ _|fail) (hx:=?_)|refine oZ ?_|refine oI ?_|refine thenI_n ?_|refine IWP_seq ?_|refine IWP_region ?_|refine IWP_ct rfl ?_|refine IWP_cf rfl ?_|refine IWP_skip ?_|refine IWP_ret ?_|refine IWP_block ?_|refine inB_n ?_|refine thenI_r ?_|refine thenI_e ?_|refine inB_r ?_|refine inB_hit ?_|refine inB_miss rfl ?_|refine IWP_exit ?_|refine IWP_scope ?_|refine IWP_label ?_|refine noG_n ?_|refine noG_r ?_|refine noG_e ?_|refine jmp_n ?_|refine jmp_r ?_|refine jmp_e ?_|refine jmp_g ?_|refine thenI_g ?_|refine inB_g ?_|refine IWP_goto ?_|refine Loop_n ?_|refine oD (id:=10) W80_10 [17, 19] O80_10 [_,_,_,_,_,_,_,_,_,_,_,_,_,_,_,_,_,_,_,_] [_,_,_] rfl (by repeat' (first|exact trivial|refine And.intro ?_ ?_|exact bS|exact bX|exact bZ|exact bI|exact bC (π:=[]) (hs:=by first|exact hc _ _|fail)|fail)) ?_|fail)
      exact pX [0] M ⟨hS.ps, hS.ss⟩ rfl
    | succ k =>
      rw [show (((k + 1 : Nat) : Int) - 1) = (k : Int) by omega]
      have hst := hS.step oc
      repeat' (first|refine IOps_nil ?_|refine oS ?_|refine IOps_s rfl rfl ?_|refine oT ?_|refine IOps_s0 rfl ?_|refine oC (π:=[]) (hs:=by first|exact hc _ _|fail) (hx:=?_)|refine oZ ?_|refine oI ?_|refine thenI_n ?_|refine IWP_seq ?_|refine IWP_region ?_|refine IWP_ct rfl ?_|refine IWP_cf rfl ?_|refine IWP_skip ?_|refine IWP_ret ?_|refine IWP_block ?_|refine inB_n ?_|refine thenI_r ?_|refine thenI_e ?_|refine inB_r ?_|refine inB_hit ?_|refine inB_miss rfl ?_|refine IWP_exit ?_|refine IWP_scope ?_|refine IWP_label ?_|refine noG_n ?_|refine noG_r ?_|refine noG_e ?_|refine jmp_n ?_|refine jmp_r ?_|refine jmp_e ?_|refine jmp_g ?_|refine thenI_g ?_|refine inB_g ?_|refine IWP_goto ?_|refine Loop_n ?_|refine oD (id:=10) W80_10 [17, 19] O80_10 [_,_,_,_,_,_,_,_,_,_,_,_,_,_,_,_,_,_,_,_] [_,_,_] rfl (by repeat' (first|exact trivial|refine And.intro ?_ ?_|exact bS|exact bX|exact bZ|exact bI|exact bC (π:=[]) (hs:=by first|exact hc _ _|fail)|fail)) ?_|fail)
      have hsp := dsift_spec hc (sw M a (a + k)) 0 k a cap oc (by rw [sw_length]; omega) (by rw [sw_length]; omega) (by omega) hst.1
      rw [sw_length, hl] at hsp
      refine oE [0] (hs := hsp) (hx := ?_)
      rintro N ⟨hN, hH⟩
      have hl2 := hN.len
      repeat' (first|refine IOps_nil ?_|refine oS ?_|refine IOps_s rfl rfl ?_|refine oT ?_|refine IOps_s0 rfl ?_|refine oC (π:=[]) (hs:=by first|exact hc _ _|fail) (hx:=?_)|refine oZ ?_|refine oI ?_|refine thenI_n ?_|refine IWP_seq ?_|refine IWP_region ?_|refine IWP_ct rfl ?_|refine IWP_cf rfl ?_|refine IWP_skip ?_|refine IWP_ret ?_|refine IWP_block ?_|refine inB_n ?_|refine thenI_r ?_|refine thenI_e ?_|refine inB_r ?_|refine inB_hit ?_|refine inB_miss rfl ?_|refine IWP_exit ?_|refine IWP_scope ?_|refine IWP_label ?_|refine noG_n ?_|refine noG_r ?_|refine noG_e ?_|refine jmp_n ?_|refine jmp_r ?_|refine jmp_e ?_|refine jmp_g ?_|refine thenI_g ?_|refine inB_g ?_|refine IWP_goto ?_|refine Loop_n ?_|refine oD (id:=10) W80_10 [17, 19] O80_10 [_,_,_,_,_,_,_,_,_,_,_,_,_,_,_,_,_,_,_,_] [_,_,_] rfl (by repeat' (first|exact trivial|refine And.intro ?_ ?_|exact bS|exact bX|exact bZ|exact bI|exact bC (π:=[]) (hs:=by first|exact hc _ _|fail)|fail)) ?_|fail)
      exact ⟨(N, k), hst.2 N hN hH, by simp only; omega, lP [0]⟩
end
end Go.Proofs.Ytnlelckfhlcbgaa

namespace Go.Proofs.Ytnlelckfhlcbgaa
open Go Go.Idl
set_option linter.unusedSimpArgs false
set_option linter.unusedVariables false
set_option maxRecDepth 100000
set_option maxHeartbeats 1000000
attribute [local irreducible] Go.Idl.IWP Go.Idl.IOps Go.Idl.Obl Go.Idl.OpG Go.Idl.thenI Go.Idl.inBlockI Go.Idl.LoopU Go.Idl.noGotoI Go.Idl.jumpI
attribute [local go_sem] List.length_set
theorem PI.deqEnd {c : Du → Du → Int} {a b i j : Nat} {L M : List Du} (oc : OrdL fun x y => decide (c x y < 0)) (h : PI (fun x y => !decide (c y x < 0)) a b i j L M) (hij : j < i) :
    (∀ p, a ≤ p → p < i → ¬ c (gd M a) (gd M p) < 0) ∧ ∀ q, i ≤ q → q < b → c (gd M a) (gd M q) < 0 := by
  refine ⟨fun p h1 h2 => ?_, fun q h1 h2 => ?_⟩
  · rcases Nat.eq_or_lt_of_le h1 with rfl | h3
    · have := oc.irr (gd M a); simpa using this
    · have := h.less p h3 h2; simpa using this
  · have := h.more q (by omega) h2; simpa using this

section
variable {c : Du → Du → Int} {kc : FuncId} (hc : ∀ x y : Du, Idl.Spec Try.prog kc [.agg [.sc (.int .i64 x.id), .sc (.int .i64 x.due)], .agg [.sc (.int .i64 y.id), .sc (.int .i64 y.due)]] [] (Only (.i64 (c x y)) []))
include hc
theorem dparteq_spec (L : List Du) (a b k cap : Nat) (oc : OrdL fun x y => decide (c x y < 0)) (hak : a ≤ k) (hkb : k < b) (hb : b ≤ L.length) (hL : L.length ≤ 1000000000) :
    Idl.Spec Try.prog 85 [.sl 0 0 L.length cap 2, .i64 a, .i64 b, .i64 k, .fn (.func kc) [] []] [.arr false (dues L)]
      (Ex (fun x : List Du × Nat => PS a b L x.1 ∧ a < x.2 ∧ x.2 ≤ b ∧ (∀ p, a ≤ p → p < x.2 → ¬ c (gd L k) (gd x.1 p) < 0) ∧ ∀ q, x.2 ≤ q → q < b → c (gd L k) (gd x.1 q) < 0) (fun x => .i64 x.2) (fun x => [.arr false (dues x.1)])) := by
  refine sE Try.func85 Try.ntmps85 ?_
  repeat' (first|refine IOps_nil ?_|refine oS ?_|refine IOps_s rfl rfl ?_|refine oT ?_|refine IOps_s0 rfl ?_|refine oC (π:=[]) (hs:=by first|exact hc _ _|fail) (hx:=?_)|refine oZ ?_|refine oI ?_|refine thenI_n ?_|refine IWP_seq ?_|refine IWP_region ?_|refine IWP_ct rfl ?_|refine IWP_cf rfl ?_|refine IWP_skip ?_|refine IWP_ret ?_|refine IWP_block ?_|refine inB_n ?_|refine thenI_r ?_|refine thenI_e ?_|refine inB_r ?_|refine inB_hit ?_|refine inB_miss rfl ?_|refine IWP_exit ?_|refine IWP_scope ?_|refine IWP_label ?_|refine noG_n ?_|refine noG_r ?_|refine noG_e ?_|refine jmp_n ?_|refine jmp_r ?_|refine jmp_e ?_|refine jmp_g ?_|refine thenI_g ?_|refine inB_g ?_|refine IWP_goto ?_|refine Loop_n ?_|refine oD (id:=1) W85_1 [13, 15] O85_1 [_,_,_,_,_,_,_,_,_,_,_,_,_,_,_,_] [_,_,_] rfl (by repeat' (first|exact trivial|refine And.intro ?_ ?_|exact bS|exact bX|exact bZ|exact bI|exact bC (π:=[]) (hs:=by first|exact hc _ _|fail)|fail)) ?_|refine oD (id:=3) W85_3 [] O85_3 [_,_,_,_,_,_,_,_,_,_,_,_,_,_,_,_,_] [_] rfl (by repeat' (first|exact trivial|refine And.intro ?_ ?_|exact bS|exact bX|exact bZ|exact bI|exact bC (π:=[]) (hs:=by first|exact hc _ _|fail)|fail)) ?_|refine oD (id:=5) W85_5 [] O85_5 [_,_,_,_,_,_,_,_,_,_,_,_,_,_,_,_] [_] rfl (by repeat' (first|exact trivial|refine And.intro ?_ ?_|exact bS|exact bX|exact bZ|exact bI|exact bC (π:=[]) (hs:=by first|exact hc _ _|fail)|fail)) ?_|refine oD (id:=8) W85_8 [13, 15] O85_8 [_,_,_,_,_,_,_,_,_,_,_,_,_,_,_,_] [_,_,_] rfl (by repeat' (first|exact trivial|refine And.intro ?_ ?_|exact bS|exact bX|exact bZ|exact bI|exact bC (π:=[]) (hs:=by first|exact hc _ _|fail)|fail)) ?_|fail)
  refine IWP_loop (fun x : List Du × Nat × Nat => ⟨90, [(0, .sl 0 0 L.length cap 2), (1, .i64 a), (4, .fn (.func kc) [] []), (11, .i64 x.2.1), (12, .i64 x.2.2)], [.arr false (dues x.1)]⟩) (fun x => PI (fun x y => !decide (c y x < 0)) a b x.2.1 x.2.2 L x.1 ∧ gd x.1 a = gd L k) (fun x => x.2.2 + 1 - x.2.1) (sw L a k, a + 1, b - 1) (lP [0]) ⟨PI.start hak hkb hb, by simp only; rw [gd_sw (by omega) (by omega)]; split <;> simp_all⟩ ?_
  rintro ⟨M, i0, j0⟩ ⟨hi0, hv⟩
  replace hi0 : PI (fun x y => !decide (c y x < 0)) a b i0 j0 L M := hi0
  replace hv : gd M a = gd L k := hv
  have hl := hi0.ps.len
  have q3 := hi0.bl
  simp only
  repeat' (first|refine IOps_nil ?_|refine oS ?_|refine IOps_s rfl rfl ?_|refine oT ?_|refine IOps_s0 rfl ?_|refine oZ ?_|refine oI ?_|refine thenI_n ?_|refine IWP_seq ?_|refine IWP_region ?_|refine IWP_ct rfl ?_|refine IWP_cf rfl ?_|refine IWP_skip ?_|refine IWP_ret ?_|refine IWP_block ?_|refine inB_n ?_|refine thenI_r ?_|refine thenI_e ?_|refine inB_r ?_|refine inB_hit ?_|refine inB_miss rfl ?_|refine IWP_exit ?_|refine IWP_scope ?_|refine IWP_label ?_|refine noG_n ?_|refine noG_r ?_|refine noG_e ?_|refine jmp_n ?_|refine jmp_r ?_|refine jmp_e ?_|refine jmp_g ?_|refine thenI_g ?_|refine inB_g ?_|refine IWP_goto ?_|refine Loop_n ?_|refine oD (id:=1) W85_1 [13, 15] O85_1 [_,_,_,_,_,_,_,_,_,_,_,_,_,_,_,_] [_,_,_] rfl (by repeat' (first|exact trivial|refine And.intro ?_ ?_|exact bS|exact bX|exact bZ|exact bI|fail)) ?_|refine oD (id:=3) W85_3 [] O85_3 [_,_,_,_,_,_,_,_,_,_,_,_,_,_,_,_,_] [_] rfl (by repeat' (first|exact trivial|refine And.intro ?_ ?_|exact bS|exact bX|exact bZ|exact bI|fail)) ?_|refine oD (id:=5) W85_5 [] O85_5 [_,_,_,_,_,_,_,_,_,_,_,_,_,_,_,_] [_] rfl (by repeat' (first|exact trivial|refine And.intro ?_ ?_|exact bS|exact bX|exact bZ|exact bI|fail)) ?_|refine oD (id:=8) W85_8 [13, 15] O85_8 [_,_,_,_,_,_,_,_,_,_,_,_,_,_,_,_] [_,_,_] rfl (by repeat' (first|exact trivial|refine And.intro ?_ ?_|exact bS|exact bX|exact bZ|exact bI|fail)) ?_|fail)
  refine IWP_loop (fun i : Nat => ⟨90, [(0, .sl 0 0 L.length cap 2), (1, .i64 a), (4, .fn (.func kc) [] []), (11, .i64 i), (12, .i64 j0)], [.arr false (dues M)]⟩) (fun i => PI (fun x y => !decide (c y x < 0)) a b i j0 L M ∧ i0 ≤ i) (fun i => b - i) i0 (lP [0]) ⟨hi0, Nat.le_refl _⟩ ?_
  rintro i ⟨hi, hi00⟩
  have q0 := hi.i0; have q1 := hi.ij; have q2 := hi.jb
  by_cases h1 : i ≤ j0
  · by_cases h2 : c (gd M a) (gd M i) < 0
    · repeat' (first|refine IOps_nil ?_|refine oS ?_|refine IOps_s rfl rfl ?_|refine oT ?_|refine IOps_s0 rfl ?_|refine oC (π:=[]) (hs:=by first|exact hc _ _|fail) (hx:=?_)|refine oZ ?_|refine oI ?_|refine thenI_n ?_|refine IWP_seq ?_|refine IWP_region ?_|refine IWP_ct rfl ?_|refine IWP_cf rfl ?_|refine IWP_skip ?_|refine IWP_ret ?_|refine IWP_block ?_|refine inB_n ?_|refine thenI_r ?_|refine thenI_e ?_|refine inB_r ?_|refine inB_hit ?_|refine inB_miss rfl ?_|refine IWP_exit ?_|refine IWP_scope ?_|refine IWP_label ?_|refine noG_n ?_|refine noG_r ?_|refine noG_e ?_|refine jmp_n ?_|refine jmp_r ?_|refine jmp_e ?_|refine jmp_g ?_|refine thenI_g ?_|refine inB_g ?_|refine IWP_goto ?_|refine Loop_n ?_|refine oD (id:=1) W85_1 [13, 15] O85_1 [_,_,_,_,_,_,_,_,_,_,_,_,_,_,_,_] [_,_,_] rfl (by repeat' (first|exact trivial|refine And.intro ?_ ?_|exact bS|exact bX|exact bZ|exact bI|exact bC (π:=[]) (hs:=by first|exact hc _ _|fail)|fail)) ?_|refine oD (id:=3) W85_3 [] O85_3 [_,_,_,_,_,_,_,_,_,_,_,_,_,_,_,_,_] [_] rfl (by repeat' (first|exact trivial|refine And.intro ?_ ?_|exact bS|exact bX|exact bZ|exact bI|exact bC (π:=[]) (hs:=by first|exact hc _ _|fail)|fail)) ?_|refine oD (id:=5) W85_5 [] O85_5 [_,_,_,_,_,_,_,_,_,_,_,_,_,_,_,_] [_] rfl (by repeat' (first|exact trivial|refine And.intro ?_ ?_|exact bS|exact bX|exact bZ|exact bI|exact bC (π:=[]) (hs:=by first|exact hc _ _|fail)|fail)) ?_|refine oD (id:=8) W85_8 [13, 15] O85_8 [_,_,_,_,_,_,_,_,_,_,_,_,_,_,_,_] [_,_,_] rfl (by repeat' (first|exact trivial|refine And.intro ?_ ?_|exact bS|exact bX|exact bZ|exact bI|exact bC (π:=[]) (hs:=by first|exact hc _ _|fail)|fail)) ?_|fail)
      refine IWP_loop (fun j : Nat => ⟨90, [(0, .sl 0 0 L.length cap 2), (1, .i64 a), (4, .fn (.func kc) [] []), (11, .i64 i), (12, .i64 j)], [.arr false (dues M)]⟩) (fun j => PI (fun x y => !decide (c y x < 0)) a b i j L M ∧ j ≤ j0) (fun j => j) j0 (lP [0]) ⟨hi, Nat.le_refl _⟩ ?_
      rintro j ⟨hi, hj0⟩
      have q0 := hi.i0; have q1 := hi.ij; have q2 := hi.jb
      by_cases h3 : i ≤ j
      · by_cases h4 : c (gd M a) (gd M j) < 0
        · repeat' (first|refine IOps_nil ?_|refine oS ?_|refine IOps_s rfl rfl ?_|refine oT ?_|refine IOps_s0 rfl ?_|refine oC (π:=[]) (hs:=by first|exact hc _ _|fail) (hx:=?_)|refine oZ ?_|refine oI ?_|refine thenI_n ?_|refine IWP_seq ?_|refine IWP_region ?_|refine IWP_ct rfl ?_|refine IWP_cf rfl ?_|refine IWP_skip ?_|refine IWP_ret ?_|refine IWP_block ?_|refine inB_n ?_|refine thenI_r ?_|refine thenI_e ?_|refine inB_r ?_|refine inB_hit ?_|refine inB_miss rfl ?_|refine IWP_exit ?_|refine IWP_scope ?_|refine IWP_label ?_|refine noG_n ?_|refine noG_r ?_|refine noG_e ?_|refine jmp_n ?_|refine jmp_r ?_|refine jmp_e ?_|refine jmp_g ?_|refine thenI_g ?_|refine inB_g ?_|refine IWP_goto ?_|refine Loop_n ?_|refine oD (id:=1) W85_1 [13, 15] O85_1 [_,_,_,_,_,_,_,_,_,_,_,_,_,_,_,_] [_,_,_] rfl (by repeat' (first|exact trivial|refine And.intro ?_ ?_|exact bS|exact bX|exact bZ|exact bI|exact bC (π:=[]) (hs:=by first|exact hc _ _|fail)|fail)) ?_|refine oD (id:=3) W85_3 [] O85_3 [_,_,_,_,_,_,_,_,_,_,_,_,_,_,_,_,_] [_] rfl (by repeat' (first|exact trivial|refine And.intro ?_ ?_|exact bS|exact bX|exact bZ|exact bI|exact bC (π:=[]) (hs:=by first|exact hc _ _|fail)|fail)) ?_|refine oD (id:=5) W85_5 [] O85_5 [_,_,_,_,_,_,_,_,_,_,_,_,_,_,_,_] [_] rfl (by repeat' (first|exact trivial|refine And.intro ?_ ?_|exact bS|exact bX|exact bZ|exact bI|exact bC (π:=[]) (hs:=by first|exact hc _ _|fail)|fail)) ?_|refine oD (id:=8) W85_8 [13, 15] O85_8 [_,_,_,_,_,_,_,_,_,_,_,_,_,_,_,_] [_,_,_] rfl (by repeat' (first|exact trivial|refine And.intro ?_ ?_|exact bS|exact bX|exact bZ|exact bI|exact bC (π:=[]) (hs:=by first|exact hc _ _|fail)|fail)) ?_|fail)
          exact ⟨j - 1, ⟨hi.decJ h3 (by simpa using h4), by omega⟩, by omega, lP [0]⟩
        · obtain ⟨hij, hs⟩ := hi.swap h3 (by simpa using h2) (by simpa using h4)
          repeat' (first|refine IOps_nil ?_|refine oS ?_|refine IOps_s rfl rfl ?_|refine oT ?_|refine IOps_s0 rfl ?_|refine oC (π:=[]) (hs:=by first|exact hc _ _|fail) (hx:=?_)|refine oZ ?_|refine oI ?_|refine thenI_n ?_|refine IWP_seq ?_|refine IWP_region ?_|refine IWP_ct rfl ?_|refine IWP_cf rfl ?_|refine IWP_skip ?_|refine IWP_ret ?_|refine IWP_block ?_|refine inB_n ?_|refine thenI_r ?_|refine thenI_e ?_|refine inB_r ?_|refine inB_hit ?_|refine inB_miss rfl ?_|refine IWP_exit ?_|refine IWP_scope ?_|refine IWP_label ?_|refine noG_n ?_|refine noG_r ?_|refine noG_e ?_|refine jmp_n ?_|refine jmp_r ?_|refine jmp_e ?_|refine jmp_g ?_|refine thenI_g ?_|refine inB_g ?_|refine IWP_goto ?_|refine Loop_n ?_|refine oD (id:=1) W85_1 [13, 15] O85_1 [_,_,_,_,_,_,_,_,_,_,_,_,_,_,_,_] [_,_,_] rfl (by repeat' (first|exact trivial|refine And.intro ?_ ?_|exact bS|exact bX|exact bZ|exact bI|exact bC (π:=[]) (hs:=by first|exact hc _ _|fail)|fail)) ?_|refine oD (id:=3) W85_3 [] O85_3 [_,_,_,_,_,_,_,_,_,_,_,_,_,_,_,_,_] [_] rfl (by repeat' (first|exact trivial|refine And.intro ?_ ?_|exact bS|exact bX|exact bZ|exact bI|exact bC (π:=[]) (hs:=by first|exact hc _ _|fail)|fail)) ?_|refine oD (id:=5) W85_5 [] O85_5 [_,_,_,_,_,_,_,_,_,_,_,_,_,_,_,_] [_] rfl (by repeat' (first|exact trivial|refine And.intro ?_ ?_|exact bS|exact bX|exact bZ|exact bI|exact bC (π:=[]) (hs:=by first|exact hc _ _|fail)|fail)) ?_|refine oD (id:=8) W85_8 [13, 15] O85_8 [_,_,_,_,_,_,_,_,_,_,_,_,_,_,_,_] [_,_,_] rfl (by repeat' (first|exact trivial|refine And.intro ?_ ?_|exact bS|exact bX|exact bZ|exact bI|exact bC (π:=[]) (hs:=by first|exact hc _ _|fail)|fail)) ?_|fail)
          exact ⟨(sw M i j, i + 1, j - 1), ⟨hs, by simp only; rw [gd_sw (by omega) (by omega), if_neg (by omega), if_neg (by omega), hv]⟩, by simp only; omega, lP [0]⟩
      · have he := PI.deqEnd oc hi (by omega)
        rw [hv] at he
        repeat' (first|refine IOps_nil ?_|refine oS ?_|refine IOps_s rfl rfl ?_|refine oT ?_|refine IOps_s0 rfl ?_|refine oC (π:=[]) (hs:=by first|exact hc _ _|fail) (hx:=?_)|refine oZ ?_|refine oI ?_|refine thenI_n ?_|refine IWP_seq ?_|refine IWP_region ?_|refine IWP_ct rfl ?_|refine IWP_cf rfl ?_|refine IWP_skip ?_|refine IWP_ret ?_|refine IWP_block ?_|refine inB_n ?_|refine thenI_r ?_|refine thenI_e ?_|refine inB_r ?_|refine inB_hit ?_|refine inB_miss rfl ?_|refine IWP_exit ?_|refine IWP_scope ?_|refine IWP_label ?_|refine noG_n ?_|refine noG_r ?_|refine noG_e ?_|refine jmp_n ?_|refine jmp_r ?_|refine jmp_e ?_|refine jmp_g ?_|refine thenI_g ?_|refine inB_g ?_|refine IWP_goto ?_|refine Loop_n ?_|refine oD (id:=1) W85_1 [13, 15] O85_1 [_,_,_,_,_,_,_,_,_,_,_,_,_,_,_,_] [_,_,_] rfl (by repeat' (first|exact trivial|refine And.intro ?_ ?_|exact bS|exact bX|exact bZ|exact bI|exact bC (π:=[]) (hs:=by first|exact hc _ _|fail)|fail)) ?_|refine oD (id:=3) W85_3 [] O85_3 [_,_,_,_,_,_,_,_,_,_,_,_,_,_,_,_,_] [_] rfl (by repeat' (first|exact trivial|refine And.intro ?_ ?_|exact bS|exact bX|exact bZ|exact bI|exact bC (π:=[]) (hs:=by first|exact hc _ _|fail)|fail)) ?_|refine oD (id:=5) W85_5 [] O85_5 [_,_,_,_,_,_,_,_,_,_,_,_,_,_,_,_] [_] rfl (by repeat' (first|exact trivial|refine And.intro ?_ ?_|exact bS|exact bX|exact bZ|exact bI|exact bC (π:=[]) (hs:=by first|exact hc _ _|fail)|fail)) ?_|refine oD (id:=8) W85_8 [13, 15] O85_8 [_,_,_,_,_,_,_,_,_,_,_,_,_,_,_,_] [_,_,_] rfl (by repeat' (first|exact trivial|refine And.intro ?_ ?_|exact bS|exact bX|exact bZ|exact bI|exact bC (π:=[]) (hs:=by first|exact hc _ _|fail)|fail)) ?_|fail)
        exact pX [0] (M, i) ⟨hi.ps, by simp only; omega, by simp only; omega, he.1, he.2⟩ rfl
    · repeat' (first|refine IOps_nil ?_|refine oS ?_|refine IOps_s rfl rfl ?_|refine oT ?_|refine IOps_s0 rfl ?_|refine oC (π:=[]) (hs:=by first|exact hc _ _|fail) (hx:=?_)|refine oZ ?_|refine oI ?_|refine thenI_n ?_|refine IWP_seq ?_|refine IWP_region ?_|refine IWP_ct rfl ?_|refine IWP_cf rfl ?_|refine IWP_skip ?_|refine IWP_ret ?_|refine IWP_block ?_|refine inB_n ?_|refine thenI_r ?_|refine thenI_e ?_|refine inB_r ?_|refine inB_hit ?_|refine inB_miss rfl ?_|refine IWP_exit ?_|refine IWP_scope ?_|refine IWP_label ?_|refine noG_n ?_|refine noG_r ?_|refine noG_e ?_|refine jmp_n ?_|refine jmp_r ?_|refine jmp_e ?_|refine jmp_g ?_|refine thenI_g ?_|refine inB_g ?_|refine IWP_goto ?_|refine Loop_n ?_|refine oD (id:=1) W85_1 [13, 15] O85_1 [_,_,_,_,_,_,_,_,_,_,_,_,_,_,_,_] [_,_,_] rfl (by repeat' (first|exact trivial|refine And.intro ?_ ?_|exact bS|exact bX|exact bZ|exact bI|exact bC (π:=[]) (hs:=by first|exact hc _ _|fail)|fail)) ?_|refine oD (id:=3) W85_3 [] O85_3 [_,_,_,_,_,_,_,_,_,_,_,_,_,_,_,_,_] [_] rfl (by repeat' (first|exact trivial|refine And.intro ?_ ?_|exact bS|exact bX|exact bZ|exact bI|exact bC (π:=[]) (hs:=by first|exact hc _ _|fail)|fail)) ?_|refine oD (id:=5) W85_5 [] O85_5 [_,_,_,_,_,_,_,_,_,_,_,_,_,_,_,_] [_] rfl (by repeat' (first|exact trivial|refine And.intro ?_ ?_|exact bS|exact bX|exact bZ|exact bI|exact bC (π:=[]) (hs:=by first|exact hc _ _|fail)|fail)) ?_|refine oD (id:=8) W85_8 [13, 15] O85_8 [_,_,_,_,_,_,_,_,_,_,_,_,_,_,_,_] [_,_,_] rfl (by repeat' (first|exact trivial|refine And.intro ?_ ?_|exact bS|exact bX|exact bZ|exact bI|exact bC (π:=[]) (hs:=by first|exact hc _ _|fail)|fail)) ?_|fail)
      exact ⟨i + 1, ⟨hi.incI h1 (by simpa using h2), by omega⟩, by omega, lP [0]⟩
  · have he := PI.deqEnd oc hi (by omega)
    rw [hv] at he
    obtain rfl : i = j0 + 1 := by omega
    repeat' (first|refine IOps_nil ?_|refine oS ?_|refine IOps_s rfl rfl ?_|refine oT ?_|refine IOps_s0 rfl ?_|refine oC (π:=[]) (hs:=by first|exact hc _ _|fail) (hx:=?_)|refine oZ ?_|refine oI ?_|refine thenI_n ?_|refine IWP_seq ?_|refine IWP_region ?_|refine IWP_ct rfl ?_|refine IWP_cf rfl ?_|refine IWP_skip ?_|refine IWP_ret ?_|refine IWP_block ?_|refine inB_n ?_|refine thenI_r ?_|refine thenI_e ?_|refine inB_r ?_|refine inB_hit ?_|refine inB_miss rfl ?_|refine IWP_exit ?_|refine IWP_scope ?_|refine IWP_label ?_|refine noG_n ?_|refine noG_r ?_|refine noG_e ?_|refine jmp_n ?_|refine jmp_r ?_|refine jmp_e ?_|refine jmp_g ?_|refine thenI_g ?_|refine inB_g ?_|refine IWP_goto ?_|refine Loop_n ?_|refine oD (id:=1) W85_1 [13, 15] O85_1 [_,_,_,_,_,_,_,_,_,_,_,_,_,_,_,_] [_,_,_] rfl (by repeat' (first|exact trivial|refine And.intro ?_ ?_|exact bS|exact bX|exact bZ|exact bI|exact bC (π:=[]) (hs:=by first|exact hc _ _|fail)|fail)) ?_|refine oD (id:=3) W85_3 [] O85_3 [_,_,_,_,_,_,_,_,_,_,_,_,_,_,_,_,_] [_] rfl (by repeat' (first|exact trivial|refine And.intro ?_ ?_|exact bS|exact bX|exact bZ|exact bI|exact bC (π:=[]) (hs:=by first|exact hc _ _|fail)|fail)) ?_|refine oD (id:=5) W85_5 [] O85_5 [_,_,_,_,_,_,_,_,_,_,_,_,_,_,_,_] [_] rfl (by repeat' (first|exact trivial|refine And.intro ?_ ?_|exact bS|exact bX|exact bZ|exact bI|exact bC (π:=[]) (hs:=by first|exact hc _ _|fail)|fail)) ?_|refine oD (id:=8) W85_8 [13, 15] O85_8 [_,_,_,_,_,_,_,_,_,_,_,_,_,_,_,_] [_,_,_] rfl (by repeat' (first|exact trivial|refine And.intro ?_ ?_|exact bS|exact bX|exact bZ|exact bI|exact bC (π:=[]) (hs:=by first|exact hc _ _|fail)|fail)) ?_|fail)
    refine IWP_loop (fun _ : Unit => ⟨90, [(0, .sl 0 0 L.length cap 2), (1, .i64 a), (4, .fn (.func kc) [] []), (11, .i64 ((j0 : Int) + 1)), (12, .i64 j0)], [.arr false (dues M)]⟩) (fun _ => True) (fun _ => 0) () (lP [0]) trivial ?_
    intro _ _
    repeat' (first|refine IOps_nil ?_|refine oS ?_|refine IOps_s rfl rfl ?_|refine oT ?_|refine IOps_s0 rfl ?_|refine oC (π:=[]) (hs:=by first|exact hc _ _|fail) (hx:=?_)|refine oZ ?_|refine oI ?_|refine thenI_n ?_|refine IWP_seq ?_|refine IWP_region ?_|refine IWP_ct rfl ?_|refine IWP_cf rfl ?_|refine IWP_skip ?_|refine IWP_ret ?_|refine IWP_block ?_|refine inB_n ?_|refine thenI_r ?_|refine thenI_e ?_|refine inB_r ?_|refine inB_hit ?_|refine inB_miss rfl ?_|refine IWP_exit ?_|refine IWP_scope ?_|refine IWP_label ?_|refine noG_n ?_|refine noG_r ?_|refine noG_e ?_|refine jmp_n ?_|refine jmp_r ?_|refine jmp_e ?_|refine jmp_g ?_|refine thenI_g ?_|refine inB_g ?_|refine IWP_goto ?_|refine Loop_n ?_|refine oD (id:=1) W85_1 [13, 15] O85_1 [_,_,_,_,_,_,_,_,_,_,_,_,_,_,_,_] [_,_,_] rfl (by repeat' (first|exact trivial|refine And.intro ?_ ?_|exact bS|exact bX|exact bZ|exact bI|exact bC (π:=[]) (hs:=by first|exact hc _ _|fail)|fail)) ?_|refine oD (id:=3) W85_3 [] O85_3 [_,_,_,_,_,_,_,_,_,_,_,_,_,_,_,_,_] [_] rfl (by repeat' (first|exact trivial|refine And.intro ?_ ?_|exact bS|exact bX|exact bZ|exact bI|exact bC (π:=[]) (hs:=by first|exact hc _ _|fail)|fail)) ?_|refine oD (id:=5) W85_5 [] O85_5 [_,_,_,_,_,_,_,_,_,_,_,_,_,_,_,_] [_] rfl (by repeat' (first|exact trivial|refine And.intro ?_ ?_|exact bS|exact bX|exact bZ|exact bI|exact bC (π:=[]) (hs:=by first|exact hc _ _|fail)|fail)) ?_|refine oD (id:=8) W85_8 [13, 15] O85_8 [_,_,_,_,_,_,_,_,_,_,_,_,_,_,_,_] [_,_,_] rfl (by repeat' (first|exact trivial|refine And.intro ?_ ?_|exact bS|exact bX|exact bZ|exact bI|exact bC (π:=[]) (hs:=by first|exact hc _ _|fail)|fail)) ?_|fail)
    exact pX [0] (M, j0 + 1) ⟨hi.ps, by simp only; omega, by simp only; omega, he.1, he.2⟩ rfl
end
end Go.Proofs.Ytnlelckfhlcbgaa

namespace Go.Proofs.Ytnlelckfhlcbgaa
open Go Go.Idl
set_option linter.unusedSimpArgs false
set_option linter.unusedVariables false
set_option maxRecDepth 100000
set_option maxHeartbeats 1000000
attribute [local irreducible] Go.Idl.IWP Go.Idl.IOps Go.Idl.Obl Go.Idl.OpG Go.Idl.thenI Go.Idl.inBlockI Go.Idl.LoopU Go.Idl.noGotoI Go.Idl.jumpI
attribute [local go_sem] List.length_set
section
variable {c : Du → Du → Int} {kc : FuncId} (hc : ∀ x y : Du, Idl.Spec Try.prog kc [.agg [.sc (.int .i64 x.id), .sc (.int .i64 x.due)], .agg [.sc (.int .i64 y.id), .sc (.int .i64 y.due)]] [] (Only (.i64 (c x y)) []))
include hc
theorem dorder2_spec (L : List Du) (x y cap s : Nat) (hx : x < L.length) (hy : y < L.length) (hL : L.length ≤ 1000000000) (hs : s ≤ 1000) :
    Idl.Spec Try.prog 96 [.sl 0 0 L.length cap 2, .i64 x, .i64 y, .ptr 1 0, .fn (.func kc) [] []] [.arr false (dues L), .box [.i64 s]]
      (Ex (fun r : Nat × Nat × Nat => ((r.1 = x ∧ r.2.1 = y) ∨ (r.1 = y ∧ r.2.1 = x)) ∧ s ≤ r.2.2 ∧ r.2.2 ≤ s + 1) (fun r => .tup [.i64 r.1, .i64 r.2.1]) (fun r => [.arr false (dues L), .box [.i64 r.2.2]])) := by
  by_cases h : c (gd L y) (gd L x) < 0
  · refine sE Try.func96 Try.ntmps96 ?_
    repeat' (first|refine IOps_nil ?_|refine oS ?_|refine IOps_s rfl rfl ?_|refine oT ?_|refine IOps_s0 rfl ?_|refine oC (π:=[]) (hs:=by first|exact hc _ _|fail) (hx:=?_)|refine oZ ?_|refine oI ?_|refine thenI_n ?_|refine IWP_seq ?_|refine IWP_region ?_|refine IWP_ct rfl ?_|refine IWP_cf rfl ?_|refine IWP_skip ?_|refine IWP_ret ?_|refine IWP_block ?_|refine inB_n ?_|refine thenI_r ?_|refine thenI_e ?_|refine inB_r ?_|refine inB_hit ?_|refine inB_miss rfl ?_|refine IWP_exit ?_|refine IWP_scope ?_|refine IWP_label ?_|refine noG_n ?_|refine noG_r ?_|refine noG_e ?_|refine jmp_n ?_|refine jmp_r ?_|refine jmp_e ?_|refine jmp_g ?_|refine thenI_g ?_|refine inB_g ?_|refine IWP_goto ?_|refine Loop_n ?_|refine oD (id:=1) W96_1 [] O96_1 [_,_,_,_,_,_,_,_,_,_,_] [_] rfl (by repeat' (first|exact trivial|refine And.intro ?_ ?_|exact bS|exact bX|exact bZ|exact bI|exact bC (π:=[]) (hs:=by first|exact hc _ _|fail)|fail)) ?_|fail)
    exact pX [0, 1] (y, x, s + 1) ⟨.inr ⟨rfl, rfl⟩, by simp, by simp⟩ rfl
  · refine sE Try.func96 Try.ntmps96 ?_
    repeat' (first|refine IOps_nil ?_|refine oS ?_|refine IOps_s rfl rfl ?_|refine oT ?_|refine IOps_s0 rfl ?_|refine oC (π:=[]) (hs:=by first|exact hc _ _|fail) (hx:=?_)|refine oZ ?_|refine oI ?_|refine thenI_n ?_|refine IWP_seq ?_|refine IWP_region ?_|refine IWP_ct rfl ?_|refine IWP_cf rfl ?_|refine IWP_skip ?_|refine IWP_ret ?_|refine IWP_block ?_|refine inB_n ?_|refine thenI_r ?_|refine thenI_e ?_|refine inB_r ?_|refine inB_hit ?_|refine inB_miss rfl ?_|refine IWP_exit ?_|refine IWP_scope ?_|refine IWP_label ?_|refine noG_n ?_|refine noG_r ?_|refine noG_e ?_|refine jmp_n ?_|refine jmp_r ?_|refine jmp_e ?_|refine jmp_g ?_|refine thenI_g ?_|refine inB_g ?_|refine IWP_goto ?_|refine Loop_n ?_|refine oD (id:=1) W96_1 [] O96_1 [_,_,_,_,_,_,_,_,_,_,_] [_] rfl (by repeat' (first|exact trivial|refine And.intro ?_ ?_|exact bS|exact bX|exact bZ|exact bI|exact bC (π:=[]) (hs:=by first|exact hc _ _|fail)|fail)) ?_|fail)
    exact pX [0, 1] (x, y, s) ⟨.inl ⟨rfl, rfl⟩, by simp, by simp⟩ rfl

theorem dmedian_spec (L : List Du) (x y z cap s : Nat) (hx : x < L.length) (hy : y < L.length) (hz : z < L.length) (hL : L.length ≤ 1000000000) (hs : s ≤ 900) :
    Idl.Spec Try.prog 94 [.sl 0 0 L.length cap 2, .i64 x, .i64 y, .i64 z, .ptr 1 0, .fn (.func kc) [] []] [.arr false (dues L), .box [.i64 s]]
      (Ex (fun r : Nat × Nat => (r.1 = x ∨ r.1 = y ∨ r.1 = z) ∧ s ≤ r.2 ∧ r.2 ≤ s + 3) (fun r => .i64 r.1) (fun r => [.arr false (dues L), .box [.i64 r.2]])) := by
  refine sE Try.func94 Try.ntmps94 ?_
  repeat' (first|refine IOps_nil ?_|refine oS ?_|refine IOps_s rfl rfl ?_|refine oT ?_|refine IOps_s0 rfl ?_|refine oC (π:=[]) (hs:=by first|exact hc _ _|fail) (hx:=?_)|refine oZ ?_|refine oI ?_|refine thenI_n ?_|refine IWP_seq ?_|refine IWP_region ?_|refine IWP_ct rfl ?_|refine IWP_cf rfl ?_|refine IWP_skip ?_|refine IWP_ret ?_|refine IWP_block ?_|refine inB_n ?_|refine thenI_r ?_|refine thenI_e ?_|refine inB_r ?_|refine inB_hit ?_|refine inB_miss rfl ?_|refine IWP_exit ?_|refine IWP_scope ?_|refine IWP_label ?_|refine noG_n ?_|refine noG_r ?_|refine noG_e ?_|refine jmp_n ?_|refine jmp_r ?_|refine jmp_e ?_|refine jmp_g ?_|refine thenI_g ?_|refine inB_g ?_|refine IWP_goto ?_|refine Loop_n ?_|fail)
  refine oE [0, 1] (hs := dorder2_spec hc L x y cap s hx hy hL (by omega)) (hx := ?_)
  rintro ⟨x1, y1, s1⟩ ⟨hr, hs1, hs2⟩
  simp only at hr hs1 hs2
  repeat' (first|refine IOps_nil ?_|refine oS ?_|refine IOps_s rfl rfl ?_|refine oT ?_|refine IOps_s0 rfl ?_|refine oC (π:=[]) (hs:=by first|exact hc _ _|fail) (hx:=?_)|refine oZ ?_|refine oI ?_|refine thenI_n ?_|refine IWP_seq ?_|refine IWP_region ?_|refine IWP_ct rfl ?_|refine IWP_cf rfl ?_|refine IWP_skip ?_|refine IWP_ret ?_|refine IWP_block ?_|refine inB_n ?_|refine thenI_r ?_|refine thenI_e ?_|refine inB_r ?_|refine inB_hit ?_|refine inB_miss rfl ?_|refine IWP_exit ?_|refine IWP_scope ?_|refine IWP_label ?_|refine noG_n ?_|refine noG_r ?_|refine noG_e ?_|refine jmp_n ?_|refine jmp_r ?_|refine jmp_e ?_|refine jmp_g ?_|refine thenI_g ?_|refine inB_g ?_|refine IWP_goto ?_|refine Loop_n ?_|fail)
  refine oE [0, 1] (hs := dorder2_spec hc L y1 z cap s1 (by omega) hz hL (by omega)) (hx := ?_)
  rintro ⟨y2, z2, s2⟩ ⟨hr2, hs3, hs4⟩
  simp only at hr2 hs3 hs4
  repeat' (first|refine IOps_nil ?_|refine oS ?_|refine IOps_s rfl rfl ?_|refine oT ?_|refine IOps_s0 rfl ?_|refine oC (π:=[]) (hs:=by first|exact hc _ _|fail) (hx:=?_)|refine oZ ?_|refine oI ?_|refine thenI_n ?_|refine IWP_seq ?_|refine IWP_region ?_|refine IWP_ct rfl ?_|refine IWP_cf rfl ?_|refine IWP_skip ?_|refine IWP_ret ?_|refine IWP_block ?_|refine inB_n ?_|refine thenI_r ?_|refine thenI_e ?_|refine inB_r ?_|refine inB_hit ?_|refine inB_miss rfl ?_|refine IWP_exit ?_|refine IWP_scope ?_|refine IWP_label ?_|refine noG_n ?_|refine noG_r ?_|refine noG_e ?_|refine jmp_n ?_|refine jmp_r ?_|refine jmp_e ?_|refine jmp_g ?_|refine thenI_g ?_|refine inB_g ?_|refine IWP_goto ?_|refine Loop_n ?_|fail)
  refine oE [0, 1] (hs := dorder2_spec hc L x1 y2 cap s2 (by omega) (by omega) hL (by omega)) (hx := ?_)
  rintro ⟨x3, y3, s3⟩ ⟨hr3, hs5, hs6⟩
  simp only at hr3 hs5 hs6
  repeat' (first|refine IOps_nil ?_|refine oS ?_|refine IOps_s rfl rfl ?_|refine oT ?_|refine IOps_s0 rfl ?_|refine oC (π:=[]) (hs:=by first|exact hc _ _|fail) (hx:=?_)|refine oZ ?_|refine oI ?_|refine thenI_n ?_|refine IWP_seq ?_|refine IWP_region ?_|refine IWP_ct rfl ?_|refine IWP_cf rfl ?_|refine IWP_skip ?_|refine IWP_ret ?_|refine IWP_block ?_|refine inB_n ?_|refine thenI_r ?_|refine thenI_e ?_|refine inB_r ?_|refine inB_hit ?_|refine inB_miss rfl ?_|refine IWP_exit ?_|refine IWP_scope ?_|refine IWP_label ?_|refine noG_n ?_|refine noG_r ?_|refine noG_e ?_|refine jmp_n ?_|refine jmp_r ?_|refine jmp_e ?_|refine jmp_g ?_|refine thenI_g ?_|refine inB_g ?_|refine IWP_goto ?_|refine Loop_n ?_|fail)
  exact pX [0, 1] (y3, s3) ⟨by simp only; omega, by simp only; omega, by simp only; omega⟩ rfl

theorem dadjacent_spec (L : List Du) (x cap s : Nat) (hx0 : 0 < x) (hx : x + 1 < L.length) (hL : L.length ≤ 1000000000) (hs : s ≤ 900) :
    Idl.Spec Try.prog 93 [.sl 0 0 L.length cap 2, .i64 x, .ptr 1 0, .fn (.func kc) [] []] [.arr false (dues L), .box [.i64 s]]
      (Ex (fun r : Nat × Nat => (r.1 = x - 1 ∨ r.1 = x ∨ r.1 = x + 1) ∧ s ≤ r.2 ∧ r.2 ≤ s + 3) (fun r => .i64 r.1) (fun r => [.arr false (dues L), .box [.i64 r.2]])) := by
  refine sE Try.func93 Try.ntmps93 ?_
  repeat' (first|refine IOps_nil ?_|refine oS ?_|refine IOps_s rfl rfl ?_|refine oT ?_|refine IOps_s0 rfl ?_|refine oC (π:=[]) (hs:=by first|exact hc _ _|fail) (hx:=?_)|refine oZ ?_|refine oI ?_|refine thenI_n ?_|refine IWP_seq ?_|refine IWP_region ?_|refine IWP_ct rfl ?_|refine IWP_cf rfl ?_|refine IWP_skip ?_|refine IWP_ret ?_|refine IWP_block ?_|refine inB_n ?_|refine thenI_r ?_|refine thenI_e ?_|refine inB_r ?_|refine inB_hit ?_|refine inB_miss rfl ?_|refine IWP_exit ?_|refine IWP_scope ?_|refine IWP_label ?_|refine noG_n ?_|refine noG_r ?_|refine noG_e ?_|refine jmp_n ?_|refine jmp_r ?_|refine jmp_e ?_|refine jmp_g ?_|refine thenI_g ?_|refine inB_g ?_|refine IWP_goto ?_|refine Loop_n ?_|fail)
  have hsp := dmedian_spec hc L (x - 1) x (x + 1) cap s (by omega) (by omega) (by omega) hL (by omega)
  rw [show ((x - 1 : Nat) : Int) = (x : Int) - 1 by omega, show ((x + 1 : Nat) : Int) = (x : Int) + 1 by omega] at hsp
  refine oE [0, 1] (hs := hsp) (hx := ?_)
  rintro ⟨y, t⟩ ⟨hr, hs1, hs2⟩
  repeat' (first|refine IOps_nil ?_|refine oS ?_|refine IOps_s rfl rfl ?_|refine oT ?_|refine IOps_s0 rfl ?_|refine oC (π:=[]) (hs:=by first|exact hc _ _|fail) (hx:=?_)|refine oZ ?_|refine oI ?_|refine thenI_n ?_|refine IWP_seq ?_|refine IWP_region ?_|refine IWP_ct rfl ?_|refine IWP_cf rfl ?_|refine IWP_skip ?_|refine IWP_ret ?_|refine IWP_block ?_|refine inB_n ?_|refine thenI_r ?_|refine thenI_e ?_|refine inB_r ?_|refine inB_hit ?_|refine inB_miss rfl ?_|refine IWP_exit ?_|refine IWP_scope ?_|refine IWP_label ?_|refine noG_n ?_|refine noG_r ?_|refine noG_e ?_|refine jmp_n ?_|refine jmp_r ?_|refine jmp_e ?_|refine jmp_g ?_|refine thenI_g ?_|refine inB_g ?_|refine IWP_goto ?_|refine Loop_n ?_|fail)
  exact pX [0, 1] (y, t) ⟨hr, hs1, hs2⟩ rfl

theorem dchoose_spec (L : List Du) (a b cap : Nat) (hab : a < b) (hb : b ≤ L.length) (hL : L.length ≤ 1000000000) :
    Idl.Spec Try.prog 82 [.sl 0 0 L.length cap 2, .i64 a, .i64 b, .fn (.func kc) [] []] [.arr false (dues L)]
      (Ex (fun r : Nat × Int => a ≤ r.1 ∧ r.1 < b) (fun r => .tup [.i64 r.1, .i64 r.2]) (fun _ => [.arr false (dues L)])) := by
  refine sE Try.func82 Try.ntmps82 ?_
  by_cases h8 : 8 ≤ (b : Int) - a
  · by_cases h50 : 50 ≤ (b : Int) - a
    · repeat' (first|refine IOps_nil ?_|refine oS ?_|refine IOps_s rfl rfl ?_|refine oT ?_|refine IOps_s0 rfl ?_|refine oC (π:=[]) (hs:=by first|exact hc _ _|fail) (hx:=?_)|refine oZ ?_|refine oI ?_|refine thenI_n ?_|refine IWP_seq ?_|refine IWP_region ?_|refine IWP_ct rfl ?_|refine IWP_cf rfl ?_|refine IWP_skip ?_|refine IWP_ret ?_|refine IWP_block ?_|refine inB_n ?_|refine thenI_r ?_|refine thenI_e ?_|refine inB_r ?_|refine inB_hit ?_|refine inB_miss rfl ?_|refine IWP_exit ?_|refine IWP_scope ?_|refine IWP_label ?_|refine noG_n ?_|refine noG_r ?_|refine noG_e ?_|refine jmp_n ?_|refine jmp_r ?_|refine jmp_e ?_|refine jmp_g ?_|refine thenI_g ?_|refine inB_g ?_|refine IWP_goto ?_|refine Loop_n ?_|fail)
      have hsp := dadjacent_spec hc L (a + (b - a) / 4 * 1) cap 0 (by omega) (by omega) hL (by omega)
      rw [show ((a + (b - a) / 4 * 1 : Nat) : Int) = (a : Int) + ((b : Int) - a) / 4 * 1 by omega] at hsp
      refine oE [0, 1] (hs := hsp) (hx := ?_)
      rintro ⟨i0, s1⟩ ⟨hr1, ha1, hb1⟩
      simp only at hr1 ha1 hb1
      repeat' (first|refine IOps_nil ?_|refine oS ?_|refine IOps_s rfl rfl ?_|refine oT ?_|refine IOps_s0 rfl ?_|refine oC (π:=[]) (hs:=by first|exact hc _ _|fail) (hx:=?_)|refine oZ ?_|refine oI ?_|refine thenI_n ?_|refine IWP_seq ?_|refine IWP_region ?_|refine IWP_ct rfl ?_|refine IWP_cf rfl ?_|refine IWP_skip ?_|refine IWP_ret ?_|refine IWP_block ?_|refine inB_n ?_|refine thenI_r ?_|refine thenI_e ?_|refine inB_r ?_|refine inB_hit ?_|refine inB_miss rfl ?_|refine IWP_exit ?_|refine IWP_scope ?_|refine IWP_label ?_|refine noG_n ?_|refine noG_r ?_|refine noG_e ?_|refine jmp_n ?_|refine jmp_r ?_|refine jmp_e ?_|refine jmp_g ?_|refine thenI_g ?_|refine inB_g ?_|refine IWP_goto ?_|refine Loop_n ?_|fail)
      have hsp := dadjacent_spec hc L (a + (b - a) / 4 * 2) cap s1 (by omega) (by omega) hL (by omega)
      rw [show ((a + (b - a) / 4 * 2 : Nat) : Int) = (a : Int) + ((b : Int) - a) / 4 * 2 by omega] at hsp
      refine oE [0, 1] (hs := hsp) (hx := ?_)
      rintro ⟨j0, s2⟩ ⟨hr2, ha2, hb2⟩
      simp only at hr2 ha2 hb2
      repeat' (first|refine IOps_nil ?_|refine oS ?_|refine IOps_s rfl rfl ?_|refine oT ?_|refine IOps_s0 rfl ?_|refine oC (π:=[]) (hs:=by first|exact hc _ _|fail) (hx:=?_)|refine oZ ?_|refine oI ?_|refine thenI_n ?_|refine IWP_seq ?_|refine IWP_region ?_|refine IWP_ct rfl ?_|refine IWP_cf rfl ?_|refine IWP_skip ?_|refine IWP_ret ?_|refine IWP_block ?_|refine inB_n ?_|refine thenI_r ?_|refine thenI_e ?_|refine inB_r ?_|refine inB_hit ?_|refine inB_miss rfl ?_|refine IWP_exit ?_|refine IWP_scope ?_|refine IWP_label ?_|refine noG_n ?_|refine noG_r ?_|refine noG_e ?_|refine jmp_n ?_|refine jmp_r ?_|refine jmp_e ?_|refine jmp_g ?_|refine thenI_g ?_|refine inB_g ?_|refine IWP_goto ?_|refine Loop_n ?_|fail)
      have hsp := dadjacent_spec hc L (a + (b - a) / 4 * 3) cap s2 (by omega) (by omega) hL (by omega)
      rw [show ((a + (b - a) / 4 * 3 : Nat) : Int) = (a : Int) + ((b : Int) - a) / 4 * 3 by omega] at hsp
      refine oE [0, 1] (hs := hsp) (hx := ?_)
      rintro ⟨k0, s3⟩ ⟨hr3, ha3, hb3⟩
      simp only at hr3 ha3 hb3
      repeat' (first|refine IOps_nil ?_|refine oS ?_|refine IOps_s rfl rfl ?_|refine oT ?_|refine IOps_s0 rfl ?_|refine oC (π:=[]) (hs:=by first|exact hc _ _|fail) (hx:=?_)|refine oZ ?_|refine oI ?_|refine thenI_n ?_|refine IWP_seq ?_|refine IWP_region ?_|refine IWP_ct rfl ?_|refine IWP_cf rfl ?_|refine IWP_skip ?_|refine IWP_ret ?_|refine IWP_block ?_|refine inB_n ?_|refine thenI_r ?_|refine thenI_e ?_|refine inB_r ?_|refine inB_hit ?_|refine inB_miss rfl ?_|refine IWP_exit ?_|refine IWP_scope ?_|refine IWP_label ?_|refine noG_n ?_|refine noG_r ?_|refine noG_e ?_|refine jmp_n ?_|refine jmp_r ?_|refine jmp_e ?_|refine jmp_g ?_|refine thenI_g ?_|refine inB_g ?_|refine IWP_goto ?_|refine Loop_n ?_|fail)
      have hsp := dmedian_spec hc L (i0) (j0) (k0) cap s3 (by omega) (by omega) (by omega) hL (by omega)
      refine oE [0, 1] (hs := hsp) (hx := ?_)
      rintro ⟨j, t⟩ ⟨hr, hs1, hs2⟩
      simp only at hr hs1 hs2
      have hj : a ≤ j ∧ j < b := by omega
      by_cases ht0 : t = 0
      · subst ht0
        repeat' (first|refine IOps_nil ?_|refine oS ?_|refine IOps_s rfl rfl ?_|refine oT ?_|refine IOps_s0 rfl ?_|refine oC (π:=[]) (hs:=by first|exact hc _ _|fail) (hx:=?_)|refine oZ ?_|refine oI ?_|refine thenI_n ?_|refine IWP_seq ?_|refine IWP_region ?_|refine IWP_ct rfl ?_|refine IWP_cf rfl ?_|refine IWP_skip ?_|refine IWP_ret ?_|refine IWP_block ?_|refine inB_n ?_|refine thenI_r ?_|refine thenI_e ?_|refine inB_r ?_|refine inB_hit ?_|refine inB_miss rfl ?_|refine IWP_exit ?_|refine IWP_scope ?_|refine IWP_label ?_|refine noG_n ?_|refine noG_r ?_|refine noG_e ?_|refine jmp_n ?_|refine jmp_r ?_|refine jmp_e ?_|refine jmp_g ?_|refine thenI_g ?_|refine inB_g ?_|refine IWP_goto ?_|refine Loop_n ?_|fail)
        exact pX [0] (j, 1) hj rfl
      · by_cases ht : t = 12
        · subst ht
          repeat' (first|refine IOps_nil ?_|refine oS ?_|refine IOps_s rfl rfl ?_|refine oT ?_|refine IOps_s0 rfl ?_|refine oC (π:=[]) (hs:=by first|exact hc _ _|fail) (hx:=?_)|refine oZ ?_|refine oI ?_|refine thenI_n ?_|refine IWP_seq ?_|refine IWP_region ?_|refine IWP_ct rfl ?_|refine IWP_cf rfl ?_|refine IWP_skip ?_|refine IWP_ret ?_|refine IWP_block ?_|refine inB_n ?_|refine thenI_r ?_|refine thenI_e ?_|refine inB_r ?_|refine inB_hit ?_|refine inB_miss rfl ?_|refine IWP_exit ?_|refine IWP_scope ?_|refine IWP_label ?_|refine noG_n ?_|refine noG_r ?_|refine noG_e ?_|refine jmp_n ?_|refine jmp_r ?_|refine jmp_e ?_|refine jmp_g ?_|refine thenI_g ?_|refine inB_g ?_|refine IWP_goto ?_|refine Loop_n ?_|fail)
          exact pX [0] (j, 2) hj rfl
        · repeat' (first|refine IOps_nil ?_|refine oS ?_|refine IOps_s rfl rfl ?_|refine oT ?_|refine IOps_s0 rfl ?_|refine oC (π:=[]) (hs:=by first|exact hc _ _|fail) (hx:=?_)|refine oZ ?_|refine oI ?_|refine thenI_n ?_|refine IWP_seq ?_|refine IWP_region ?_|refine IWP_ct rfl ?_|refine IWP_cf rfl ?_|refine IWP_skip ?_|refine IWP_ret ?_|refine IWP_block ?_|refine inB_n ?_|refine thenI_r ?_|refine thenI_e ?_|refine inB_r ?_|refine inB_hit ?_|refine inB_miss rfl ?_|refine IWP_exit ?_|refine IWP_scope ?_|refine IWP_label ?_|refine noG_n ?_|refine noG_r ?_|refine noG_e ?_|refine jmp_n ?_|refine jmp_r ?_|refine jmp_e ?_|refine jmp_g ?_|refine thenI_g ?_|refine inB_g ?_|refine IWP_goto ?_|refine Loop_n ?_|fail)
          exact pX [0] (j, 0) hj rfl
    · repeat' (first|refine IOps_nil ?_|refine oS ?_|refine IOps_s rfl rfl ?_|refine oT ?_|refine IOps_s0 rfl ?_|refine oC (π:=[]) (hs:=by first|exact hc _ _|fail) (hx:=?_)|refine oZ ?_|refine oI ?_|refine thenI_n ?_|refine IWP_seq ?_|refine IWP_region ?_|refine IWP_ct rfl ?_|refine IWP_cf rfl ?_|refine IWP_skip ?_|refine IWP_ret ?_|refine IWP_block ?_|refine inB_n ?_|refine thenI_r ?_|refine thenI_e ?_|refine inB_r ?_|refine inB_hit ?_|refine inB_miss rfl ?_|refine IWP_exit ?_|refine IWP_scope ?_|refine IWP_label ?_|refine noG_n ?_|refine noG_r ?_|refine noG_e ?_|refine jmp_n ?_|refine jmp_r ?_|refine jmp_e ?_|refine jmp_g ?_|refine thenI_g ?_|refine inB_g ?_|refine IWP_goto ?_|refine Loop_n ?_|fail)
      have hsp := dmedian_spec hc L (a + (b - a) / 4 * 1) (a + (b - a) / 4 * 2) (a + (b - a) / 4 * 3) cap 0 (by omega) (by omega) (by omega) hL (by omega)
      rw [show ((a + (b - a) / 4 * 1 : Nat) : Int) = (a : Int) + ((b : Int) - a) / 4 * 1 by omega, show ((a + (b - a) / 4 * 2 : Nat) : Int) = (a : Int) + ((b : Int) - a) / 4 * 2 by omega, show ((a + (b - a) / 4 * 3 : Nat) : Int) = (a : Int) + ((b : Int) - a) / 4 * 3 by omega] at hsp
      refine oE [0, 1] (hs := hsp) (hx := ?_)
      rintro ⟨j, t⟩ ⟨hr, hs1, hs2⟩
      simp only at hr hs1 hs2
      have hj : a ≤ j ∧ j < b := by omega
      by_cases ht0 : t = 0
      · subst ht0
        repeat' (first|refine IOps_nil ?_|refine oS ?_|refine IOps_s rfl rfl ?_|refine oT ?_|refine IOps_s0 rfl ?_|refine oC (π:=[]) (hs:=by first|exact hc _ _|fail) (hx:=?_)|refine oZ ?_|refine oI ?_|refine thenI_n ?_|refine IWP_seq ?_|refine IWP_region ?_|refine IWP_ct rfl ?_|refine IWP_cf rfl ?_|refine IWP_skip ?_|refine IWP_ret ?_|refine IWP_block ?_|refine inB_n ?_|refine thenI_r ?_|refine thenI_e ?_|refine inB_r ?_|refine inB_hit ?_|refine inB_miss rfl ?_|refine IWP_exit ?_|refine IWP_scope ?_|refine IWP_label ?_|refine noG_n ?_|refine noG_r ?_|refine noG_e ?_|refine jmp_n ?_|refine jmp_r ?_|refine jmp_e ?_|refine jmp_g ?_|refine thenI_g ?_|refine inB_g ?_|refine IWP_goto ?_|refine Loop_n ?_|fail)
        exact pX [0] (j, 1) hj rfl
      · have ht : t ≠ 12 := by omega
        repeat' (first|refine IOps_nil ?_|refine oS ?_|refine IOps_s rfl rfl ?_|refine oT ?_|refine IOps_s0 rfl ?_|refine oC (π:=[]) (hs:=by first|exact hc _ _|fail) (hx:=?_)|refine oZ ?_|refine oI ?_|refine thenI_n ?_|refine IWP_seq ?_|refine IWP_region ?_|refine IWP_ct rfl ?_|refine IWP_cf rfl ?_|refine IWP_skip ?_|refine IWP_ret ?_|refine IWP_block ?_|refine inB_n ?_|refine thenI_r ?_|refine thenI_e ?_|refine inB_r ?_|refine inB_hit ?_|refine inB_miss rfl ?_|refine IWP_exit ?_|refine IWP_scope ?_|refine IWP_label ?_|refine noG_n ?_|refine noG_r ?_|refine noG_e ?_|refine jmp_n ?_|refine jmp_r ?_|refine jmp_e ?_|refine jmp_g ?_|refine thenI_g ?_|refine inB_g ?_|refine IWP_goto ?_|refine Loop_n ?_|fail)
        exact pX [0] (j, 0) hj rfl
  · repeat' (first|refine IOps_nil ?_|refine oS ?_|refine IOps_s rfl rfl ?_|refine oT ?_|refine IOps_s0 rfl ?_|refine oC (π:=[]) (hs:=by first|exact hc _ _|fail) (hx:=?_)|refine oZ ?_|refine oI ?_|refine thenI_n ?_|refine IWP_seq ?_|refine IWP_region ?_|refine IWP_ct rfl ?_|refine IWP_cf rfl ?_|refine IWP_skip ?_|refine IWP_ret ?_|refine IWP_block ?_|refine inB_n ?_|refine thenI_r ?_|refine thenI_e ?_|refine inB_r ?_|refine inB_hit ?_|refine inB_miss rfl ?_|refine IWP_exit ?_|refine IWP_scope ?_|refine IWP_label ?_|refine noG_n ?_|refine noG_r ?_|refine noG_e ?_|refine jmp_n ?_|refine jmp_r ?_|refine jmp_e ?_|refine jmp_g ?_|refine thenI_g ?_|refine inB_g ?_|refine IWP_goto ?_|refine Loop_n ?_|fail)
    exact pX [0] (a + (b - a) / 4 * 2, 1) ⟨by simp only; omega, by simp only; omega⟩ (congrArg (fun z : Int => IV.tup [.i64 z, .i64 1]) (show (a : Int) + ((b : Int) - a) / 4 * 2 = ((a + (b - a) / 4 * 2 : Nat) : Int) by omega))
end
end Go.Proofs.Ytnlelckfhlcbgaa

namespace Go.Proofs.Ytnlelckfhlcbgaa
open Go Go.Idl
set_option linter.unusedSimpArgs false
set_option linter.unusedVariables false
set_option linter.unusedSectionVars false
set_option maxRecDepth 100000
set_option maxHeartbeats 1000000
attribute [local irreducible] Go.Idl.IWP Go.Idl.IOps Go.Idl.Obl Go.Idl.OpG Go.Idl.thenI Go.Idl.inBlockI Go.Idl.LoopU Go.Idl.noGotoI Go.Idl.jumpI
attribute [local go_sem] List.length_set an_eq
section
variable {c : Du → Du → Int} {kc : FuncId} (hc : ∀ x y : Du, Idl.Spec Try.prog kc [.agg [.sc (.int .i64 x.id), .sc (.int .i64 x.due)], .agg [.sc (.int .i64 y.id), .sc (.int .i64 y.due)]] [] (Only (.i64 (c x y)) []))
include hc
theorem dbreak_spec (L : List Du) (a b cap : Nat) (hab : a ≤ b) (hb : b ≤ L.length) (hL : L.length ≤ 250) :
    Idl.Spec Try.prog 81 [.sl 0 0 L.length cap 2, .i64 a, .i64 b, .fn (.func kc) [] []] [.arr false (dues L)]
      (Ex (fun M : List Du => PS a b L M) (fun _ => .tup []) (fun M => [.arr false (dues M)])) := by
  refine sE Try.func81 Try.ntmps81 ?_
  by_cases h8 : 8 ≤ (b : Int) - a
  · repeat' (first|refine IOps_nil ?_|refine oS ?_|refine IOps_s rfl rfl ?_|refine oT ?_|refine IOps_s0 rfl ?_|refine oC (π:=[]) (hs:=by first|exact hc _ _|fail) (hx:=?_)|refine oZ ?_|refine oI ?_|refine thenI_n ?_|refine IWP_seq ?_|refine IWP_region ?_|refine IWP_ct rfl ?_|refine IWP_cf rfl ?_|refine IWP_skip ?_|refine IWP_ret ?_|refine IWP_block ?_|refine inB_n ?_|refine thenI_r ?_|refine thenI_e ?_|refine inB_r ?_|refine inB_hit ?_|refine inB_miss rfl ?_|refine IWP_exit ?_|refine IWP_scope ?_|refine IWP_label ?_|refine noG_n ?_|refine noG_r ?_|refine noG_e ?_|refine jmp_n ?_|refine jmp_r ?_|refine jmp_e ?_|refine jmp_g ?_|refine thenI_g ?_|refine inB_g ?_|refine IWP_goto ?_|refine Loop_n ?_|refine oD (id:=10) W81_10 [17, 19] O81_10 [_,_,_,_,_,_,_,_,_,_,_,_,_,_,_,_,_,_,_,_] [_,_,_] rfl (by repeat' (first|exact trivial|refine And.intro ?_ ?_|exact bS|exact bX|exact bZ|exact bI|exact bC (π:=[]) (hs:=by first|exact hc _ _|fail)|fail)) ?_|fail)
    have hsp := power_spec (b - a) (by omega) (by omega)
    rw [show ((b - a : Nat) : Int) = (b : Int) - a by omega] at hsp
    refine oE [] (hs := hsp) (hx := ?_)
    rintro m ⟨hm1, hm2⟩
    repeat' (first|refine IOps_nil ?_|refine oS ?_|refine IOps_s rfl rfl ?_|refine oT ?_|refine IOps_s0 rfl ?_|refine oC (π:=[]) (hs:=by first|exact hc _ _|fail) (hx:=?_)|refine oZ ?_|refine oI ?_|refine thenI_n ?_|refine IWP_seq ?_|refine IWP_region ?_|refine IWP_ct rfl ?_|refine IWP_cf rfl ?_|refine IWP_skip ?_|refine IWP_ret ?_|refine IWP_block ?_|refine inB_n ?_|refine thenI_r ?_|refine thenI_e ?_|refine inB_r ?_|refine inB_hit ?_|refine inB_miss rfl ?_|refine IWP_exit ?_|refine IWP_scope ?_|refine IWP_label ?_|refine noG_n ?_|refine noG_r ?_|refine noG_e ?_|refine jmp_n ?_|refine jmp_r ?_|refine jmp_e ?_|refine jmp_g ?_|refine thenI_g ?_|refine inB_g ?_|refine IWP_goto ?_|refine Loop_n ?_|refine oD (id:=10) W81_10 [17, 19] O81_10 [_,_,_,_,_,_,_,_,_,_,_,_,_,_,_,_,_,_,_,_] [_,_,_] rfl (by repeat' (first|exact trivial|refine And.intro ?_ ?_|exact bS|exact bX|exact bZ|exact bI|exact bC (π:=[]) (hs:=by first|exact hc _ _|fail)|fail)) ?_|fail)
    refine IWP_loop (fun x : List Du × Int × Nat => ⟨67, [(0, .sl 0 0 L.length cap 2), (1, .i64 a), (2, .i64 b), (8, .i64 ((b : Int) - a)), (9, .ptr 1 0), (10, .sc (.int .u64 m)), (11, .i64 x.2.2)], [.arr false (dues x.1), .box [.sc (.int .u64 x.2.1)]]⟩)
      (fun x => PS a b L x.1 ∧ a ≤ x.2.2 ∧ x.2.2 ≤ a + (b - a) / 4 * 2 + 2) (fun x => a + (b - a) / 4 * 2 + 2 - x.2.2) (L, (b : Int) - a, a + (b - a) / 4 * 2 - 1) (lP [0, 1]) ⟨.refl _ _ _, by simp only; omega, by simp only; omega⟩ ?_
    rintro ⟨M, x, p⟩ ⟨hp, h1, h2⟩
    replace hp : PS a b L M := hp
    have hl := hp.len
    simp only at h1 h2 ⊢
    by_cases hg : p ≤ a + (b - a) / 4 * 2 + 1
    · repeat' (first|refine IOps_nil ?_|refine oS ?_|refine IOps_s rfl rfl ?_|refine oT ?_|refine IOps_s0 rfl ?_|refine oC (π:=[]) (hs:=by first|exact hc _ _|fail) (hx:=?_)|refine oZ ?_|refine oI ?_|refine thenI_n ?_|refine IWP_seq ?_|refine IWP_region ?_|refine IWP_ct rfl ?_|refine IWP_cf rfl ?_|refine IWP_skip ?_|refine IWP_ret ?_|refine IWP_block ?_|refine inB_n ?_|refine thenI_r ?_|refine thenI_e ?_|refine inB_r ?_|refine inB_hit ?_|refine inB_miss rfl ?_|refine IWP_exit ?_|refine IWP_scope ?_|refine IWP_label ?_|refine noG_n ?_|refine noG_r ?_|refine noG_e ?_|refine jmp_n ?_|refine jmp_r ?_|refine jmp_e ?_|refine jmp_g ?_|refine thenI_g ?_|refine inB_g ?_|refine IWP_goto ?_|refine Loop_n ?_|refine oD (id:=10) W81_10 [17, 19] O81_10 [_,_,_,_,_,_,_,_,_,_,_,_,_,_,_,_,_,_,_,_] [_,_,_] rfl (by repeat' (first|exact trivial|refine And.intro ?_ ?_|exact bS|exact bX|exact bZ|exact bI|exact bC (π:=[]) (hs:=by first|exact hc _ _|fail)|fail)) ?_|fail)
      refine oE [1] (hs := next_spec x) (hx := ?_)
      rintro y ⟨hy1, hy2⟩
      have hr := an_le y (m - 1) (by omega)
      rw [show ((m - 1 : Nat) : Int) = (m : Int) - 1 by omega] at hr
      by_cases ho : (b : Int) - a ≤ an y ((m : Int) - 1)
      · repeat' (first|refine IOps_nil ?_|refine oS ?_|refine IOps_s rfl rfl ?_|refine oT ?_|refine IOps_s0 rfl ?_|refine oC (π:=[]) (hs:=by first|exact hc _ _|fail) (hx:=?_)|refine oZ ?_|refine oI ?_|refine thenI_n ?_|refine IWP_seq ?_|refine IWP_region ?_|refine IWP_ct rfl ?_|refine IWP_cf rfl ?_|refine IWP_skip ?_|refine IWP_ret ?_|refine IWP_block ?_|refine inB_n ?_|refine thenI_r ?_|refine thenI_e ?_|refine inB_r ?_|refine inB_hit ?_|refine inB_miss rfl ?_|refine IWP_exit ?_|refine IWP_scope ?_|refine IWP_label ?_|refine noG_n ?_|refine noG_r ?_|refine noG_e ?_|refine jmp_n ?_|refine jmp_r ?_|refine jmp_e ?_|refine jmp_g ?_|refine thenI_g ?_|refine inB_g ?_|refine IWP_goto ?_|refine Loop_n ?_|refine oD (id:=10) W81_10 [17, 19] O81_10 [_,_,_,_,_,_,_,_,_,_,_,_,_,_,_,_,_,_,_,_] [_,_,_] rfl (by repeat' (first|exact trivial|refine And.intro ?_ ?_|exact bS|exact bX|exact bZ|exact bI|exact bC (π:=[]) (hs:=by first|exact hc _ _|fail)|fail)) ?_|fail)
        exact ⟨(sw M p (((a : Int) + ((an y ((m : Int) - 1) : Int) - ((b : Int) - a))).toNat), y, p + 1), ⟨hp.trans (.sw (by omega) (by omega) (by omega) (by omega) (by omega)), by simp only; omega, by simp only; omega⟩, by simp only; omega, lP [0, 1]⟩
      · repeat' (first|refine IOps_nil ?_|refine oS ?_|refine IOps_s rfl rfl ?_|refine oT ?_|refine IOps_s0 rfl ?_|refine oC (π:=[]) (hs:=by first|exact hc _ _|fail) (hx:=?_)|refine oZ ?_|refine oI ?_|refine thenI_n ?_|refine IWP_seq ?_|refine IWP_region ?_|refine IWP_ct rfl ?_|refine IWP_cf rfl ?_|refine IWP_skip ?_|refine IWP_ret ?_|refine IWP_block ?_|refine inB_n ?_|refine thenI_r ?_|refine thenI_e ?_|refine inB_r ?_|refine inB_hit ?_|refine inB_miss rfl ?_|refine IWP_exit ?_|refine IWP_scope ?_|refine IWP_label ?_|refine noG_n ?_|refine noG_r ?_|refine noG_e ?_|refine jmp_n ?_|refine jmp_r ?_|refine jmp_e ?_|refine jmp_g ?_|refine thenI_g ?_|refine inB_g ?_|refine IWP_goto ?_|refine Loop_n ?_|refine oD (id:=10) W81_10 [17, 19] O81_10 [_,_,_,_,_,_,_,_,_,_,_,_,_,_,_,_,_,_,_,_] [_,_,_] rfl (by repeat' (first|exact trivial|refine And.intro ?_ ?_|exact bS|exact bX|exact bZ|exact bI|exact bC (π:=[]) (hs:=by first|exact hc _ _|fail)|fail)) ?_|fail)
        exact ⟨(sw M p (a + an y ((m : Int) - 1)), y, p + 1), ⟨hp.trans (.sw (by omega) (by omega) (by omega) (by omega) (by omega)), by simp only; omega, by simp only; omega⟩, by simp only; omega, lP [0, 1]⟩
    · repeat' (first|refine IOps_nil ?_|refine oS ?_|refine IOps_s rfl rfl ?_|refine oT ?_|refine IOps_s0 rfl ?_|refine oC (π:=[]) (hs:=by first|exact hc _ _|fail) (hx:=?_)|refine oZ ?_|refine oI ?_|refine thenI_n ?_|refine IWP_seq ?_|refine IWP_region ?_|refine IWP_ct rfl ?_|refine IWP_cf rfl ?_|refine IWP_skip ?_|refine IWP_ret ?_|refine IWP_block ?_|refine inB_n ?_|refine thenI_r ?_|refine thenI_e ?_|refine inB_r ?_|refine inB_hit ?_|refine inB_miss rfl ?_|refine IWP_exit ?_|refine IWP_scope ?_|refine IWP_label ?_|refine noG_n ?_|refine noG_r ?_|refine noG_e ?_|refine jmp_n ?_|refine jmp_r ?_|refine jmp_e ?_|refine jmp_g ?_|refine thenI_g ?_|refine inB_g ?_|refine IWP_goto ?_|refine Loop_n ?_|refine oD (id:=10) W81_10 [17, 19] O81_10 [_,_,_,_,_,_,_,_,_,_,_,_,_,_,_,_,_,_,_,_] [_,_,_] rfl (by repeat' (first|exact trivial|refine And.intro ?_ ?_|exact bS|exact bX|exact bZ|exact bI|exact bC (π:=[]) (hs:=by first|exact hc _ _|fail)|fail)) ?_|fail)
      exact pX [0] M hp rfl
  · repeat' (first|refine IOps_nil ?_|refine oS ?_|refine IOps_s rfl rfl ?_|refine oT ?_|refine IOps_s0 rfl ?_|refine oC (π:=[]) (hs:=by first|exact hc _ _|fail) (hx:=?_)|refine oZ ?_|refine oI ?_|refine thenI_n ?_|refine IWP_seq ?_|refine IWP_region ?_|refine IWP_ct rfl ?_|refine IWP_cf rfl ?_|refine IWP_skip ?_|refine IWP_ret ?_|refine IWP_block ?_|refine inB_n ?_|refine thenI_r ?_|refine thenI_e ?_|refine inB_r ?_|refine inB_hit ?_|refine inB_miss rfl ?_|refine IWP_exit ?_|refine IWP_scope ?_|refine IWP_label ?_|refine noG_n ?_|refine noG_r ?_|refine noG_e ?_|refine jmp_n ?_|refine jmp_r ?_|refine jmp_e ?_|refine jmp_g ?_|refine thenI_g ?_|refine inB_g ?_|refine IWP_goto ?_|refine Loop_n ?_|refine oD (id:=10) W81_10 [17, 19] O81_10 [_,_,_,_,_,_,_,_,_,_,_,_,_,_,_,_,_,_,_,_] [_,_,_] rfl (by repeat' (first|exact trivial|refine And.intro ?_ ?_|exact bS|exact bX|exact bZ|exact bI|exact bC (π:=[]) (hs:=by first|exact hc _ _|fail)|fail)) ?_|fail)
    exact pX [0] L (.refl _ _ _) rfl
end
end Go.Proofs.Ytnlelckfhlcbgaa
