/-
  Sorting, at records.
-/
import Derived.Test.YtnlelckfhlcbgaaChecked
import Derived.Test.YtnlelckfhlcbgaaIdlSeg
import Derived.Test.YtnlelckfhlcbgaaPlan
namespace Go.Proofs.Ytnlelckfhlcbgaa
open Go Go.Idl
set_option linter.unusedSimpArgs false
set_option linter.unusedVariables false
set_option maxRecDepth 100000
set_option maxHeartbeats 1000000
attribute [local irreducible] Go.Idl.IWP Go.Idl.IOps Go.Idl.Obl Go.Idl.OpG Go.Idl.thenI Go.Idl.inBlockI Go.Idl.LoopU Go.Idl.noGotoI Go.Idl.jumpI
--DEF TY=linhay/api.Item
def T : TT := [(3, { size := 1, bytes := 8, zero := [.int .i64], kind := .int .i64 }),
  (4, { size := 1, bytes := 1, zero := [.bool], kind := .bool }),
  (5, { size := 1, bytes := 1, zero := [.int .u8], kind := .int .u8 }),
  (64, { size := 1, bytes := 4, zero := [.int .u32], kind := .int .u32 }),
  (23, { size := 1, bytes := 8, zero := [.int .u64], kind := .int .u64 }),
  (9, { size := 1, bytes := 16, zero := [.str], kind := .str }),
  (25, { size := 3, bytes := 24, zero := [.int .i64, .int .u64, .int .u64], kind := .strct [(0, 3), (1, 23), (2, 23)] }),
  (22, { size := 1, bytes := 24, zero := [.slc], kind := .slc 25 }),
  (86, { size := 2, bytes := 16, zero := [.int .i64, .int .i64], kind := .strct [(0, 3), (1, 3)] }),
  (52, { size := 1, bytes := 24, zero := [.slc], kind := .slc 86 }),
  (97, { size := 1, bytes := 8, zero := [.int .u64], kind := .int .u64 }),
  (116, { size := 1, bytes := 8, zero := [.int .u64], kind := .int .u64 }),
  (76, { size := 64, bytes := 64, zero := [.bool, .bool, .bool, .bool, .bool, .bool, .bool, .bool, .bool, .bool, .bool, .bool, .bool, .bool, .bool, .bool, .bool, .bool, .bool, .bool, .bool, .bool, .bool, .bool, .bool, .bool, .bool, .bool, .bool, .bool, .bool, .bool, .bool, .bool, .bool, .bool, .bool, .bool, .bool, .bool, .bool, .bool, .bool, .bool, .bool, .bool, .bool, .bool, .bool, .bool, .bool, .bool, .bool, .bool, .bool, .bool, .bool, .bool, .bool, .bool, .bool, .bool, .bool, .bool], kind := .arr 64 4 }),
  (81, { size := 1, bytes := 24, zero := [.slc], kind := .slc 25 }),
  (36, { size := 1, bytes := 8, zero := [.int .i64], kind := .int .i64 }),
  (41, { size := 4, bytes := 32, zero := [.bool, .int .i64, .int .u64, .int .u64], kind := .strct [(0, 4), (1, 25)] }),
  (35, { size := 1, bytes := 24, zero := [.slc], kind := .slc 41 }),
  (59, { size := 3, bytes := 24, zero := [.int .i64, .int .i64, .int .i64], kind := .strct [(0, 3), (1, 3), (2, 3)] }),
  (51, { size := 1, bytes := 24, zero := [.slc], kind := .slc 59 }),
  (54, { size := 2, bytes := 32, zero := [.int .i64, .slc], kind := .strct [(0, 3), (1, 52)] }),
  (55, { size := 1, bytes := 24, zero := [.slc], kind := .slc 3 }),
  (98, { size := 1, bytes := 24, zero := [.slc], kind := .slc 82 }),
  (82, { size := 1, bytes := 8, zero := [.fn], kind := .fnc }),
  (102, { size := 1, bytes := 8, zero := [.int .i64], kind := .int .i64 })]
theorem tok : TOk Try.prog T := TOk.of (by kernel_rfl)
attribute [local go_sem] List.length_set
structure It where
  id : Int
  pri : Int
  seq : Int
  deriving DecidableEq
instance : Inhabited It := ⟨⟨0, 0, 0⟩⟩
def itRc : Rc It := ⟨fun x => [.sc (.int .i64 x.id), .sc (.int .u64 x.pri), .sc (.int .u64 x.seq)], 3, fun _ => rfl⟩
def items (l : List It) : List IV := fl itRc l
section
variable {l a b : List It} {i n : Nat}
theorem items_length : (items l).length = l.length * 3 := fl_length itRc l
theorem items_drop : (items l).drop (n * 3) = items (l.drop n) := fl_drop itRc l n
theorem items_take : (items l).take (n * 3) = items (l.take n) := fl_take itRc l n
theorem items_app : items a ++ items b = items (a ++ b) := fl_app itRc a b
theorem items_one {v0 : Int} {v1 : Int} {v2 : Int} : items [⟨v0, v1, v2⟩] = [.sc (.int .i64 v0), .sc (.int .u64 v1), .sc (.int .u64 v2)] := rfl
theorem items_nil : items [] = [] := rfl
theorem items_snoc {v0 : Int} {v1 : Int} {v2 : Int} : items a ++ [.sc (.int .i64 v0), .sc (.int .u64 v1), .sc (.int .u64 v2)] = items (a ++ [⟨v0, v1, v2⟩]) := fl_app itRc a [⟨v0, v1, v2⟩]
theorem items_part (h : i < l.length) : (items (l.drop i)).take 3 = [.sc (.int .i64 (l.getD i default).id), .sc (.int .u64 (l.getD i default).pri), .sc (.int .u64 (l.getD i default).seq)] := by rw [← items_drop]; exact fl_part itRc h
theorem items_part0 (h : 0 < l.length) : (items l).take 3 = [.sc (.int .i64 (l.getD 0 default).id), .sc (.int .u64 (l.getD 0 default).pri), .sc (.int .u64 (l.getD 0 default).seq)] := by have := items_part h; rwa [List.drop_zero] at this
theorem items_get0 (h : i < l.length) : (items l).getD (i * 3) .any = .sc (.int .i64 (l.getD i default).id) := fl_get itRc (j := 0) h (by decide)
theorem items_set0 (h : i < l.length) {v : Int} : (items l).set (i * 3) (.sc (.int .i64 v)) = items (l.set i ⟨v, (l.getD i default).pri, (l.getD i default).seq⟩) := fl_set itRc h (j := 0) (by decide) _ _ rfl
theorem items_get1 (h : i < l.length) : (items l).getD (i * 3 + 1) .any = .sc (.int .u64 (l.getD i default).pri) := fl_get itRc (j := 1) h (by decide)
theorem items_set1 (h : i < l.length) {v : Int} : (items l).set (i * 3 + 1) (.sc (.int .u64 v)) = items (l.set i ⟨(l.getD i default).id, v, (l.getD i default).seq⟩) := fl_set itRc h (j := 1) (by decide) _ _ rfl
theorem items_get2 (h : i < l.length) : (items l).getD (i * 3 + 2) .any = .sc (.int .u64 (l.getD i default).seq) := fl_get itRc (j := 2) h (by decide)
theorem items_set2 (h : i < l.length) {v : Int} : (items l).set (i * 3 + 2) (.sc (.int .u64 v)) = items (l.set i ⟨(l.getD i default).id, (l.getD i default).pri, v⟩) := fl_set itRc h (j := 2) (by decide) _ _ rfl
theorem items_splice (h : i < l.length) {v0 : Int} {v1 : Int} {v2 : Int} : splice (items l) (i * 3) [.sc (.int .i64 v0), .sc (.int .u64 v1), .sc (.int .u64 v2)] = items (l.set i ⟨v0, v1, v2⟩) := fl_splice itRc h ⟨v0, v1, v2⟩
theorem items_zeros : zrep n [.sc (.int .i64 0), .sc (.int .u64 0), .sc (.int .u64 0)] = items (List.replicate n default) := fl_zeros itRc default n (by decide)
theorem items_closed : IV.closedL (items l) = true := fl_closed itRc (fun _ => rfl) l
theorem items_ones : IV.ones (items l) = true := fl_ones itRc (fun _ => rfl) l
theorem items_fresh : IV.freshL (items l) = true := fl_fresh itRc (fun _ => rfl) l
theorem items_relab : IV.relabL (items l) = items l := fl_relab itRc (fun _ => by simp [itRc, IV.relabL, IV.relab, IV.str]) l
theorem items_ren {σ : Nat → Option Nat} : IV.renL σ (items l) = items l := fl_ren itRc (fun _ => by simp [itRc, IV.renL, IV.ren, IV.str]) l
end
attribute [go_sem] items_length items_drop items_take items_app items_snoc items_part items_part0 items_get0 items_set0 items_get1 items_set1 items_get2 items_set2 items_zeros items_closed items_ones items_fresh items_relab items_ren
attribute [go_sem] items_splice

/-! ### Sorting items -/
def itl (x : It) (y : It → It → Int) (z : It) : Bool := decide (y x z < 0)
section
variable {c : It → It → Int} {kc : FuncId} (hc : ∀ x y : It, Idl.Spec Try.prog kc [.agg [.sc (.int .i64 x.id), .sc (.int .u64 x.pri), .sc (.int .u64 x.seq)], .agg [.sc (.int .i64 y.id), .sc (.int .u64 y.pri), .sc (.int .u64 y.seq)]] [] (Only (.i64 (c x y)) []))
include hc

theorem isort_spec (L : List It) (a b cap : Nat) (oc : OrdL fun x y => decide (c x y < 0)) (hab : a ≤ b) (hb : b ≤ L.length) (hL : L.length ≤ 1000000000) :
    Idl.Spec Try.prog 68 [.sl 0 0 L.length cap 3, .i64 a, .i64 b, .fn (.func kc) [] []] [.arr false (items L)]
      (Ex (fun M : List It => PS a b L M ∧ SS (fun x y => decide (c x y < 0)) a b M) (fun _ => .tup []) (fun M => [.arr false (items M)])) := by
  refine sE Try.func68 Try.ntmps68 ?_
  repeat' (first
    | refine IOps_nil ?_
    | refine oS ?_
    | refine IOps_s rfl rfl ?_
    | refine oT ?_
    | refine IOps_s0 rfl ?_
    | refine oZ ?_
    | refine oI ?_
    | refine thenI_n ?_
    | refine IWP_seq ?_
    | refine IWP_region ?_
    | refine IWP_ct rfl ?_
    | refine IWP_cf rfl ?_
    | refine IWP_skip ?_
    | refine IWP_ret ?_
    | refine IWP_block ?_
    | refine inB_n ?_
    | refine thenI_r ?_
    | refine thenI_e ?_
    | refine inB_r ?_
    | refine inB_hit ?_
    | refine inB_miss rfl ?_
    | refine IWP_exit ?_
    | refine IWP_scope ?_
    | refine IWP_label ?_
    | refine noG_n ?_
    | refine noG_r ?_
    | refine noG_e ?_
    | refine jmp_n ?_
    | refine jmp_r ?_
    | refine jmp_e ?_
    | refine jmp_g ?_
    | refine thenI_g ?_
    | refine inB_g ?_
    | refine IWP_goto ?_
    | refine Loop_n ?_
    | refine oD (id := 4) W68_4 [] O68_4 [_, _, _, _, _, _, _, _, _, _, _, _, _, _, _, _, _] [_] rfl (by repeat' (first | exact trivial | refine And.intro ?_ ?_ | exact bS | exact bX | exact bZ | exact bI | fail)) ?_
    | refine oD (id := 6) W68_6 [15, 17] O68_6 [_, _, _, _, _, _, _, _, _, _, _, _, _, _, _, _, _, _] [_, _, _] rfl (by repeat' (first | exact trivial | refine And.intro ?_ ?_ | exact bS | exact bX | exact bZ | exact bI | fail)) ?_
    | fail)
  refine IWP_loop (fun x : List It × Nat => ⟨53, [(0, .sl 0 0 L.length cap 3), (1, .i64 a), (2, .i64 b), (3, .fn (.func kc) [] []), (8, .i64 x.2)], [.arr false (items x.1)]⟩)
    (fun x => PS a b L x.1 ∧ SS (fun x y => decide (c x y < 0)) a x.2 x.1 ∧ a + 1 ≤ x.2 ∧ (x.2 ≤ b ∨ x.2 = a + 1)) (fun x => b - x.2) (L, a + 1) (lP [0]) ⟨.refl _ _ _, fun p q h1 h2 h3 => by omega, by simp, .inr rfl⟩ ?_
  rintro ⟨M, i⟩ ⟨hp, hs, hi1, hi2⟩
  have hl := hp.len
  simp only at hs hi1 hi2 hl ⊢
  by_cases hib : i < b
  · repeat' (first
      | refine IOps_nil ?_
      | refine oS ?_
      | refine IOps_s rfl rfl ?_
      | refine oT ?_
      | refine IOps_s0 rfl ?_
      | refine oZ ?_
      | refine oI ?_
      | refine thenI_n ?_
      | refine IWP_seq ?_
      | refine IWP_region ?_
      | refine IWP_ct rfl ?_
      | refine IWP_cf rfl ?_
      | refine IWP_skip ?_
      | refine IWP_ret ?_
      | refine IWP_block ?_
      | refine inB_n ?_
      | refine thenI_r ?_
      | refine thenI_e ?_
      | refine inB_r ?_
      | refine inB_hit ?_
      | refine inB_miss rfl ?_
      | refine IWP_exit ?_
      | refine IWP_scope ?_
      | refine IWP_label ?_
      | refine noG_n ?_
      | refine noG_r ?_
      | refine noG_e ?_
      | refine jmp_n ?_
      | refine jmp_r ?_
      | refine jmp_e ?_
      | refine jmp_g ?_
      | refine thenI_g ?_
      | refine inB_g ?_
      | refine IWP_goto ?_
      | refine Loop_n ?_
      | refine oD (id := 4) W68_4 [] O68_4 [_, _, _, _, _, _, _, _, _, _, _, _, _, _, _, _, _] [_] rfl (by repeat' (first | exact trivial | refine And.intro ?_ ?_ | exact bS | exact bX | exact bZ | exact bI | fail)) ?_
      | refine oD (id := 6) W68_6 [15, 17] O68_6 [_, _, _, _, _, _, _, _, _, _, _, _, _, _, _, _, _, _] [_, _, _] rfl (by repeat' (first | exact trivial | refine And.intro ?_ ?_ | exact bS | exact bX | exact bZ | exact bI | fail)) ?_
      | fail)
    refine IWP_loop (fun x : List It × Nat => ⟨53, [(0, .sl 0 0 L.length cap 3), (1, .i64 a), (2, .i64 b), (3, .fn (.func kc) [] []), (8, .i64 i), (9, .i64 x.2)], [.arr false (items x.1)]⟩)
      (fun x => PS a b L x.1 ∧ InsI (fun x y => decide (c x y < 0)) a i x.2 x.1 ∧ a ≤ x.2 ∧ x.2 ≤ i) (fun x => x.2) (M, i) (lP [0]) ⟨hp, InsI.start hs, by omega, Nat.le_refl _⟩ ?_
    rintro ⟨N, j⟩ ⟨hp, hs, hj1, hj2⟩
    have hl := hp.len
    simp only at hs hj1 hj2 hl ⊢
    replace hp : PS a b L N := hp
    by_cases hja : a < j
    · by_cases hlt : c (gd N j) (gd N (j - 1)) < 0
      · repeat' (first
          | refine IOps_nil ?_
          | refine oS ?_
          | refine IOps_s rfl rfl ?_
          | refine oT ?_
          | refine IOps_s0 rfl ?_
          | refine oC (π := []) (hs := by first | exact hc _ _ | fail) (hx := ?_)
          | refine oZ ?_
          | refine oI ?_
          | refine thenI_n ?_
          | refine IWP_seq ?_
          | refine IWP_region ?_
          | refine IWP_ct rfl ?_
          | refine IWP_cf rfl ?_
          | refine IWP_skip ?_
          | refine IWP_ret ?_
          | refine IWP_block ?_
          | refine inB_n ?_
          | refine thenI_r ?_
          | refine thenI_e ?_
          | refine inB_r ?_
          | refine inB_hit ?_
          | refine inB_miss rfl ?_
          | refine IWP_exit ?_
          | refine IWP_scope ?_
          | refine IWP_label ?_
          | refine noG_n ?_
          | refine noG_r ?_
          | refine noG_e ?_
          | refine jmp_n ?_
          | refine jmp_r ?_
          | refine jmp_e ?_
          | refine jmp_g ?_
          | refine thenI_g ?_
          | refine inB_g ?_
          | refine IWP_goto ?_
          | refine Loop_n ?_
          | refine oD (id := 4) W68_4 [] O68_4 [_, _, _, _, _, _, _, _, _, _, _, _, _, _, _, _, _] [_] rfl (by repeat' (first | exact trivial | refine And.intro ?_ ?_ | exact bS | exact bX | exact bZ | exact bI | exact bC (π := []) (hs := by first | exact hc _ _ | fail) | fail)) ?_
          | refine oD (id := 6) W68_6 [15, 17] O68_6 [_, _, _, _, _, _, _, _, _, _, _, _, _, _, _, _, _, _] [_, _, _] rfl (by repeat' (first | exact trivial | refine And.intro ?_ ?_ | exact bS | exact bX | exact bZ | exact bI | exact bC (π := []) (hs := by first | exact hc _ _ | fail) | fail)) ?_
          | fail)
        refine ⟨(sw N j (j - 1), j - 1), ⟨hp.trans (.sw (by omega) (by omega) (by omega) (by omega) (by omega)), InsI.step oc hs hja hj2 (by omega) (decide_eq_true hlt), by omega, by omega⟩, by simp only; omega, lP [0]⟩
      · repeat' (first
          | refine IOps_nil ?_
          | refine oS ?_
          | refine IOps_s rfl rfl ?_
          | refine oT ?_
          | refine IOps_s0 rfl ?_
          | refine oC (π := []) (hs := by first | exact hc _ _ | fail) (hx := ?_)
          | refine oZ ?_
          | refine oI ?_
          | refine thenI_n ?_
          | refine IWP_seq ?_
          | refine IWP_region ?_
          | refine IWP_ct rfl ?_
          | refine IWP_cf rfl ?_
          | refine IWP_skip ?_
          | refine IWP_ret ?_
          | refine IWP_block ?_
          | refine inB_n ?_
          | refine thenI_r ?_
          | refine thenI_e ?_
          | refine inB_r ?_
          | refine inB_hit ?_
          | refine inB_miss rfl ?_
          | refine IWP_exit ?_
          | refine IWP_scope ?_
          | refine IWP_label ?_
          | refine noG_n ?_
          | refine noG_r ?_
          | refine noG_e ?_
          | refine jmp_n ?_
          | refine jmp_r ?_
          | refine jmp_e ?_
          | refine jmp_g ?_
          | refine thenI_g ?_
          | refine inB_g ?_
          | refine IWP_goto ?_
          | refine Loop_n ?_
          | refine oD (id := 4) W68_4 [] O68_4 [_, _, _, _, _, _, _, _, _, _, _, _, _, _, _, _, _] [_] rfl (by repeat' (first | exact trivial | refine And.intro ?_ ?_ | exact bS | exact bX | exact bZ | exact bI | exact bC (π := []) (hs := by first | exact hc _ _ | fail) | fail)) ?_
          | refine oD (id := 6) W68_6 [15, 17] O68_6 [_, _, _, _, _, _, _, _, _, _, _, _, _, _, _, _, _, _] [_, _, _] rfl (by repeat' (first | exact trivial | refine And.intro ?_ ?_ | exact bS | exact bX | exact bZ | exact bI | exact bC (π := []) (hs := by first | exact hc _ _ | fail) | fail)) ?_
          | fail)
        exact ⟨(N, i + 1), ⟨hp, InsI.fits oc hs hja (decide_eq_false hlt), by omega, .inl (by omega)⟩, by simp only; omega, lP [0]⟩
    · obtain rfl : j = a := by omega
      repeat' (first
        | refine IOps_nil ?_
        | refine oS ?_
        | refine IOps_s rfl rfl ?_
        | refine oT ?_
        | refine IOps_s0 rfl ?_
        | refine oC (π := []) (hs := by first | exact hc _ _ | fail) (hx := ?_)
        | refine oZ ?_
        | refine oI ?_
        | refine thenI_n ?_
        | refine IWP_seq ?_
        | refine IWP_region ?_
        | refine IWP_ct rfl ?_
        | refine IWP_cf rfl ?_
        | refine IWP_skip ?_
        | refine IWP_ret ?_
        | refine IWP_block ?_
        | refine inB_n ?_
        | refine thenI_r ?_
        | refine thenI_e ?_
        | refine inB_r ?_
        | refine inB_hit ?_
        | refine inB_miss rfl ?_
        | refine IWP_exit ?_
        | refine IWP_scope ?_
        | refine IWP_label ?_
        | refine noG_n ?_
        | refine noG_r ?_
        | refine noG_e ?_
        | refine jmp_n ?_
        | refine jmp_r ?_
        | refine jmp_e ?_
        | refine jmp_g ?_
        | refine thenI_g ?_
        | refine inB_g ?_
        | refine IWP_goto ?_
        | refine Loop_n ?_
        | refine oD (id := 4) W68_4 [] O68_4 [_, _, _, _, _, _, _, _, _, _, _, _, _, _, _, _, _] [_] rfl (by repeat' (first | exact trivial | refine And.intro ?_ ?_ | exact bS | exact bX | exact bZ | exact bI | exact bC (π := []) (hs := by first | exact hc _ _ | fail) | fail)) ?_
        | refine oD (id := 6) W68_6 [15, 17] O68_6 [_, _, _, _, _, _, _, _, _, _, _, _, _, _, _, _, _, _] [_, _, _] rfl (by repeat' (first | exact trivial | refine And.intro ?_ ?_ | exact bS | exact bX | exact bZ | exact bI | exact bC (π := []) (hs := by first | exact hc _ _ | fail) | fail)) ?_
        | fail)
      exact ⟨(N, i + 1), ⟨hp, InsI.stop hs, by omega, .inl (by omega)⟩, by simp only; omega, lP [0]⟩
  · repeat' (first
      | refine IOps_nil ?_
      | refine oS ?_
      | refine IOps_s rfl rfl ?_
      | refine oT ?_
      | refine IOps_s0 rfl ?_
      | refine oC (π := []) (hs := by first | exact hc _ _ | fail) (hx := ?_)
      | refine oZ ?_
      | refine oI ?_
      | refine thenI_n ?_
      | refine IWP_seq ?_
      | refine IWP_region ?_
      | refine IWP_ct rfl ?_
      | refine IWP_cf rfl ?_
      | refine IWP_skip ?_
      | refine IWP_ret ?_
      | refine IWP_block ?_
      | refine inB_n ?_
      | refine thenI_r ?_
      | refine thenI_e ?_
      | refine inB_r ?_
      | refine inB_hit ?_
      | refine inB_miss rfl ?_
      | refine IWP_exit ?_
      | refine IWP_scope ?_
      | refine IWP_label ?_
      | refine noG_n ?_
      | refine noG_r ?_
      | refine noG_e ?_
      | refine jmp_n ?_
      | refine jmp_r ?_
      | refine jmp_e ?_
      | refine jmp_g ?_
      | refine thenI_g ?_
      | refine inB_g ?_
      | refine IWP_goto ?_
      | refine Loop_n ?_
      | refine oD (id := 4) W68_4 [] O68_4 [_, _, _, _, _, _, _, _, _, _, _, _, _, _, _, _, _] [_] rfl (by repeat' (first | exact trivial | refine And.intro ?_ ?_ | exact bS | exact bX | exact bZ | exact bI | exact bC (π := []) (hs := by first | exact hc _ _ | fail) | fail)) ?_
      | refine oD (id := 6) W68_6 [15, 17] O68_6 [_, _, _, _, _, _, _, _, _, _, _, _, _, _, _, _, _, _] [_, _, _] rfl (by repeat' (first | exact trivial | refine And.intro ?_ ?_ | exact bS | exact bX | exact bZ | exact bI | exact bC (π := []) (hs := by first | exact hc _ _ | fail) | fail)) ?_
      | fail)
    exact pX [0] M ⟨hp, fun p q h1 h2 h3 => hs p q h1 h2 (by omega)⟩ rfl

end
end Go.Proofs.Ytnlelckfhlcbgaa
