/-
  the laws of the layer heap.
-/
import Derived.Test.YtnlelckfhlcbgaaHeaI
namespace Go.Proofs.Ytnlelckfhlcbgaa
open Go Go.Idl
set_option linter.unusedSimpArgs false
set_option linter.unusedVariables false
set_option maxRecDepth 100000
set_option maxHeartbeats 1000000
attribute [local irreducible] Go.Idl.IWP Go.Idl.IOps Go.Idl.Obl Go.Idl.OpG Go.Idl.thenI Go.Idl.inBlockI Go.Idl.LoopU Go.Idl.noGotoI Go.Idl.jumpI
attribute [local go_sem] List.length_set
structure St where
  drop : Bool
  id : Int
  pri : Int
  seq : Int
  deriving DecidableEq
instance : Inhabited St := ⟨⟨false, 0, 0, 0⟩⟩
def stRc : Rc St := ⟨fun x => [.sc (.bool x.drop), .sc (.int .i64 x.id), .sc (.int .u64 x.pri), .sc (.int .u64 x.seq)], 4, fun _ => rfl⟩
def steps (l : List St) : List IV := fl stRc l
section
variable {l a b : List St} {i n : Nat}
theorem steps_length : (steps l).length = l.length * 4 := fl_length stRc l
theorem steps_drop : (steps l).drop (n * 4) = steps (l.drop n) := fl_drop stRc l n
theorem steps_take : (steps l).take (n * 4) = steps (l.take n) := fl_take stRc l n
theorem steps_app : steps a ++ steps b = steps (a ++ b) := fl_app stRc a b
theorem steps_one {v0 : Bool} {v1 : Int} {v2 : Int} {v3 : Int} : steps [⟨v0, v1, v2, v3⟩] = [.sc (.bool v0), .sc (.int .i64 v1), .sc (.int .u64 v2), .sc (.int .u64 v3)] := rfl
theorem steps_nil : steps [] = [] := rfl
theorem steps_snoc {v0 : Bool} {v1 : Int} {v2 : Int} {v3 : Int} : steps a ++ [.sc (.bool v0), .sc (.int .i64 v1), .sc (.int .u64 v2), .sc (.int .u64 v3)] = steps (a ++ [⟨v0, v1, v2, v3⟩]) := fl_app stRc a [⟨v0, v1, v2, v3⟩]
theorem steps_part (h : i < l.length) : (steps (l.drop i)).take 4 = [.sc (.bool (l.getD i default).drop), .sc (.int .i64 (l.getD i default).id), .sc (.int .u64 (l.getD i default).pri), .sc (.int .u64 (l.getD i default).seq)] := by rw [← steps_drop]; exact fl_part stRc h
theorem steps_part0 (h : 0 < l.length) : (steps l).take 4 = [.sc (.bool (l.getD 0 default).drop), .sc (.int .i64 (l.getD 0 default).id), .sc (.int .u64 (l.getD 0 default).pri), .sc (.int .u64 (l.getD 0 default).seq)] := by have := steps_part h; rwa [List.drop_zero] at this
theorem steps_get0 (h : i < l.length) : (steps l).getD (i * 4) .any = .sc (.bool (l.getD i default).drop) := fl_get stRc (j := 0) h (by decide)
theorem steps_set0 (h : i < l.length) {v : Bool} : (steps l).set (i * 4) (.sc (.bool v)) = steps (l.set i ⟨v, (l.getD i default).id, (l.getD i default).pri, (l.getD i default).seq⟩) := fl_set stRc h (j := 0) (by decide) _ _ rfl
theorem steps_get1 (h : i < l.length) : (steps l).getD (i * 4 + 1) .any = .sc (.int .i64 (l.getD i default).id) := fl_get stRc (j := 1) h (by decide)
theorem steps_set1 (h : i < l.length) {v : Int} : (steps l).set (i * 4 + 1) (.sc (.int .i64 v)) = steps (l.set i ⟨(l.getD i default).drop, v, (l.getD i default).pri, (l.getD i default).seq⟩) := fl_set stRc h (j := 1) (by decide) _ _ rfl
theorem steps_get2 (h : i < l.length) : (steps l).getD (i * 4 + 2) .any = .sc (.int .u64 (l.getD i default).pri) := fl_get stRc (j := 2) h (by decide)
theorem steps_set2 (h : i < l.length) {v : Int} : (steps l).set (i * 4 + 2) (.sc (.int .u64 v)) = steps (l.set i ⟨(l.getD i default).drop, (l.getD i default).id, v, (l.getD i default).seq⟩) := fl_set stRc h (j := 2) (by decide) _ _ rfl
theorem steps_get3 (h : i < l.length) : (steps l).getD (i * 4 + 3) .any = .sc (.int .u64 (l.getD i default).seq) := fl_get stRc (j := 3) h (by decide)
theorem steps_set3 (h : i < l.length) {v : Int} : (steps l).set (i * 4 + 3) (.sc (.int .u64 v)) = steps (l.set i ⟨(l.getD i default).drop, (l.getD i default).id, (l.getD i default).pri, v⟩) := fl_set stRc h (j := 3) (by decide) _ _ rfl
theorem steps_splice (h : i < l.length) {v0 : Bool} {v1 : Int} {v2 : Int} {v3 : Int} : splice (steps l) (i * 4) [.sc (.bool v0), .sc (.int .i64 v1), .sc (.int .u64 v2), .sc (.int .u64 v3)] = steps (l.set i ⟨v0, v1, v2, v3⟩) := fl_splice stRc h ⟨v0, v1, v2, v3⟩
theorem steps_zeros : zrep n [.sc (.bool false), .sc (.int .i64 0), .sc (.int .u64 0), .sc (.int .u64 0)] = steps (List.replicate n default) := fl_zeros stRc default n (by decide)
theorem steps_closed : IV.closedL (steps l) = true := fl_closed stRc (fun _ => rfl) l
theorem steps_ones : IV.ones (steps l) = true := fl_ones stRc (fun _ => rfl) l
theorem steps_fresh : IV.freshL (steps l) = true := fl_fresh stRc (fun _ => rfl) l
theorem steps_relab : IV.relabL (steps l) = steps l := fl_relab stRc (fun _ => by simp [stRc, IV.relabL, IV.relab, IV.str]) l
theorem steps_ren {σ : Nat → Option Nat} : IV.renL σ (steps l) = steps l := fl_ren stRc (fun _ => by simp [stRc, IV.renL, IV.ren, IV.str]) l
end
attribute [go_sem] steps_length steps_drop steps_take steps_app steps_snoc steps_part steps_part0 steps_get0 steps_set0 steps_get1 steps_set1 steps_get2 steps_set2 steps_get3 steps_set3 steps_zeros steps_closed steps_ones steps_fresh steps_relab steps_ren
attribute [go_sem] steps_splice
attribute [local go_sem] splice
theorem findV_up {L : List It} (hd : Idn L) {x : It} (hx : 0 ≤ x.id ∧ x.id < 64) {other : Int} (ho : other ≠ x.id) : findV (upI x L) other = findV L other := by
  by_cases h : ∃ y, y ∈ L ∧ y.id = other
  · obtain ⟨y, hy, rfl⟩ := h
    rw [findV_mem hd hy, findV_mem (hd.up hx) (List.mem_cons.2 (.inr (List.mem_filter.2 ⟨hy, by simpa using ho⟩)))]
  · rw [findV_non fun y hy e => h ⟨y, hy, e⟩, findV_non fun y hy e => ?_]
    rcases List.mem_cons.1 hy with rfl | hy
    · exact ho e.symm
    · exact h ⟨y, (List.mem_filter.1 hy).1, e⟩
theorem sets_law (l : List St) (x : It) (other : Int) (hL : l.length ≤ 9223372036854775807) : Idl.Spec Try.prog 6 [.fz false (steps l) l.length, .agg [.sc (.int .i64 x.id), .sc (.int .u64 x.pri), .sc (.int .u64 x.seq)], .i64 other] [] (Only (.sc (.bool true)) []) := by
  by_cases h100 : l.length ≤ 100
  · refine sB Try.func6 Try.ntmps6 ?_
    repeat' (first
      | refine IOps_nil ?_
      | refine oS ?_
      | refine IOps_s rfl rfl ?_
      | refine oT ?_
      | refine IOps_s0 rfl ?_
      | refine oC (π := []) (hs := by first | exact awake_spec | fail) (hx := ?_)
      | refine oZ ?_
      | refine oI ?_
      | refine thenI_n ?_
      | refine IWP_seq ?_
      | refine IWP_region ?_
      | refine IWP_ct rfl ?_
      | refine IWP_cf rfl ?_
      | refine IWP_skip ?_
      | refine IWP_ret ?_
      | refine IWP_block ?_
      | refine inB_n ?_
      | refine thenI_r ?_
      | refine thenI_e ?_
      | refine inB_r ?_
      | refine inB_hit ?_
      | refine inB_miss rfl ?_
      | refine IWP_exit ?_
      | refine IWP_scope ?_
      | refine IWP_label ?_
      | refine noG_n ?_
      | refine noG_r ?_
      | refine noG_e ?_
      | refine jmp_n ?_
      | refine jmp_r ?_
      | refine jmp_e ?_
      | refine jmp_g ?_
      | refine thenI_g ?_
      | refine inB_g ?_
      | refine IWP_goto ?_
      | refine Loop_n ?_
      | fail)
    refine wV 8 3 ?_
    refine wF 8 (cs' := items []) ?_
    refine IWP_loop (fun x' : List It × Nat => ⟨120, [(0, .fz false (steps l) l.length), (2, .i64 other), (4, .ptr 0 0), (6, .sc (.bool false)), (7, .sc (.bool true)), (8, .fz true (items x'.1) x'.1.length), (9, .i64 x'.2)], [.box [.sc (.int .i64 x.id), .sc (.int .u64 x.pri), .sc (.int .u64 x.seq)]]⟩)
      (fun x' => chk x'.1 = true ∧ x'.2 ≤ l.length) (fun x' => l.length - x'.2) ([], 0) (lP [0]) ⟨by decide +kernel, Nat.zero_le _⟩ ?_
    rintro ⟨h, i⟩ ⟨hc, hi⟩
    simp only at hc hi ⊢
    have hd := ((chk_iff h).1 hc).1
    have h64 := hd.len
    by_cases hi2 : i < l.length
    · repeat' (first
        | refine IOps_nil ?_
        | refine oS ?_
        | refine IOps_s rfl rfl ?_
        | refine oT ?_
        | refine IOps_s0 rfl ?_
        | refine oZ ?_
        | refine oI ?_
        | refine thenI_n ?_
        | refine IWP_seq ?_
        | refine IWP_region ?_
        | refine IWP_ct rfl ?_
        | refine IWP_cf rfl ?_
        | refine IWP_skip ?_
        | refine IWP_ret ?_
        | refine IWP_block ?_
        | refine inB_n ?_
        | refine thenI_r ?_
        | refine thenI_e ?_
        | refine inB_r ?_
        | refine inB_hit ?_
        | refine inB_miss rfl ?_
        | refine IWP_exit ?_
        | refine IWP_scope ?_
        | refine IWP_label ?_
        | refine noG_n ?_
        | refine noG_r ?_
        | refine noG_e ?_
        | refine jmp_n ?_
        | refine jmp_r ?_
        | refine jmp_e ?_
        | refine jmp_g ?_
        | refine thenI_g ?_
        | refine inB_g ?_
        | refine IWP_goto ?_
        | refine Loop_n ?_
        | fail)
      refine oE [] (hs := do_spec h (l.getD i default).drop ⟨(l.getD i default).id, (l.getD i default).pri, (l.getD i default).seq⟩ hc) (hx := ?_)
      rintro ⟨M, e⟩ ⟨hM, -⟩
      simp only at hM ⊢
      repeat' (first
        | refine IOps_nil ?_
        | refine oS ?_
        | refine IOps_s rfl rfl ?_
        | refine oT ?_
        | refine IOps_s0 rfl ?_
        | refine oZ ?_
        | refine oI ?_
        | refine thenI_n ?_
        | refine IWP_seq ?_
        | refine IWP_region ?_
        | refine IWP_ct rfl ?_
        | refine IWP_cf rfl ?_
        | refine IWP_skip ?_
        | refine IWP_ret ?_
        | refine IWP_block ?_
        | refine inB_n ?_
        | refine thenI_r ?_
        | refine thenI_e ?_
        | refine inB_r ?_
        | refine inB_hit ?_
        | refine inB_miss rfl ?_
        | refine IWP_exit ?_
        | refine IWP_scope ?_
        | refine IWP_label ?_
        | refine noG_n ?_
        | refine noG_r ?_
        | refine noG_e ?_
        | refine jmp_n ?_
        | refine jmp_r ?_
        | refine jmp_e ?_
        | refine jmp_g ?_
        | refine thenI_g ?_
        | refine inB_g ?_
        | refine IWP_goto ?_
        | refine Loop_n ?_
        | fail)
      exact ⟨(M, i + 1), ⟨hM, hi2⟩, by simp only; omega, lP [0]⟩
    · have hfh := find_spec h other (by omega)
      rw [hc, if_pos rfl] at hfh
      have hfx := find_spec h x.id (by omega)
      rw [hc, if_pos rfl] at hfx
      by_cases hx : 0 ≤ x.id ∧ x.id < 64
      · repeat' (first
          | refine IOps_nil ?_
          | refine oS ?_
          | refine IOps_s rfl rfl ?_
          | refine oT ?_
          | refine IOps_s0 rfl ?_
          | refine oZ ?_
          | refine oI ?_
          | refine thenI_n ?_
          | refine IWP_seq ?_
          | refine IWP_region ?_
          | refine IWP_ct rfl ?_
          | refine IWP_cf rfl ?_
          | refine IWP_skip ?_
          | refine IWP_ret ?_
          | refine IWP_block ?_
          | refine inB_n ?_
          | refine thenI_r ?_
          | refine thenI_e ?_
          | refine inB_r ?_
          | refine inB_hit ?_
          | refine inB_miss rfl ?_
          | refine IWP_exit ?_
          | refine IWP_scope ?_
          | refine IWP_label ?_
          | refine noG_n ?_
          | refine noG_r ?_
          | refine noG_e ?_
          | refine jmp_n ?_
          | refine jmp_r ?_
          | refine jmp_e ?_
          | refine jmp_g ?_
          | refine thenI_g ?_
          | refine inB_g ?_
          | refine IWP_goto ?_
          | refine Loop_n ?_
          | fail)
        refine oE [] (hs := set_c h x h64 hc hx) (hx := ?_)
        rintro M ⟨hM, hp⟩
        have hdM := ((chk_iff M).1 hM).1
        have hM64 := hdM.len
        have hlen : M.length ≤ h.length + 1 := by
          rw [hp.length_eq]
          have := List.length_filter_le (fun y : It => decide (y.id ≠ x.id)) h
          unfold upI woI; simp only [List.length_cons]; omega
        have f1 := find_spec M x.id (by omega)
        rw [hM, if_pos rfl, findV_mem hdM (hp.mem_iff.2 (by simp [upI]))] at f1
        have f2 := find_spec M other (by omega)
        rw [hM, if_pos rfl] at f2
        by_cases ho : other = x.id
        · repeat' (first
            | refine IOps_nil ?_
            | refine oS ?_
            | refine IOps_s rfl rfl ?_
            | refine oT ?_
            | refine IOps_s0 rfl ?_
            | refine oC (π := []) (hs := by first | exact f1 | fail) (hx := ?_)
            | refine oC (π := []) (hs := by first | exact hfh | fail) (hx := ?_)
            | refine oC (π := []) (hs := by first | exact f2 | fail) (hx := ?_)
            | refine oZ ?_
            | refine oI ?_
            | refine thenI_n ?_
            | refine IWP_seq ?_
            | refine IWP_region ?_
            | refine IWP_ct rfl ?_
            | refine IWP_cf rfl ?_
            | refine IWP_skip ?_
            | refine IWP_ret ?_
            | refine IWP_block ?_
            | refine inB_n ?_
            | refine thenI_r ?_
            | refine thenI_e ?_
            | refine inB_r ?_
            | refine inB_hit ?_
            | refine inB_miss rfl ?_
            | refine IWP_exit ?_
            | refine IWP_scope ?_
            | refine IWP_label ?_
            | refine noG_n ?_
            | refine noG_r ?_
            | refine noG_e ?_
            | refine jmp_n ?_
            | refine jmp_r ?_
            | refine jmp_e ?_
            | refine jmp_g ?_
            | refine thenI_g ?_
            | refine inB_g ?_
            | refine IWP_goto ?_
            | refine Loop_n ?_
            | fail)
          exact pD [] ⟨rfl, rfl⟩
        · rw [findV_perm (hd.up hx) hp, findV_up hd hx ho] at f2
          repeat' (first
            | refine IOps_nil ?_
            | refine oS ?_
            | refine IOps_s rfl rfl ?_
            | refine oT ?_
            | refine IOps_s0 rfl ?_
            | refine oC (π := []) (hs := by first | exact f1 | fail) (hx := ?_)
            | refine oC (π := []) (hs := by first | exact hfh | fail) (hx := ?_)
            | refine oC (π := []) (hs := by first | exact f2 | fail) (hx := ?_)
            | refine oZ ?_
            | refine oI ?_
            | refine thenI_n ?_
            | refine IWP_seq ?_
            | refine IWP_region ?_
            | refine IWP_ct rfl ?_
            | refine IWP_cf rfl ?_
            | refine IWP_skip ?_
            | refine IWP_ret ?_
            | refine IWP_block ?_
            | refine inB_n ?_
            | refine thenI_r ?_
            | refine thenI_e ?_
            | refine inB_r ?_
            | refine inB_hit ?_
            | refine inB_miss rfl ?_
            | refine IWP_exit ?_
            | refine IWP_scope ?_
            | refine IWP_label ?_
            | refine noG_n ?_
            | refine noG_r ?_
            | refine noG_e ?_
            | refine jmp_n ?_
            | refine jmp_r ?_
            | refine jmp_e ?_
            | refine jmp_g ?_
            | refine thenI_g ?_
            | refine inB_g ?_
            | refine IWP_goto ?_
            | refine Loop_n ?_
            | fail)
          exact pD [] ⟨rfl, rfl⟩
      · have hno : findV h x.id = (default, false) := findV_non fun y hy e => hx (e ▸ hd.1 y hy)
        rw [hno] at hfx
        by_cases hx0 : x.id < 0
        · repeat' (first
            | refine IOps_nil ?_
            | refine oS ?_
            | refine IOps_s rfl rfl ?_
            | refine oT ?_
            | refine IOps_s0 rfl ?_
            | refine oC (π := []) (hs := by first | exact (set_b h x (by omega) hc hx) | fail) (hx := ?_)
            | refine oC (π := []) (hs := by first | exact hfx | fail) (hx := ?_)
            | refine oC (π := []) (hs := by first | exact hfh | fail) (hx := ?_)
            | refine oZ ?_
            | refine oI ?_
            | refine thenI_n ?_
            | refine IWP_seq ?_
            | refine IWP_region ?_
            | refine IWP_ct rfl ?_
            | refine IWP_cf rfl ?_
            | refine IWP_skip ?_
            | refine IWP_ret ?_
            | refine IWP_block ?_
            | refine inB_n ?_
            | refine thenI_r ?_
            | refine thenI_e ?_
            | refine inB_r ?_
            | refine inB_hit ?_
            | refine inB_miss rfl ?_
            | refine IWP_exit ?_
            | refine IWP_scope ?_
            | refine IWP_label ?_
            | refine noG_n ?_
            | refine noG_r ?_
            | refine noG_e ?_
            | refine jmp_n ?_
            | refine jmp_r ?_
            | refine jmp_e ?_
            | refine jmp_g ?_
            | refine thenI_g ?_
            | refine inB_g ?_
            | refine IWP_goto ?_
            | refine Loop_n ?_
            | fail)
          exact pD [] ⟨rfl, rfl⟩
        · have hx1 : 63 < x.id := by omega
          repeat' (first
            | refine IOps_nil ?_
            | refine oS ?_
            | refine IOps_s rfl rfl ?_
            | refine oT ?_
            | refine IOps_s0 rfl ?_
            | refine oC (π := []) (hs := by first | exact (set_b h x (by omega) hc hx) | fail) (hx := ?_)
            | refine oC (π := []) (hs := by first | exact hfx | fail) (hx := ?_)
            | refine oC (π := []) (hs := by first | exact hfh | fail) (hx := ?_)
            | refine oZ ?_
            | refine oI ?_
            | refine thenI_n ?_
            | refine IWP_seq ?_
            | refine IWP_region ?_
            | refine IWP_ct rfl ?_
            | refine IWP_cf rfl ?_
            | refine IWP_skip ?_
            | refine IWP_ret ?_
            | refine IWP_block ?_
            | refine inB_n ?_
            | refine thenI_r ?_
            | refine thenI_e ?_
            | refine inB_r ?_
            | refine inB_hit ?_
            | refine inB_miss rfl ?_
            | refine IWP_exit ?_
            | refine IWP_scope ?_
            | refine IWP_label ?_
            | refine noG_n ?_
            | refine noG_r ?_
            | refine noG_e ?_
            | refine jmp_n ?_
            | refine jmp_r ?_
            | refine jmp_e ?_
            | refine jmp_g ?_
            | refine thenI_g ?_
            | refine inB_g ?_
            | refine IWP_goto ?_
            | refine Loop_n ?_
            | fail)
          exact pD [] ⟨rfl, rfl⟩
  · refine sB Try.func6 Try.ntmps6 ?_
    repeat' (first
      | refine IOps_nil ?_
      | refine oS ?_
      | refine IOps_s rfl rfl ?_
      | refine oT ?_
      | refine IOps_s0 rfl ?_
      | refine oC (π := []) (hs := by first | exact awake_spec | fail) (hx := ?_)
      | refine oZ ?_
      | refine oI ?_
      | refine thenI_n ?_
      | refine IWP_seq ?_
      | refine IWP_region ?_
      | refine IWP_ct rfl ?_
      | refine IWP_cf rfl ?_
      | refine IWP_skip ?_
      | refine IWP_ret ?_
      | refine IWP_block ?_
      | refine inB_n ?_
      | refine thenI_r ?_
      | refine thenI_e ?_
      | refine inB_r ?_
      | refine inB_hit ?_
      | refine inB_miss rfl ?_
      | refine IWP_exit ?_
      | refine IWP_scope ?_
      | refine IWP_label ?_
      | refine noG_n ?_
      | refine noG_r ?_
      | refine noG_e ?_
      | refine jmp_n ?_
      | refine jmp_r ?_
      | refine jmp_e ?_
      | refine jmp_g ?_
      | refine thenI_g ?_
      | refine inB_g ?_
      | refine IWP_goto ?_
      | refine Loop_n ?_
      | fail)
    exact pD [] ⟨rfl, rfl⟩
end Go.Proofs.Ytnlelckfhlcbgaa
