/-
  Tags: the laws' own functions: few and do.
-/
import Derived.Test.YtmgcoopmbohkoaaTeM
namespace Go.Proofs.Ytmgcoopmbohkoaa
open Go Go.Idl
set_option linter.unusedSimpArgs false
set_option linter.unusedVariables false
set_option maxRecDepth 100000
set_option maxHeartbeats 8000000
attribute [local irreducible] Go.Idl.IWP Go.Idl.IOps Go.Idl.Obl Go.Idl.OpG Go.Idl.thenI Go.Idl.inBlockI Go.Idl.LoopU Go.Idl.noGotoI Go.Idl.jumpI
attribute [local go_sem] List.length_set bl_of bl_no List.drop_length Nat.sub_self
def fewT (l : List Tst) (m : Int) : Prop := (∀ s, s ∈ l → s.tags.length ≤ 10 ∧ fewK s.tags 10) ∧ (l.length : Int) ≤ m
instance (l : List Tst) (m : Int) : Decidable (fewT l m) := by unfold fewT; infer_instance
theorem tfew_spec (l : List Tst) (m : Int) (hL : l.length ≤ 9223372036854775807) (hT : ∀ s, s ∈ l → s.tags.length ≤ 9223372036854775807) : Idl.Spec Try.prog 25 [.fz false (tsteps false l) l.length, .i64 m] [] (Only (.sc (.bool (decide (fewT l m)))) []) := by
  refine sB Try.func25 Try.ntmps25 ?_
  repeat' (first|refine IOps_nil ?_|refine oS ?_|refine IOps_s rfl rfl ?_|refine oT ?_|refine IOps_s0 rfl ?_|refine oZ ?_|refine oI ?_|refine oAB ?_|refine thenI_n ?_|refine IWP_seq ?_|refine IWP_region ?_|refine IWP_ct rfl ?_|refine IWP_cf rfl ?_|refine IWP_skip ?_|refine IWP_ret ?_|refine IWP_block ?_|refine inB_n ?_|refine thenI_r ?_|refine thenI_e ?_|refine inB_r ?_|refine inB_hit ?_|refine inB_miss rfl ?_|refine IWP_exit ?_|refine IWP_scope ?_|refine IWP_label ?_|refine noG_n ?_|refine noG_r ?_|refine noG_e ?_|refine jmp_n ?_|refine jmp_r ?_|refine jmp_e ?_|refine jmp_g ?_|refine thenI_g ?_|refine inB_g ?_|refine IWP_goto ?_|refine Loop_n ?_|fail)
  refine IWP_loop (fun i : Nat => ⟨32, [(0, .fz false (tsteps false l) l.length), (1, .i64 m), (4, .sc (.bool false)), (5, .i64 i)], []⟩) (fun i => i ≤ l.length ∧ ∀ j, j < i → (l.getD j default).tags.length ≤ 10 ∧ fewK (l.getD j default).tags 10) (fun i => l.length - i) 0 (lP []) ⟨Nat.zero_le _, fun j hj => by omega⟩ ?_
  rintro i ⟨hi, hok⟩
  by_cases h : i < l.length
  · have htl := hT _ (getD_mem (d := default) h)
    by_cases hk : (l.getD i default).tags.length ≤ 10
    · have hfs := kfew_spec (l.getD i default).tags 10 (by omega)
      by_cases hk2 : fewK (l.getD i default).tags 10
      · rw [decide_eq_true hk2] at hfs
        repeat' (first|refine IOps_nil ?_|refine oS ?_|refine IOps_s rfl rfl ?_|refine oT ?_|refine IOps_s0 rfl ?_|refine oC (π:=[]) (hs:=by first|exact hfs|fail) (hx:=?_)|refine oZ ?_|refine oI ?_|refine oAB ?_|refine thenI_n ?_|refine IWP_seq ?_|refine IWP_region ?_|refine IWP_ct rfl ?_|refine IWP_cf rfl ?_|refine IWP_skip ?_|refine IWP_ret ?_|refine IWP_block ?_|refine inB_n ?_|refine thenI_r ?_|refine thenI_e ?_|refine inB_r ?_|refine inB_hit ?_|refine inB_miss rfl ?_|refine IWP_exit ?_|refine IWP_scope ?_|refine IWP_label ?_|refine noG_n ?_|refine noG_r ?_|refine noG_e ?_|refine jmp_n ?_|refine jmp_r ?_|refine jmp_e ?_|refine jmp_g ?_|refine thenI_g ?_|refine inB_g ?_|refine IWP_goto ?_|refine Loop_n ?_|fail)
        refine ⟨i + 1, ⟨h, fun j hj => ?_⟩, by omega, lP []⟩
        rcases Nat.lt_succ_iff_lt_or_eq.1 hj with h' | rfl
        · exact hok j h'
        · exact ⟨hk, hk2⟩
      · rw [decide_eq_false hk2] at hfs
        rw [show decide (fewT l m) = false from decide_eq_false fun x => hk2 (x.1 _ (getD_mem h)).2]
        repeat' (first|refine IOps_nil ?_|refine oS ?_|refine IOps_s rfl rfl ?_|refine oT ?_|refine IOps_s0 rfl ?_|refine oC (π:=[]) (hs:=by first|exact hfs|fail) (hx:=?_)|refine oZ ?_|refine oI ?_|refine oAB ?_|refine thenI_n ?_|refine IWP_seq ?_|refine IWP_region ?_|refine IWP_ct rfl ?_|refine IWP_cf rfl ?_|refine IWP_skip ?_|refine IWP_ret ?_|refine IWP_block ?_|refine inB_n ?_|refine thenI_r ?_|refine thenI_e ?_|refine inB_r ?_|refine inB_hit ?_|refine inB_miss rfl ?_|refine IWP_exit ?_|refine IWP_scope ?_|refine IWP_label ?_|refine noG_n ?_|refine noG_r ?_|refine noG_e ?_|refine jmp_n ?_|refine jmp_r ?_|refine jmp_e ?_|refine jmp_g ?_|refine thenI_g ?_|refine inB_g ?_|refine IWP_goto ?_|refine Loop_n ?_|fail)
        exact pD [] ⟨rfl, rfl⟩
    · rw [show decide (fewT l m) = false from decide_eq_false fun x => hk (x.1 _ (getD_mem h)).1]
      repeat' (first|refine IOps_nil ?_|refine oS ?_|refine IOps_s rfl rfl ?_|refine oT ?_|refine IOps_s0 rfl ?_|refine oZ ?_|refine oI ?_|refine oAB ?_|refine thenI_n ?_|refine IWP_seq ?_|refine IWP_region ?_|refine IWP_ct rfl ?_|refine IWP_cf rfl ?_|refine IWP_skip ?_|refine IWP_ret ?_|refine IWP_block ?_|refine inB_n ?_|refine thenI_r ?_|refine thenI_e ?_|refine inB_r ?_|refine inB_hit ?_|refine inB_miss rfl ?_|refine IWP_exit ?_|refine IWP_scope ?_|refine IWP_label ?_|refine noG_n ?_|refine noG_r ?_|refine noG_e ?_|refine jmp_n ?_|refine jmp_r ?_|refine jmp_e ?_|refine jmp_g ?_|refine thenI_g ?_|refine inB_g ?_|refine IWP_goto ?_|refine Loop_n ?_|fail)
      exact pD [] ⟨rfl, rfl⟩
  · by_cases hm : (l.length : Int) ≤ m
    · rw [show decide (fewT l m) = true from decide_eq_true ⟨fun t ht => by obtain ⟨j, hj, rfl⟩ := mem_getD default ht; exact hok j (by omega), hm⟩]
      repeat' (first|refine IOps_nil ?_|refine oS ?_|refine IOps_s rfl rfl ?_|refine oT ?_|refine IOps_s0 rfl ?_|refine oZ ?_|refine oI ?_|refine oAB ?_|refine thenI_n ?_|refine IWP_seq ?_|refine IWP_region ?_|refine IWP_ct rfl ?_|refine IWP_cf rfl ?_|refine IWP_skip ?_|refine IWP_ret ?_|refine IWP_block ?_|refine inB_n ?_|refine thenI_r ?_|refine thenI_e ?_|refine inB_r ?_|refine inB_hit ?_|refine inB_miss rfl ?_|refine IWP_exit ?_|refine IWP_scope ?_|refine IWP_label ?_|refine noG_n ?_|refine noG_r ?_|refine noG_e ?_|refine jmp_n ?_|refine jmp_r ?_|refine jmp_e ?_|refine jmp_g ?_|refine thenI_g ?_|refine inB_g ?_|refine IWP_goto ?_|refine Loop_n ?_|fail)
      exact pD [] ⟨rfl, rfl⟩
    · rw [show decide (fewT l m) = false from decide_eq_false fun x => hm x.2]
      repeat' (first|refine IOps_nil ?_|refine oS ?_|refine IOps_s rfl rfl ?_|refine oT ?_|refine IOps_s0 rfl ?_|refine oZ ?_|refine oI ?_|refine oAB ?_|refine thenI_n ?_|refine IWP_seq ?_|refine IWP_region ?_|refine IWP_ct rfl ?_|refine IWP_cf rfl ?_|refine IWP_skip ?_|refine IWP_ret ?_|refine IWP_block ?_|refine inB_n ?_|refine thenI_r ?_|refine thenI_e ?_|refine inB_r ?_|refine inB_hit ?_|refine inB_miss rfl ?_|refine IWP_exit ?_|refine IWP_scope ?_|refine IWP_label ?_|refine noG_n ?_|refine noG_r ?_|refine noG_e ?_|refine jmp_n ?_|refine jmp_r ?_|refine jmp_e ?_|refine jmp_g ?_|refine thenI_g ?_|refine inB_g ?_|refine IWP_goto ?_|refine Loop_n ?_|fail)
      exact pD [] ⟨rfl, rfl⟩
noncomputable def doV (l : List Rw) (s : Tst) : List Rw × Int := if s.drop then (dropV l s.id, 0) else addV l s.id s.tags
theorem do_spec (l : List Rw) (d : Bool) (id : Int) (T : List Ks) (hL : l.length ≤ 1000000) (hI : ∀ r, r ∈ l → r.tag.length ≤ 1000000 ∧ r.ids.length ≤ 1000000) (hT : T.length ≤ 1000000) (hT2 : ∀ t, t ∈ T → t.length ≤ 1000000000) :
    Idl.SpecA Try.prog 26 [.fz false (rows false l) l.length, .agg [.sc (.bool d), .i64 id, .fz false (strs T) T.length]] [] (Only (.tup [.fz false (rows false (doV l ⟨d, id, T⟩).1) (doV l ⟨d, id, T⟩).1.length, .i64 (doV l ⟨d, id, T⟩).2]) []) := by
  unfold doV
  simp only
  have h1 := drop_spec l id hL hI
  have h2 := add_spec l id T hL hI hT hT2
  cases d
  · rw [if_neg (by decide)]
    refine sA Try.func26 Try.ntmps26 ?_
    repeat' (first|refine IOps_nil ?_|refine oS ?_|refine IOps_s rfl rfl ?_|refine oT ?_|refine IOps_s0 rfl ?_|refine oA (π:=[]) (hs:=by first|exact h2|fail) (hx:=?_)|refine oZ ?_|refine oI ?_|refine oAB ?_|refine thenI_n ?_|refine IWP_seq ?_|refine IWP_region ?_|refine IWP_ct rfl ?_|refine IWP_cf rfl ?_|refine IWP_skip ?_|refine IWP_ret ?_|refine IWP_block ?_|refine inB_n ?_|refine thenI_r ?_|refine thenI_e ?_|refine inB_r ?_|refine inB_hit ?_|refine inB_miss rfl ?_|refine IWP_exit ?_|refine IWP_scope ?_|refine IWP_label ?_|refine noG_n ?_|refine noG_r ?_|refine noG_e ?_|refine jmp_n ?_|refine jmp_r ?_|refine jmp_e ?_|refine jmp_g ?_|refine thenI_g ?_|refine inB_g ?_|refine IWP_goto ?_|refine Loop_n ?_|fail)
    exact pA []
  · rw [if_pos rfl]
    refine sA Try.func26 Try.ntmps26 ?_
    repeat' (first|refine IOps_nil ?_|refine oS ?_|refine IOps_s rfl rfl ?_|refine oT ?_|refine IOps_s0 rfl ?_|refine oA (π:=[]) (hs:=by first|exact h1|fail) (hx:=?_)|refine oZ ?_|refine oI ?_|refine oAB ?_|refine thenI_n ?_|refine IWP_seq ?_|refine IWP_region ?_|refine IWP_ct rfl ?_|refine IWP_cf rfl ?_|refine IWP_skip ?_|refine IWP_ret ?_|refine IWP_block ?_|refine inB_n ?_|refine thenI_r ?_|refine thenI_e ?_|refine inB_r ?_|refine inB_hit ?_|refine inB_miss rfl ?_|refine IWP_exit ?_|refine IWP_scope ?_|refine IWP_label ?_|refine noG_n ?_|refine noG_r ?_|refine noG_e ?_|refine jmp_n ?_|refine jmp_r ?_|refine jmp_e ?_|refine jmp_g ?_|refine thenI_g ?_|refine inB_g ?_|refine IWP_goto ?_|refine Loop_n ?_|fail)
    exact pA []
end Go.Proofs.Ytmgcoopmbohkoaa

namespace Go.Proofs.Ytmgcoopmbohkoaa
open Go Go.Idl
set_option linter.unusedSimpArgs false
set_option linter.unusedVariables false
set_option maxRecDepth 100000
set_option maxHeartbeats 8000000
theorem SpecA.nil2 {P : Program} {f : FuncId} {a b : IV} {xs : List IV} {h : List HO} {K : IV → List HO → Prop} (s : SpecA P f (a :: b :: .fz false [] 0 :: xs) h K) : SpecA P f (a :: b :: .sc (.slice none 0 0) :: xs) h K :=
  ⟨s.call, fun F w vs h1 h2 c => s.runs F w vs h1 h2 (by cases c with | cons p t => cases t with | cons q t => cases t with | cons r t => exact .cons p (.cons q (.cons (by cases r; exact .fznil) t)))⟩
theorem Spec.nilR {P : Program} {f : FuncId} {a : IV} {xs : List IV} {h : List HO} {K : IV → List HO → Prop} (s : Idl.Spec P f (.fz false [a, .fz false [] 0] 1 :: xs) h K) : Idl.Spec P f (.fz false [a, .sc (.slice none 0 0)] 1 :: xs) h K :=
  ⟨s.call, s.fresh, fun F w vs h1 h2 c => s.runs F w vs h1 h2 (by
    cases c with
    | cons k t =>
      refine .cons ?_ t
      cases k with
      | fz hb hr k hl =>
        cases k with
        | cons k1 k2 => cases k2 with
          | cons k2 k3 => exact .fz hb hr (.cons k1 (.cons (by cases k2; exact .fznil) k3)) hl)⟩
theorem addV_is {l m : List Rw} {id : Int} {T : List Ks} (h : OkR l) (hid : nmd id) (hT : tagsOk T) (hm : CanR m) (hp : ∀ p, p ∈ flat m → p ∈ keepP (flat l) id ++ T.map fun t => ⟨t, id⟩) (hq : ∀ p, p ∈ (keepP (flat l) id ++ T.map fun t => (⟨t, id⟩ : Pr)) → p ∈ flat m) : addV l id T = (m, 0) := by
  have he : errA id T = 0 := by unfold errA; rw [if_pos hid, tagsV_ok hT]
  have e1 : (addV l id T).1 = m := can_ext (addV_ok h id T).can hm fun p => by
    rw [mem_addV h he, tagsV_ok hT]
    constructor
    · intro k
      refine hq p (List.mem_append.2 ?_)
      rcases k with k | ⟨k1, k2⟩
      · exact .inl (mem_keep.2 k)
      · exact .inr (List.mem_map.2 ⟨p.tag, srtd_mem.1 k2, by cases p; simp_all⟩)
    · intro k
      rcases List.mem_append.1 (hp p k) with k | k
      · exact .inl (mem_keep.1 k)
      · obtain ⟨t, ht, rfl⟩ := List.mem_map.1 k
        exact .inr ⟨rfl, srtd_mem.2 ht⟩
  exact Prod.ext e1 ((addV_err h id T).trans he)
theorem dropV_is {l m : List Rw} {id : Int} (h : OkR l) (hm : CanR m) (hp : ∀ p, p ∈ flat m → p ∈ keepP (flat l) id) (hq : ∀ p, p ∈ keepP (flat l) id → p ∈ flat m) : dropV l id = m :=
  can_ext (dropV_ok h id).can hm fun p => by rw [mem_dropV h, ← mem_keep]; exact ⟨hq p, hp p⟩
def L1 : List Rw := [⟨[120], [5]⟩, ⟨[121], [5]⟩]
def L2 : List Rw := [⟨[120], [2, 5]⟩, ⟨[121], [5]⟩]
def M2 : List Rw := [⟨[120], [2]⟩, ⟨[122], [5]⟩]
def D2 : List Rw := [⟨[120], [2]⟩]
instance (l : List Rw) : Decidable (CanR l) := by unfold CanR; infer_instance
theorem add1 : addV [] 5 [[121], [120]] = (L1, 0) := addV_is ok_nil (by decide) (by decide) (by decide) (by decide) (by decide)
theorem ok1 : OkR L1 := by have := addV_ok ok_nil 5 [[121], [120]]; rwa [add1] at this
theorem add2 : addV L1 2 [[120]] = (L2, 0) := addV_is ok1 (by decide) (by decide) (by decide) (by decide) (by decide)
theorem ok2 : OkR L2 := by have := addV_ok ok1 2 [[120]]; rwa [add2] at this
theorem add3 : addV L2 64 [] = (L2, 110) := by rw [addV_eq ok2, if_neg (by decide)]
theorem add4 : addV L2 1 [[]] = (L2, 90) := by rw [addV_eq ok2, if_pos (by decide), tagsV_no (by decide), if_neg (by decide)]
theorem add5 : addV L2 5 [[122]] = (M2, 0) := addV_is ok2 (by decide) (by decide) (by decide) (by decide) (by decide)
theorem okM : OkR M2 := by have := addV_ok ok2 5 [[122]]; rwa [add5] at this
theorem drop2 : dropV L2 5 = D2 := dropV_is ok2 (by decide) (by decide) (by decide)
theorem whoC_eq {l : List Rw} (h : OkR l) (t : Ks) : whoC l t = whoV l t := by unfold whoC; rw [if_pos (chkR_ok h)]
theorem size2 : L2.length ≤ 1000000 ∧ ∀ r, r ∈ L2 → r.tag.length ≤ 1000000 ∧ r.ids.length ≤ 1000000 := ok_size ok2
attribute [local irreducible] Go.Idl.IWP Go.Idl.IOps Go.Idl.Obl Go.Idl.OpG Go.Idl.thenI Go.Idl.inBlockI Go.Idl.LoopU Go.Idl.noGotoI Go.Idl.jumpI
attribute [local go_sem] List.length_set bl_of bl_no List.drop_length Nat.sub_self
theorem tags_awake : Idl.Spec Try.prog 24 [] [] (Only (.sc (.bool true)) []) := by
  have s1 := SpecA.nil0 (add_spec [] 5 [[121], [120]] (by decide) (by simp) (by decide) (by decide))
  rw [add1] at s1
  have s2 := add_spec L1 2 [[120]] (ok_size ok1).1 (ok_size ok1).2 (by decide) (by decide)
  rw [add2] at s2
  have s3 := SpecA.nil2 (add_spec L2 64 [] size2.1 size2.2 (by decide) (by simp))
  rw [add3] at s3
  have s4 := add_spec L2 1 [[]] size2.1 size2.2 (by decide) (by decide)
  rw [add4] at s4
  have s5 := add_spec L2 5 [[122]] size2.1 size2.2 (by decide) (by decide)
  rw [add5] at s5
  have s6 := drop_spec L2 5 size2.1 size2.2
  rw [drop2] at s6
  have o1 := tgof_spec L2 [120] size2.1 size2.2
  rw [whoC_eq ok2, show whoV L2 [120] = [2, 5] by decide] at o1
  have o2 := tgof_spec L2 [122] size2.1 size2.2
  rw [whoC_eq ok2, show whoV L2 [122] = [] by decide] at o2
  have t1 := tgtags_spec L2 5 size2.1 size2.2
  rw [tgsC_eq ok2, show tgsV L2 5 = [[120], [121]] by decide] at t1
  have t2 := tgtags_spec M2 5 (ok_size okM).1 (ok_size okM).2
  rw [tgsC_eq okM, show tgsV M2 5 = [[122]] by decide] at t2
  have c1 := tcheck_spec L2 size2.1 size2.2
  rw [chkR_ok ok2] at c1
  have c2 := Spec.nilR (tcheck_spec [⟨[120], []⟩] (by decide) (by decide))
  rw [chkR_no (l := [⟨[120], []⟩]) fun h => (h.can.2 ⟨[120], []⟩ (by simp)).1 rfl] at c2
  have e1 := isame_spec [2, 5] [2, 5] (by decide)
  rw [decide_eq_true (by rfl)] at e1
  have e2 := ssame_spec [[120], [121]] [[120], [121]] (by decide)
  rw [decide_eq_true (by rfl)] at e2
  have e3 := ssame_spec [[122]] [[122]] (by decide)
  rw [decide_eq_true (by rfl)] at e3
  refine sB Try.func24 Try.ntmps24 ?_
  repeat' (first|refine IOps_nil ?_|refine oS ?_|refine IOps_s rfl rfl ?_|refine oT ?_|refine IOps_s0 rfl ?_|refine oZ ?_|refine oI ?_|refine oAB ?_|refine thenI_n ?_|refine IWP_seq ?_|refine IWP_region ?_|refine IWP_ct rfl ?_|refine IWP_cf rfl ?_|refine IWP_skip ?_|refine IWP_ret ?_|refine IWP_block ?_|refine inB_n ?_|refine thenI_r ?_|refine thenI_e ?_|refine inB_r ?_|refine inB_hit ?_|refine inB_miss rfl ?_|refine IWP_exit ?_|refine IWP_scope ?_|refine IWP_label ?_|refine noG_n ?_|refine noG_r ?_|refine noG_e ?_|refine jmp_n ?_|refine jmp_r ?_|refine jmp_e ?_|refine jmp_g ?_|refine thenI_g ?_|refine inB_g ?_|refine IWP_goto ?_|refine Loop_n ?_|fail)
  refine oF 12 ?_
  repeat' (first|refine IOps_nil ?_|refine oS ?_|refine IOps_s rfl rfl ?_|refine oT ?_|refine IOps_s0 rfl ?_|refine oA (π:=[]) (hs:=by first|exact s1|fail) (hx:=?_)|refine oZ ?_|refine oI ?_|refine oAB ?_|refine thenI_n ?_|refine IWP_seq ?_|refine IWP_region ?_|refine IWP_ct rfl ?_|refine IWP_cf rfl ?_|refine IWP_skip ?_|refine IWP_ret ?_|refine IWP_block ?_|refine inB_n ?_|refine thenI_r ?_|refine thenI_e ?_|refine inB_r ?_|refine inB_hit ?_|refine inB_miss rfl ?_|refine IWP_exit ?_|refine IWP_scope ?_|refine IWP_label ?_|refine noG_n ?_|refine noG_r ?_|refine noG_e ?_|refine jmp_n ?_|refine jmp_r ?_|refine jmp_e ?_|refine jmp_g ?_|refine thenI_g ?_|refine inB_g ?_|refine IWP_goto ?_|refine Loop_n ?_|fail)
  refine oF 18 ?_
  repeat' (first|refine IOps_nil ?_|refine oS ?_|refine IOps_s rfl rfl ?_|refine oT ?_|refine IOps_s0 rfl ?_|refine oA (π:=[]) (hs:=by first|exact s2|fail) (hx:=?_)|refine oA (π:=[]) (hs:=by first|exact s3|fail) (hx:=?_)|refine oZ ?_|refine oI ?_|refine oAB ?_|refine thenI_n ?_|refine IWP_seq ?_|refine IWP_region ?_|refine IWP_ct rfl ?_|refine IWP_cf rfl ?_|refine IWP_skip ?_|refine IWP_ret ?_|refine IWP_block ?_|refine inB_n ?_|refine thenI_r ?_|refine thenI_e ?_|refine inB_r ?_|refine inB_hit ?_|refine inB_miss rfl ?_|refine IWP_exit ?_|refine IWP_scope ?_|refine IWP_label ?_|refine noG_n ?_|refine noG_r ?_|refine noG_e ?_|refine jmp_n ?_|refine jmp_r ?_|refine jmp_e ?_|refine jmp_g ?_|refine thenI_g ?_|refine inB_g ?_|refine IWP_goto ?_|refine Loop_n ?_|fail)
  refine oF 29 ?_
  repeat' (first|refine IOps_nil ?_|refine oS ?_|refine IOps_s rfl rfl ?_|refine oT ?_|refine IOps_s0 rfl ?_|refine oA (π:=[]) (hs:=by first|exact s4|fail) (hx:=?_)|refine oZ ?_|refine oI ?_|refine oAB ?_|refine thenI_n ?_|refine IWP_seq ?_|refine IWP_region ?_|refine IWP_ct rfl ?_|refine IWP_cf rfl ?_|refine IWP_skip ?_|refine IWP_ret ?_|refine IWP_block ?_|refine inB_n ?_|refine thenI_r ?_|refine thenI_e ?_|refine inB_r ?_|refine inB_hit ?_|refine inB_miss rfl ?_|refine IWP_exit ?_|refine IWP_scope ?_|refine IWP_label ?_|refine noG_n ?_|refine noG_r ?_|refine noG_e ?_|refine jmp_n ?_|refine jmp_r ?_|refine jmp_e ?_|refine jmp_g ?_|refine thenI_g ?_|refine inB_g ?_|refine IWP_goto ?_|refine Loop_n ?_|fail)
  refine oF 35 ?_
  repeat' (first|refine IOps_nil ?_|refine oS ?_|refine IOps_s rfl rfl ?_|refine oT ?_|refine IOps_s0 rfl ?_|refine oA (π:=[]) (hs:=by first|exact s5|fail) (hx:=?_)|refine oA (π:=[]) (hs:=by first|exact s6|fail) (hx:=?_)|refine oC (π:=[]) (hs:=by first|exact o1|fail) (hx:=?_)|refine oC (π:=[]) (hs:=by first|exact o2|fail) (hx:=?_)|refine oC (π:=[]) (hs:=by first|exact t1|fail) (hx:=?_)|refine oC (π:=[]) (hs:=by first|exact t2|fail) (hx:=?_)|refine oC (π:=[]) (hs:=by first|exact c1|fail) (hx:=?_)|refine oC (π:=[]) (hs:=by first|exact c2|fail) (hx:=?_)|refine oC (π:=[]) (hs:=by first|exact e1|fail) (hx:=?_)|refine oC (π:=[]) (hs:=by first|exact e2|fail) (hx:=?_)|refine oC (π:=[]) (hs:=by first|exact e3|fail) (hx:=?_)|refine oZ ?_|refine oI ?_|refine oAB ?_|refine thenI_n ?_|refine IWP_seq ?_|refine IWP_region ?_|refine IWP_ct rfl ?_|refine IWP_cf rfl ?_|refine IWP_skip ?_|refine IWP_ret ?_|refine IWP_block ?_|refine inB_n ?_|refine thenI_r ?_|refine thenI_e ?_|refine inB_r ?_|refine inB_hit ?_|refine inB_miss rfl ?_|refine IWP_exit ?_|refine IWP_scope ?_|refine IWP_label ?_|refine noG_n ?_|refine noG_r ?_|refine noG_e ?_|refine jmp_n ?_|refine jmp_r ?_|refine jmp_e ?_|refine jmp_g ?_|refine thenI_g ?_|refine inB_g ?_|refine IWP_goto ?_|refine Loop_n ?_|fail)
  exact pD [] ⟨rfl, rfl⟩
end Go.Proofs.Ytmgcoopmbohkoaa

namespace Go.Proofs.Ytmgcoopmbohkoaa
open Go Go.Idl
set_option linter.unusedSimpArgs false
set_option linter.unusedVariables false
set_option maxRecDepth 100000
set_option maxHeartbeats 8000000
attribute [local irreducible] Go.Idl.IWP Go.Idl.IOps Go.Idl.Obl Go.Idl.OpG Go.Idl.thenI Go.Idl.inBlockI Go.Idl.LoopU Go.Idl.noGotoI Go.Idl.jumpI
attribute [local go_sem] List.length_set bl_of bl_no List.drop_length Nat.sub_self
end Go.Proofs.Ytmgcoopmbohkoaa

namespace Go.Proofs.Ytmgcoopmbohkoaa
open Go Go.Idl
set_option linter.unusedSimpArgs false
set_option linter.unusedVariables false
set_option maxRecDepth 100000
set_option maxHeartbeats 8000000
theorem fewK_size {T : List Ks} (h : fewK T 10) : T.length ≤ 1000000 ∧ ∀ t, t ∈ T → t.length ≤ 1000000000 := by
  refine ⟨by have := h.2; omega, fun t ht => ?_⟩
  have := h.1 t ht
  omega
theorem ssame_refl (a : List Ks) (ha : a.length ≤ 1000000) : Idl.Spec Try.prog 18 [.fz false (strs a) a.length, .fz false (strs a) a.length] [] (Only (.sc (.bool true)) []) := by
  have := ssame_spec a a ha
  rwa [decide_eq_true rfl] at this
theorem tgt_spec {l : List Rw} (h : OkR l) (id : Int) : Idl.Spec Try.prog 27 [.fz false (rows false l) l.length, .i64 id] [] (Only (.fz true (strs (tgsV l id)) (tgsV l id).length) []) := by
  have := tgtags_spec l id (ok_size h).1 (ok_size h).2
  rwa [tgsC_eq h] at this
attribute [local irreducible] Go.Idl.IWP Go.Idl.IOps Go.Idl.Obl Go.Idl.OpG Go.Idl.thenI Go.Idl.inBlockI Go.Idl.LoopU Go.Idl.noGotoI Go.Idl.jumpI
attribute [local go_sem] List.length_set bl_of bl_no List.drop_length Nat.sub_self
end Go.Proofs.Ytmgcoopmbohkoaa

namespace Go.Proofs.Ytmgcoopmbohkoaa
open Go Go.Idl
set_option linter.unusedSimpArgs false
set_option linter.unusedVariables false
set_option maxRecDepth 100000
set_option maxHeartbeats 8000000
theorem addV_p {l : List Rw} (h : OkR l) (id : Int) (T : List Ks) : addV l id T = ((addV l id T).1, errA id T) := Prod.ext rfl (addV_err h id T)
attribute [local irreducible] Go.Idl.IWP Go.Idl.IOps Go.Idl.Obl Go.Idl.OpG Go.Idl.thenI Go.Idl.inBlockI Go.Idl.LoopU Go.Idl.noGotoI Go.Idl.jumpI
attribute [local go_sem] List.length_set bl_of bl_no List.drop_length Nat.sub_self
end Go.Proofs.Ytmgcoopmbohkoaa

namespace Go.Proofs.Ytmgcoopmbohkoaa
open Go Go.Idl
set_option linter.unusedSimpArgs false
set_option linter.unusedVariables false
set_option maxRecDepth 100000
set_option maxHeartbeats 8000000
theorem doV_add (X : List Rw) (hX : OkR X) {d : Bool} (hd : d = false) (id : Int) (T : List Ks) : doV X ⟨d, id, T⟩ = ((addV X id T).1, errA id T) := by subst hd; exact addV_p hX id T
theorem doV_drop (X : List Rw) {d : Bool} (hd : d = true) (id : Int) (T : List Ks) : doV X ⟨d, id, T⟩ = (dropV X id, 0) := by subst hd; rfl
attribute [local irreducible] Go.Idl.IWP Go.Idl.IOps Go.Idl.Obl Go.Idl.OpG Go.Idl.thenI Go.Idl.inBlockI Go.Idl.LoopU Go.Idl.noGotoI Go.Idl.jumpI
attribute [local go_sem] List.length_set bl_of bl_no List.drop_length Nat.sub_self
theorem model_law (l : List Tst) (id : Int) (hL : l.length ≤ 9223372036854775807) (hT : ∀ s, s ∈ l → s.tags.length ≤ 9223372036854775807) : Idl.Spec Try.prog 8 [.fz false (tsteps false l) l.length, .i64 id] [] (Only (.sc (.bool true)) []) := by
  have hfs := tfew_spec l 40 hL hT
  by_cases hf : fewT l 40
  · rw [decide_eq_true hf] at hfs
    have hl40 : l.length ≤ 40 := by have := hf.2; omega
    refine sB Try.func8 Try.ntmps8 ?_
    repeat' (first|refine IOps_nil ?_|refine oS ?_|refine IOps_s rfl rfl ?_|refine oT ?_|refine IOps_s0 rfl ?_|refine oC (π:=[]) (hs:=by first|exact tags_awake|fail) (hx:=?_)|refine oC (π:=[]) (hs:=by first|exact hfs|fail) (hx:=?_)|refine oZ ?_|refine oI ?_|refine oAB ?_|refine thenI_n ?_|refine IWP_seq ?_|refine IWP_region ?_|refine IWP_ct rfl ?_|refine IWP_cf rfl ?_|refine IWP_skip ?_|refine IWP_ret ?_|refine IWP_block ?_|refine inB_n ?_|refine thenI_r ?_|refine thenI_e ?_|refine inB_r ?_|refine inB_hit ?_|refine inB_miss rfl ?_|refine IWP_exit ?_|refine IWP_scope ?_|refine IWP_label ?_|refine noG_n ?_|refine noG_r ?_|refine noG_e ?_|refine jmp_n ?_|refine jmp_r ?_|refine jmp_e ?_|refine jmp_g ?_|refine thenI_g ?_|refine inB_g ?_|refine IWP_goto ?_|refine Loop_n ?_|fail)
    refine wN0 6 ?_
    refine wN0 7 ?_
    refine IWP_loop (fun x : List Rw × Nat => ⟨70, [(0, .fz false (tsteps false l) l.length), (1, .i64 id), (4, .sc (.bool false)), (5, .sc (.bool true)), (6, .fz false (rows false x.1) x.1.length), (7, .fz false (strs (tgsV x.1 id)) (tgsV x.1 id).length), (8, .i64 x.2)], []⟩) (fun x => x.2 ≤ l.length ∧ OkR x.1) (fun x => l.length - x.2) ([], 0) (lS []) ⟨Nat.zero_le _, ok_nil⟩ ?_
    rintro ⟨X, i⟩ ⟨hi, hX⟩
    simp only at hi hX ⊢
    by_cases h : i < l.length
    · have hk := (hf.1 _ (getD_mem (d := default) h)).2
      obtain ⟨hk1, hk2⟩ := fewK_size hk
      have hdo := do_spec X (l.getD i default).drop (l.getD i default).id (l.getD i default).tags (ok_size hX).1 (ok_size hX).2 hk1 hk2
      have hts := tags_spec (l.getD i default).tags hk1 hk2
      by_cases hd : (l.getD i default).drop = true
      · rw [doV_drop X hd] at hdo
        by_cases hid : (l.getD i default).id = id
        · repeat' (first|refine IOps_nil ?_|refine oS ?_|refine IOps_s rfl rfl ?_|refine oT ?_|refine IOps_s0 rfl ?_|refine oA (π:=[]) (hs:=by first|exact hdo|fail) (hx:=?_)|refine oZ ?_|refine oI ?_|refine oAB ?_|refine thenI_n ?_|refine IWP_seq ?_|refine IWP_region ?_|refine IWP_ct rfl ?_|refine IWP_cf rfl ?_|refine IWP_skip ?_|refine IWP_ret ?_|refine IWP_block ?_|refine inB_n ?_|refine thenI_r ?_|refine thenI_e ?_|refine inB_r ?_|refine inB_hit ?_|refine inB_miss rfl ?_|refine IWP_exit ?_|refine IWP_scope ?_|refine IWP_label ?_|refine noG_n ?_|refine noG_r ?_|refine noG_e ?_|refine jmp_n ?_|refine jmp_r ?_|refine jmp_e ?_|refine jmp_g ?_|refine thenI_g ?_|refine inB_g ?_|refine IWP_goto ?_|refine Loop_n ?_|fail)
          refine wN0 7 ?_
          rw [hd]
          repeat' (first|refine IOps_nil ?_|refine oS ?_|refine IOps_s rfl rfl ?_|refine oT ?_|refine IOps_s0 rfl ?_|refine oZ ?_|refine oI ?_|refine oAB ?_|refine thenI_n ?_|refine IWP_seq ?_|refine IWP_region ?_|refine IWP_ct rfl ?_|refine IWP_cf rfl ?_|refine IWP_skip ?_|refine IWP_ret ?_|refine IWP_block ?_|refine inB_n ?_|refine thenI_r ?_|refine thenI_e ?_|refine inB_r ?_|refine inB_hit ?_|refine inB_miss rfl ?_|refine IWP_exit ?_|refine IWP_scope ?_|refine IWP_label ?_|refine noG_n ?_|refine noG_r ?_|refine noG_e ?_|refine jmp_n ?_|refine jmp_r ?_|refine jmp_e ?_|refine jmp_g ?_|refine thenI_g ?_|refine inB_g ?_|refine IWP_goto ?_|refine Loop_n ?_|fail)
          refine ⟨(dropV X (l.getD i default).id, i + 1), ⟨h, dropV_ok hX _⟩, by simp only; omega, ?_⟩
          simp only
          rw [show tgsV (dropV X (l.getD i default).id) id = [] from hid ▸ tgs_drop hX]
          exact lS []
        · repeat' (first|refine IOps_nil ?_|refine oS ?_|refine IOps_s rfl rfl ?_|refine oT ?_|refine IOps_s0 rfl ?_|refine oA (π:=[]) (hs:=by first|exact hdo|fail) (hx:=?_)|refine oZ ?_|refine oI ?_|refine oAB ?_|refine thenI_n ?_|refine IWP_seq ?_|refine IWP_region ?_|refine IWP_ct rfl ?_|refine IWP_cf rfl ?_|refine IWP_skip ?_|refine IWP_ret ?_|refine IWP_block ?_|refine inB_n ?_|refine thenI_r ?_|refine thenI_e ?_|refine inB_r ?_|refine inB_hit ?_|refine inB_miss rfl ?_|refine IWP_exit ?_|refine IWP_scope ?_|refine IWP_label ?_|refine noG_n ?_|refine noG_r ?_|refine noG_e ?_|refine jmp_n ?_|refine jmp_r ?_|refine jmp_e ?_|refine jmp_g ?_|refine thenI_g ?_|refine inB_g ?_|refine IWP_goto ?_|refine Loop_n ?_|fail)
          refine ⟨(dropV X (l.getD i default).id, i + 1), ⟨h, dropV_ok hX _⟩, by simp only; omega, ?_⟩
          simp only
          rw [tgs_drop_other hX (Ne.symm hid)]
          exact lS []
      · have hd : (l.getD i default).drop = false := by simpa using hd
        rw [doV_add X hX hd] at hdo
        by_cases he : errA (l.getD i default).id (l.getD i default).tags = 0
        · by_cases hid : (l.getD i default).id = id
          · rw [he] at hdo
            repeat' (first|refine IOps_nil ?_|refine oS ?_|refine IOps_s rfl rfl ?_|refine oT ?_|refine IOps_s0 rfl ?_|refine oA (π:=[]) (hs:=by first|exact hdo|fail) (hx:=?_)|refine oZ ?_|refine oI ?_|refine oAB ?_|refine thenI_n ?_|refine IWP_seq ?_|refine IWP_region ?_|refine IWP_ct rfl ?_|refine IWP_cf rfl ?_|refine IWP_skip ?_|refine IWP_ret ?_|refine IWP_block ?_|refine inB_n ?_|refine thenI_r ?_|refine thenI_e ?_|refine inB_r ?_|refine inB_hit ?_|refine inB_miss rfl ?_|refine IWP_exit ?_|refine IWP_scope ?_|refine IWP_label ?_|refine noG_n ?_|refine noG_r ?_|refine noG_e ?_|refine jmp_n ?_|refine jmp_r ?_|refine jmp_e ?_|refine jmp_g ?_|refine thenI_g ?_|refine inB_g ?_|refine IWP_goto ?_|refine Loop_n ?_|fail)
            rw [hd]
            repeat' (first|refine IOps_nil ?_|refine oS ?_|refine IOps_s rfl rfl ?_|refine oT ?_|refine IOps_s0 rfl ?_|refine oC (π:=[]) (hs:=by first|exact hts|fail) (hx:=?_)|refine oZ ?_|refine oI ?_|refine oAB ?_|refine thenI_n ?_|refine IWP_seq ?_|refine IWP_region ?_|refine IWP_ct rfl ?_|refine IWP_cf rfl ?_|refine IWP_skip ?_|refine IWP_ret ?_|refine IWP_block ?_|refine inB_n ?_|refine thenI_r ?_|refine thenI_e ?_|refine inB_r ?_|refine inB_hit ?_|refine inB_miss rfl ?_|refine IWP_exit ?_|refine IWP_scope ?_|refine IWP_label ?_|refine noG_n ?_|refine noG_r ?_|refine noG_e ?_|refine jmp_n ?_|refine jmp_r ?_|refine jmp_e ?_|refine jmp_g ?_|refine thenI_g ?_|refine inB_g ?_|refine IWP_goto ?_|refine Loop_n ?_|fail)
            refine ⟨((addV X (l.getD i default).id (l.getD i default).tags).1, i + 1), ⟨h, addV_ok hX _ _⟩, by simp only; omega, ?_⟩
            simp only
            rw [show tgsV (addV X (l.getD i default).id (l.getD i default).tags).1 id = (tagsV (l.getD i default).tags).1 from hid ▸ tgs_add hX he]
            exact lS []
          · rw [he] at hdo
            repeat' (first|refine IOps_nil ?_|refine oS ?_|refine IOps_s rfl rfl ?_|refine oT ?_|refine IOps_s0 rfl ?_|refine oA (π:=[]) (hs:=by first|exact hdo|fail) (hx:=?_)|refine oZ ?_|refine oI ?_|refine oAB ?_|refine thenI_n ?_|refine IWP_seq ?_|refine IWP_region ?_|refine IWP_ct rfl ?_|refine IWP_cf rfl ?_|refine IWP_skip ?_|refine IWP_ret ?_|refine IWP_block ?_|refine inB_n ?_|refine thenI_r ?_|refine thenI_e ?_|refine inB_r ?_|refine inB_hit ?_|refine inB_miss rfl ?_|refine IWP_exit ?_|refine IWP_scope ?_|refine IWP_label ?_|refine noG_n ?_|refine noG_r ?_|refine noG_e ?_|refine jmp_n ?_|refine jmp_r ?_|refine jmp_e ?_|refine jmp_g ?_|refine thenI_g ?_|refine inB_g ?_|refine IWP_goto ?_|refine Loop_n ?_|fail)
            refine ⟨((addV X (l.getD i default).id (l.getD i default).tags).1, i + 1), ⟨h, addV_ok hX _ _⟩, by simp only; omega, ?_⟩
            simp only
            rw [tgs_other hX (Ne.symm hid)]
            exact lS []
        · rw [addV_no hX he] at hdo
          generalize errA (l.getD i default).id (l.getD i default).tags = ee at *
          repeat' (first|refine IOps_nil ?_|refine oS ?_|refine IOps_s rfl rfl ?_|refine oT ?_|refine IOps_s0 rfl ?_|refine oA (π:=[]) (hs:=by first|exact hdo|fail) (hx:=?_)|refine oZ ?_|refine oI ?_|refine oAB ?_|refine thenI_n ?_|refine IWP_seq ?_|refine IWP_region ?_|refine IWP_ct rfl ?_|refine IWP_cf rfl ?_|refine IWP_skip ?_|refine IWP_ret ?_|refine IWP_block ?_|refine inB_n ?_|refine thenI_r ?_|refine thenI_e ?_|refine inB_r ?_|refine inB_hit ?_|refine inB_miss rfl ?_|refine IWP_exit ?_|refine IWP_scope ?_|refine IWP_label ?_|refine noG_n ?_|refine noG_r ?_|refine noG_e ?_|refine jmp_n ?_|refine jmp_r ?_|refine jmp_e ?_|refine jmp_g ?_|refine thenI_g ?_|refine inB_g ?_|refine IWP_goto ?_|refine Loop_n ?_|fail)
          refine ⟨(X, i + 1), ⟨h, hX⟩, by simp only; omega, ?_⟩
          simp only
          exact lS []
    · obtain rfl : i = l.length := by omega
      have h3 := tgs_three hX id
      have t1 := tgt_spec hX id
      have r1 := ssame_refl (tgsV X id) (by omega)
      have c1 := tcheck_spec X (ok_size hX).1 (ok_size hX).2
      rw [chkR_ok hX] at c1
      repeat' (first|refine IOps_nil ?_|refine oS ?_|refine IOps_s rfl rfl ?_|refine oT ?_|refine IOps_s0 rfl ?_|refine oC (π:=[]) (hs:=by first|exact t1|fail) (hx:=?_)|refine oC (π:=[]) (hs:=by first|exact r1|fail) (hx:=?_)|refine oC (π:=[]) (hs:=by first|exact c1|fail) (hx:=?_)|refine oZ ?_|refine oI ?_|refine oAB ?_|refine thenI_n ?_|refine IWP_seq ?_|refine IWP_region ?_|refine IWP_ct rfl ?_|refine IWP_cf rfl ?_|refine IWP_skip ?_|refine IWP_ret ?_|refine IWP_block ?_|refine inB_n ?_|refine thenI_r ?_|refine thenI_e ?_|refine inB_r ?_|refine inB_hit ?_|refine inB_miss rfl ?_|refine IWP_exit ?_|refine IWP_scope ?_|refine IWP_label ?_|refine noG_n ?_|refine noG_r ?_|refine noG_e ?_|refine jmp_n ?_|refine jmp_r ?_|refine jmp_e ?_|refine jmp_g ?_|refine thenI_g ?_|refine inB_g ?_|refine IWP_goto ?_|refine Loop_n ?_|fail)
      exact pD [] ⟨rfl, rfl⟩
  · rw [decide_eq_false hf] at hfs
    refine sB Try.func8 Try.ntmps8 ?_
    repeat' (first|refine IOps_nil ?_|refine oS ?_|refine IOps_s rfl rfl ?_|refine oT ?_|refine IOps_s0 rfl ?_|refine oC (π:=[]) (hs:=by first|exact tags_awake|fail) (hx:=?_)|refine oC (π:=[]) (hs:=by first|exact hfs|fail) (hx:=?_)|refine oZ ?_|refine oI ?_|refine oAB ?_|refine thenI_n ?_|refine IWP_seq ?_|refine IWP_region ?_|refine IWP_ct rfl ?_|refine IWP_cf rfl ?_|refine IWP_skip ?_|refine IWP_ret ?_|refine IWP_block ?_|refine inB_n ?_|refine thenI_r ?_|refine thenI_e ?_|refine inB_r ?_|refine inB_hit ?_|refine inB_miss rfl ?_|refine IWP_exit ?_|refine IWP_scope ?_|refine IWP_label ?_|refine noG_n ?_|refine noG_r ?_|refine noG_e ?_|refine jmp_n ?_|refine jmp_r ?_|refine jmp_e ?_|refine jmp_g ?_|refine thenI_g ?_|refine inB_g ?_|refine IWP_goto ?_|refine Loop_n ?_|fail)
    exact pD [] ⟨rfl, rfl⟩
end Go.Proofs.Ytmgcoopmbohkoaa
