/-
  Tags: the laws' own functions: few and do.
-/
import Derived.Test.YtmgcoopmbohkoaaTeM
namespace Go.Proofs.Ytmgcoopmbohkoaa
open Go Go.Idl
set_option linter.unusedSimpArgs false
set_option linter.unusedVariables false
set_option maxRecDepth 100000
set_option maxHeartbeats 8000000
attribute [local irreducible] Go.Idl.IWP Go.Idl.IOps Go.Idl.Obl Go.Idl.OpG Go.Idl.thenI Go.Idl.inBlockI Go.Idl.LoopU Go.Idl.noGotoI Go.Idl.jumpI
attribute [local go_sem] List.length_set bl_of bl_no List.drop_length Nat.sub_self
def fewT (l : List Tst) (m : Int) : Prop := (∀ s, s ∈ l → s.tags.length ≤ 10 ∧ fewK s.tags 10) ∧ (l.length : Int) ≤ m
instance (l : List Tst) (m : Int) : Decidable (fewT l m) := by unfold fewT; infer_instance
end Go.Proofs.Ytmgcoopmbohkoaa

namespace Go.Proofs.Ytmgcoopmbohkoaa
open Go Go.Idl
set_option linter.unusedSimpArgs false
set_option linter.unusedVariables false
set_option maxRecDepth 100000
set_option maxHeartbeats 8000000
theorem SpecA.nil2 {P : Program} {f : FuncId} {a b : IV} {xs : List IV} {h : List HO} {K : IV → List HO → Prop} (s : SpecA P f (a :: b :: .fz false [] 0 :: xs) h K) : SpecA P f (a :: b :: .sc (.slice none 0 0) :: xs) h K :=
  ⟨s.call, fun F w vs h1 h2 c => s.runs F w vs h1 h2 (by cases c with | cons p t => cases t with | cons q t => cases t with | cons r t => exact .cons p (.cons q (.cons (by cases r; exact .fznil) t)))⟩
theorem Spec.nilR {P : Program} {f : FuncId} {a : IV} {xs : List IV} {h : List HO} {K : IV → List HO → Prop} (s : Idl.Spec P f (.fz false [a, .fz false [] 0] 1 :: xs) h K) : Idl.Spec P f (.fz false [a, .sc (.slice none 0 0)] 1 :: xs) h K :=
  ⟨s.call, s.fresh, fun F w vs h1 h2 c => s.runs F w vs h1 h2 (by
    cases c with
    | cons k t =>
      refine .cons ?_ t
      cases k with
      | fz hb hr k hl =>
        cases k with
        | cons k1 k2 => cases k2 with
          | cons k2 k3 => exact .fz hb hr (.cons k1 (.cons (by cases k2; exact .fznil) k3)) hl)⟩
theorem addV_is {l m : List Rw} {id : Int} {T : List Ks} (h : OkR l) (hid : nmd id) (hT : tagsOk T) (hm : CanR m) (hp : ∀ p, p ∈ flat m → p ∈ keepP (flat l) id ++ T.map fun t => ⟨t, id⟩) (hq : ∀ p, p ∈ (keepP (flat l) id ++ T.map fun t => (⟨t, id⟩ : Pr)) → p ∈ flat m) : addV l id T = (m, 0) := by
  have he : errA id T = 0 := by unfold errA; rw [if_pos hid, tagsV_ok hT]
  have e1 : (addV l id T).1 = m := can_ext (addV_ok h id T).can hm fun p => by
    rw [mem_addV h he, tagsV_ok hT]
    constructor
    · intro k
      refine hq p (List.mem_append.2 ?_)
      rcases k with k | ⟨k1, k2⟩
      · exact .inl (mem_keep.2 k)
      · exact .inr (List.mem_map.2 ⟨p.tag, srtd_mem.1 k2, by cases p; simp_all⟩)
    · intro k
      rcases List.mem_append.1 (hp p k) with k | k
      · exact .inl (mem_keep.1 k)
      · obtain ⟨t, ht, rfl⟩ := List.mem_map.1 k
        exact .inr ⟨rfl, srtd_mem.2 ht⟩
  exact Prod.ext e1 ((addV_err h id T).trans he)
theorem dropV_is {l m : List Rw} {id : Int} (h : OkR l) (hm : CanR m) (hp : ∀ p, p ∈ flat m → p ∈ keepP (flat l) id) (hq : ∀ p, p ∈ keepP (flat l) id → p ∈ flat m) : dropV l id = m :=
  can_ext (dropV_ok h id).can hm fun p => by rw [mem_dropV h, ← mem_keep]; exact ⟨hq p, hp p⟩
def L1 : List Rw := [⟨[120], [5]⟩, ⟨[121], [5]⟩]
def L2 : List Rw := [⟨[120], [2, 5]⟩, ⟨[121], [5]⟩]
def M2 : List Rw := [⟨[120], [2]⟩, ⟨[122], [5]⟩]
def D2 : List Rw := [⟨[120], [2]⟩]
instance (l : List Rw) : Decidable (CanR l) := by unfold CanR; infer_instance
theorem add1 : addV [] 5 [[121], [120]] = (L1, 0) := addV_is ok_nil (by decide) (by decide) (by decide) (by decide) (by decide)
theorem ok1 : OkR L1 := by have := addV_ok ok_nil 5 [[121], [120]]; rwa [add1] at this
theorem add2 : addV L1 2 [[120]] = (L2, 0) := addV_is ok1 (by decide) (by decide) (by decide) (by decide) (by decide)
theorem ok2 : OkR L2 := by have := addV_ok ok1 2 [[120]]; rwa [add2] at this
theorem add3 : addV L2 64 [] = (L2, 110) := by rw [addV_eq ok2, if_neg (by decide)]
theorem add4 : addV L2 1 [[]] = (L2, 90) := by rw [addV_eq ok2, if_pos (by decide), tagsV_no (by decide), if_neg (by decide)]
theorem add5 : addV L2 5 [[122]] = (M2, 0) := addV_is ok2 (by decide) (by decide) (by decide) (by decide) (by decide)
theorem okM : OkR M2 := by have := addV_ok ok2 5 [[122]]; rwa [add5] at this
theorem drop2 : dropV L2 5 = D2 := dropV_is ok2 (by decide) (by decide) (by decide)
theorem whoC_eq {l : List Rw} (h : OkR l) (t : Ks) : whoC l t = whoV l t := by unfold whoC; rw [if_pos (chkR_ok h)]
theorem size2 : L2.length ≤ 1000000 ∧ ∀ r, r ∈ L2 → r.tag.length ≤ 1000000 ∧ r.ids.length ≤ 1000000 := ok_size ok2
attribute [local irreducible] Go.Idl.IWP Go.Idl.IOps Go.Idl.Obl Go.Idl.OpG Go.Idl.thenI Go.Idl.inBlockI Go.Idl.LoopU Go.Idl.noGotoI Go.Idl.jumpI
attribute [local go_sem] List.length_set bl_of bl_no List.drop_length Nat.sub_self
theorem tags_awake : Idl.Spec Try.prog 24 [] [] (Only (.sc (.bool true)) []) := by
  have s1 := SpecA.nil0 (add_spec [] 5 [[121], [120]] (by decide) (by simp) (by decide) (by decide))
  rw [add1] at s1
  have s2 := add_spec L1 2 [[120]] (ok_size ok1).1 (ok_size ok1).2 (by decide) (by decide)
  rw [add2] at s2
  have s3 := SpecA.nil2 (add_spec L2 64 [] size2.1 size2.2 (by decide) (by simp))
  rw [add3] at s3
  have s4 := add_spec L2 1 [[]] size2.1 size2.2 (by decide) (by decide)
  rw [add4] at s4
  have s5 := add_spec L2 5 [[122]] size2.1 size2.2 (by decide) (by decide)
  rw [add5] at s5
  have s6 := drop_spec L2 5 size2.1 size2.2
  rw [drop2] at s6
  have o1 := tgof_spec L2 [120] size2.1 size2.2
  rw [whoC_eq ok2, show whoV L2 [120] = [2, 5] by decide] at o1
  have o2 := tgof_spec L2 [122] size2.1 size2.2
  rw [whoC_eq ok2, show whoV L2 [122] = [] by decide] at o2
  have t1 := tgtags_spec L2 5 size2.1 size2.2
  rw [tgsC_eq ok2, show tgsV L2 5 = [[120], [121]] by decide] at t1
  have t2 := tgtags_spec M2 5 (ok_size okM).1 (ok_size okM).2
  rw [tgsC_eq okM, show tgsV M2 5 = [[122]] by decide] at t2
  have c1 := tcheck_spec L2 size2.1 size2.2
  rw [chkR_ok ok2] at c1
  have c2 := Spec.nilR (tcheck_spec [⟨[120], []⟩] (by decide) (by decide))
  rw [chkR_no (l := [⟨[120], []⟩]) fun h => (h.can.2 ⟨[120], []⟩ (by simp)).1 rfl] at c2
  have e1 := isame_spec [2, 5] [2, 5] (by decide)
  rw [decide_eq_true (by rfl)] at e1
  have e2 := ssame_spec [[120], [121]] [[120], [121]] (by decide)
  rw [decide_eq_true (by rfl)] at e2
  have e3 := ssame_spec [[122]] [[122]] (by decide)
  rw [decide_eq_true (by rfl)] at e3
  refine sB Try.func24 Try.ntmps24 ?_
  repeat' (first|refine IOps_nil ?_|refine oS ?_|refine IOps_s rfl rfl ?_|refine oT ?_|refine IOps_s0 rfl ?_|refine oZ ?_|refine oI ?_|refine oAB ?_|refine thenI_n ?_|refine IWP_seq ?_|refine IWP_region ?_|refine IWP_ct rfl ?_|refine IWP_cf rfl ?_|refine IWP_skip ?_|refine IWP_ret ?_|refine IWP_block ?_|refine inB_n ?_|refine thenI_r ?_|refine thenI_e ?_|refine inB_r ?_|refine inB_hit ?_|refine inB_miss rfl ?_|refine IWP_exit ?_|refine IWP_scope ?_|refine IWP_label ?_|refine noG_n ?_|refine noG_r ?_|refine noG_e ?_|refine jmp_n ?_|refine jmp_r ?_|refine jmp_e ?_|refine jmp_g ?_|refine thenI_g ?_|refine inB_g ?_|refine IWP_goto ?_|refine Loop_n ?_|fail)
  refine oF 12 ?_
  repeat' (first|refine IOps_nil ?_|refine oS ?_|refine IOps_s rfl rfl ?_|refine oT ?_|refine IOps_s0 rfl ?_|refine oA (π:=[]) (hs:=by first|exact s1|fail) (hx:=?_)|refine oZ ?_|refine oI ?_|refine oAB ?_|refine thenI_n ?_|refine IWP_seq ?_|refine IWP_region ?_|refine IWP_ct rfl ?_|refine IWP_cf rfl ?_|refine IWP_skip ?_|refine IWP_ret ?_|refine IWP_block ?_|refine inB_n ?_|refine thenI_r ?_|refine thenI_e ?_|refine inB_r ?_|refine inB_hit ?_|refine inB_miss rfl ?_|refine IWP_exit ?_|refine IWP_scope ?_|refine IWP_label ?_|refine noG_n ?_|refine noG_r ?_|refine noG_e ?_|refine jmp_n ?_|refine jmp_r ?_|refine jmp_e ?_|refine jmp_g ?_|refine thenI_g ?_|refine inB_g ?_|refine IWP_goto ?_|refine Loop_n ?_|fail)
  refine oF 18 ?_
  repeat' (first|refine IOps_nil ?_|refine oS ?_|refine IOps_s rfl rfl ?_|refine oT ?_|refine IOps_s0 rfl ?_|refine oA (π:=[]) (hs:=by first|exact s2|fail) (hx:=?_)|refine oA (π:=[]) (hs:=by first|exact s3|fail) (hx:=?_)|refine oZ ?_|refine oI ?_|refine oAB ?_|refine thenI_n ?_|refine IWP_seq ?_|refine IWP_region ?_|refine IWP_ct rfl ?_|refine IWP_cf rfl ?_|refine IWP_skip ?_|refine IWP_ret ?_|refine IWP_block ?_|refine inB_n ?_|refine thenI_r ?_|refine thenI_e ?_|refine inB_r ?_|refine inB_hit ?_|refine inB_miss rfl ?_|refine IWP_exit ?_|refine IWP_scope ?_|refine IWP_label ?_|refine noG_n ?_|refine noG_r ?_|refine noG_e ?_|refine jmp_n ?_|refine jmp_r ?_|refine jmp_e ?_|refine jmp_g ?_|refine thenI_g ?_|refine inB_g ?_|refine IWP_goto ?_|refine Loop_n ?_|fail)
  refine oF 29 ?_
  repeat' (first|refine IOps_nil ?_|refine oS ?_|refine IOps_s rfl rfl ?_|refine oT ?_|refine IOps_s0 rfl ?_|refine oA (π:=[]) (hs:=by first|exact s4|fail) (hx:=?_)|refine oZ ?_|refine oI ?_|refine oAB ?_|refine thenI_n ?_|refine IWP_seq ?_|refine IWP_region ?_|refine IWP_ct rfl ?_|refine IWP_cf rfl ?_|refine IWP_skip ?_|refine IWP_ret ?_|refine IWP_block ?_|refine inB_n ?_|refine thenI_r ?_|refine thenI_e ?_|refine inB_r ?_|refine inB_hit ?_|refine inB_miss rfl ?_|refine IWP_exit ?_|refine IWP_scope ?_|refine IWP_label ?_|refine noG_n ?_|refine noG_r ?_|refine noG_e ?_|refine jmp_n ?_|refine jmp_r ?_|refine jmp_e ?_|refine jmp_g ?_|refine thenI_g ?_|refine inB_g ?_|refine IWP_goto ?_|refine Loop_n ?_|fail)
  refine oF 35 ?_
  repeat' (first|refine IOps_nil ?_|refine oS ?_|refine IOps_s rfl rfl ?_|refine oT ?_|refine IOps_s0 rfl ?_|refine oA (π:=[]) (hs:=by first|exact s5|fail) (hx:=?_)|refine oA (π:=[]) (hs:=by first|exact s6|fail) (hx:=?_)|refine oC (π:=[]) (hs:=by first|exact o1|fail) (hx:=?_)|refine oC (π:=[]) (hs:=by first|exact o2|fail) (hx:=?_)|refine oC (π:=[]) (hs:=by first|exact t1|fail) (hx:=?_)|refine oC (π:=[]) (hs:=by first|exact t2|fail) (hx:=?_)|refine oC (π:=[]) (hs:=by first|exact c1|fail) (hx:=?_)|refine oC (π:=[]) (hs:=by first|exact c2|fail) (hx:=?_)|refine oC (π:=[]) (hs:=by first|exact e1|fail) (hx:=?_)|refine oC (π:=[]) (hs:=by first|exact e2|fail) (hx:=?_)|refine oC (π:=[]) (hs:=by first|exact e3|fail) (hx:=?_)|refine oZ ?_|refine oI ?_|refine oAB ?_|refine thenI_n ?_|refine IWP_seq ?_|refine IWP_region ?_|refine IWP_ct rfl ?_|refine IWP_cf rfl ?_|refine IWP_skip ?_|refine IWP_ret ?_|refine IWP_block ?_|refine inB_n ?_|refine thenI_r ?_|refine thenI_e ?_|refine inB_r ?_|refine inB_hit ?_|refine inB_miss rfl ?_|refine IWP_exit ?_|refine IWP_scope ?_|refine IWP_label ?_|refine noG_n ?_|refine noG_r ?_|refine noG_e ?_|refine jmp_n ?_|refine jmp_r ?_|refine jmp_e ?_|refine jmp_g ?_|refine thenI_g ?_|refine inB_g ?_|refine IWP_goto ?_|refine Loop_n ?_|fail)
  exact pD [] ⟨rfl, rfl⟩
end Go.Proofs.Ytmgcoopmbohkoaa

namespace Go.Proofs.Ytmgcoopmbohkoaa
open Go Go.Idl
set_option linter.unusedSimpArgs false
set_option linter.unusedVariables false
set_option maxRecDepth 100000
set_option maxHeartbeats 8000000
theorem few_size {l : List Rw} (h : fewR l) : l.length ≤ 1000000 ∧ ∀ r, r ∈ l → r.tag.length ≤ 1000000 ∧ r.ids.length ≤ 1000000 := by
  refine ⟨by have := h.2; omega, fun r hr => ?_⟩
  have := h.1 r hr
  omega
attribute [local irreducible] Go.Idl.IWP Go.Idl.IOps Go.Idl.Obl Go.Idl.OpG Go.Idl.thenI Go.Idl.inBlockI Go.Idl.LoopU Go.Idl.noGotoI Go.Idl.jumpI
attribute [local go_sem] List.length_set bl_of bl_no List.drop_length Nat.sub_self
end Go.Proofs.Ytmgcoopmbohkoaa

namespace Go.Proofs.Ytmgcoopmbohkoaa
open Go Go.Idl
set_option linter.unusedSimpArgs false
set_option linter.unusedVariables false
set_option maxRecDepth 100000
set_option maxHeartbeats 8000000
theorem addV_pair {l : List Rw} (h : OkR l) {id : Int} {T : List Ks} (he : errA id T = 0) : addV l id T = ((addV l id T).1, 0) := Prod.ext rfl ((addV_err h id T).trans he)
theorem addV_pair' {l : List Rw} (h : OkR l) {id : Int} {T : List Ks} (he : errA id T ≠ 0) : addV l id T = (l, errA id T) := Prod.ext (addV_no h he) (addV_err h id T)
theorem fewK_size {T : List Ks} (h : fewK T 10) : T.length ≤ 1000000 ∧ ∀ t, t ∈ T → t.length ≤ 1000000000 := by
  refine ⟨by have := h.2; omega, fun t ht => ?_⟩
  have := h.1 t ht
  omega
theorem rsame_refl (a : List Rw) (ha : OkR a) : Idl.Spec Try.prog 32 [.fz false (rows false a) a.length, .fz false (rows false a) a.length] [] (Only (.sc (.bool true)) []) := by
  have := rsame_spec a a (ok_size ha).1 fun r hr => ((ok_size ha).2 r hr).2
  rwa [decide_eq_true rfl] at this
theorem ssame_refl (a : List Ks) (ha : a.length ≤ 1000000) : Idl.Spec Try.prog 18 [.fz false (strs a) a.length, .fz false (strs a) a.length] [] (Only (.sc (.bool true)) []) := by
  have := ssame_spec a a ha
  rwa [decide_eq_true rfl] at this
theorem tgt_spec {l : List Rw} (h : OkR l) (id : Int) : Idl.Spec Try.prog 27 [.fz false (rows false l) l.length, .i64 id] [] (Only (.fz true (strs (tgsV l id)) (tgsV l id).length) []) := by
  have := tgtags_spec l id (ok_size h).1 (ok_size h).2
  rwa [tgsC_eq h] at this
theorem drp_spec {l : List Rw} (h : OkR l) (id : Int) : Idl.SpecA Try.prog 33 [.fz false (rows false l) l.length, .i64 id] [] (Only (.fz false (rows false (dropV l id)) (dropV l id).length) []) := drop_spec l id (ok_size h).1 (ok_size h).2
theorem ad_spec {l : List Rw} (h : OkR l) (id : Int) {T : List Ks} (hT : fewK T 10) : Idl.SpecA Try.prog 31 [.fz false (rows false l) l.length, .i64 id, .fz false (strs T) T.length] [] (Only (.tup [.fz false (rows false (addV l id T).1) (addV l id T).1.length, .i64 (addV l id T).2]) []) :=
  add_spec l id T (ok_size h).1 (ok_size h).2 (fewK_size hT).1 (fewK_size hT).2
attribute [local irreducible] Go.Idl.IWP Go.Idl.IOps Go.Idl.Obl Go.Idl.OpG Go.Idl.thenI Go.Idl.inBlockI Go.Idl.LoopU Go.Idl.noGotoI Go.Idl.jumpI
attribute [local go_sem] List.length_set bl_of bl_no List.drop_length Nat.sub_self
theorem back_law (l : List Rw) (id : Int) (T : List Ks) (o : Int) (hL : l.length ≤ 9223372036854775807) (hT : T.length ≤ 9223372036854775807) : Idl.Spec Try.prog 10 [.fz false (rows false l) l.length, .i64 id, .fz false (strs T) T.length, .i64 o] [] (Only (.sc (.bool true)) []) := by
  have hfs := rfew_spec l hL
  have hks := kfew_spec T 10 hT
  by_cases hf : fewR l
  · rw [decide_eq_true hf] at hfs
    by_cases hk : fewK T 10
    · rw [decide_eq_true hk] at hks
      obtain ⟨sL, sI⟩ := few_size hf
      have hcs := tcheck_spec l sL sI
      cases hc : chkR l
      · rw [hc] at hcs
        refine sB Try.func10 Try.ntmps10 ?_
        repeat' (first|refine IOps_nil ?_|refine oS ?_|refine IOps_s rfl rfl ?_|refine oT ?_|refine IOps_s0 rfl ?_|refine oC (π:=[]) (hs:=by first|exact tags_awake|fail) (hx:=?_)|refine oC (π:=[]) (hs:=by first|exact hfs|fail) (hx:=?_)|refine oC (π:=[]) (hs:=by first|exact hks|fail) (hx:=?_)|refine oC (π:=[]) (hs:=by first|exact hcs|fail) (hx:=?_)|refine oZ ?_|refine oI ?_|refine oAB ?_|refine thenI_n ?_|refine IWP_seq ?_|refine IWP_region ?_|refine IWP_ct rfl ?_|refine IWP_cf rfl ?_|refine IWP_skip ?_|refine IWP_ret ?_|refine IWP_block ?_|refine inB_n ?_|refine thenI_r ?_|refine thenI_e ?_|refine inB_r ?_|refine inB_hit ?_|refine inB_miss rfl ?_|refine IWP_exit ?_|refine IWP_scope ?_|refine IWP_label ?_|refine noG_n ?_|refine noG_r ?_|refine noG_e ?_|refine jmp_n ?_|refine jmp_r ?_|refine jmp_e ?_|refine jmp_g ?_|refine thenI_g ?_|refine inB_g ?_|refine IWP_goto ?_|refine Loop_n ?_|fail)
        exact pD [] ⟨rfl, rfl⟩
      · rw [hc] at hcs
        have hok := chkR_iff hc
        have s1 := ad_spec hok id hk
        have r1 := rsame_refl l hok
        by_cases he : errA id T = 0
        · rw [addV_pair hok he] at s1
          have hX := addV_ok hok id T
          have s2 := ad_spec hX id hk
          have hXe := back_again hok he
          rw [addV_pair hX he, hXe] at s2
          have d1 := drp_spec hX id
          have t1 := tgt_spec hok id
          have t2 := tgt_spec hX o
          have t3 := tgt_spec hok o
          have hD := dropV_ok hX id
          have t4 := tgt_spec hD id
          rw [tgs_drop hX] at t4
          have hfr := back_fresh hok (id := id) (T := T) he
          have hot := fun h => tgs_other hok (id := id) (o := o) (T := T) h
          have r2 := rsame_refl _ hX
          have r3 := ssame_refl (tgsV l o) (by have := tgs_three hok o; omega)
          have hl3 := tgs_three hok id
          have hXl := (ok_size hX).1
          have hDl := (ok_size hD).1
          simp only at s1 s2
          generalize (addV l id T).1 = X at *
          generalize hDD : dropV X id = D at *
          by_cases hW : tgsV l id = []
          · have e := hfr hW
            clear hDD
            subst e
            rw [hW] at t1
            by_cases ho : o = id
            · subst ho
              refine sB Try.func10 Try.ntmps10 ?_
              repeat' (first|refine IOps_nil ?_|refine oS ?_|refine IOps_s rfl rfl ?_|refine oT ?_|refine IOps_s0 rfl ?_|refine oC (π:=[]) (hs:=by first|exact tags_awake|fail) (hx:=?_)|refine oC (π:=[]) (hs:=by first|exact hfs|fail) (hx:=?_)|refine oC (π:=[]) (hs:=by first|exact hks|fail) (hx:=?_)|refine oC (π:=[]) (hs:=by first|exact hcs|fail) (hx:=?_)|refine oA (π:=[]) (hs:=by first|exact s1|fail) (hx:=?_)|refine oA (π:=[]) (hs:=by first|exact s2|fail) (hx:=?_)|refine oA (π:=[]) (hs:=by first|exact d1|fail) (hx:=?_)|refine oC (π:=[]) (hs:=by first|exact t4|fail) (hx:=?_)|refine oC (π:=[]) (hs:=by first|exact t1|fail) (hx:=?_)|refine oC (π:=[]) (hs:=by first|exact r1|fail) (hx:=?_)|refine oC (π:=[]) (hs:=by first|exact r2|fail) (hx:=?_)|refine oC (π:=[]) (hs:=by first|exact r3|fail) (hx:=?_)|refine oZ ?_|refine oI ?_|refine oAB ?_|refine thenI_n ?_|refine IWP_seq ?_|refine IWP_region ?_|refine IWP_ct rfl ?_|refine IWP_cf rfl ?_|refine IWP_skip ?_|refine IWP_ret ?_|refine IWP_block ?_|refine inB_n ?_|refine thenI_r ?_|refine thenI_e ?_|refine inB_r ?_|refine inB_hit ?_|refine inB_miss rfl ?_|refine IWP_exit ?_|refine IWP_scope ?_|refine IWP_label ?_|refine noG_n ?_|refine noG_r ?_|refine noG_e ?_|refine jmp_n ?_|refine jmp_r ?_|refine jmp_e ?_|refine jmp_g ?_|refine thenI_g ?_|refine inB_g ?_|refine IWP_goto ?_|refine Loop_n ?_|fail)
              exact pD [] ⟨rfl, rfl⟩
            · rw [hot ho] at t2
              refine sB Try.func10 Try.ntmps10 ?_
              repeat' (first|refine IOps_nil ?_|refine oS ?_|refine IOps_s rfl rfl ?_|refine oT ?_|refine IOps_s0 rfl ?_|refine oC (π:=[]) (hs:=by first|exact tags_awake|fail) (hx:=?_)|refine oC (π:=[]) (hs:=by first|exact hfs|fail) (hx:=?_)|refine oC (π:=[]) (hs:=by first|exact hks|fail) (hx:=?_)|refine oC (π:=[]) (hs:=by first|exact hcs|fail) (hx:=?_)|refine oA (π:=[]) (hs:=by first|exact s1|fail) (hx:=?_)|refine oA (π:=[]) (hs:=by first|exact s2|fail) (hx:=?_)|refine oA (π:=[]) (hs:=by first|exact d1|fail) (hx:=?_)|refine oC (π:=[]) (hs:=by first|exact t1|fail) (hx:=?_)|refine oC (π:=[]) (hs:=by first|exact t2|fail) (hx:=?_)|refine oC (π:=[]) (hs:=by first|exact t3|fail) (hx:=?_)|refine oC (π:=[]) (hs:=by first|exact t4|fail) (hx:=?_)|refine oC (π:=[]) (hs:=by first|exact r1|fail) (hx:=?_)|refine oC (π:=[]) (hs:=by first|exact r2|fail) (hx:=?_)|refine oC (π:=[]) (hs:=by first|exact r3|fail) (hx:=?_)|refine oZ ?_|refine oI ?_|refine oAB ?_|refine thenI_n ?_|refine IWP_seq ?_|refine IWP_region ?_|refine IWP_ct rfl ?_|refine IWP_cf rfl ?_|refine IWP_skip ?_|refine IWP_ret ?_|refine IWP_block ?_|refine inB_n ?_|refine thenI_r ?_|refine thenI_e ?_|refine inB_r ?_|refine inB_hit ?_|refine inB_miss rfl ?_|refine IWP_exit ?_|refine IWP_scope ?_|refine IWP_label ?_|refine noG_n ?_|refine noG_r ?_|refine noG_e ?_|refine jmp_n ?_|refine jmp_r ?_|refine jmp_e ?_|refine jmp_g ?_|refine thenI_g ?_|refine inB_g ?_|refine IWP_goto ?_|refine Loop_n ?_|fail)
              exact pD [] ⟨rfl, rfl⟩
          · have hWl := List.length_pos_iff.2 hW
            by_cases ho : o = id
            · subst ho
              refine sB Try.func10 Try.ntmps10 ?_
              repeat' (first|refine IOps_nil ?_|refine oS ?_|refine IOps_s rfl rfl ?_|refine oT ?_|refine IOps_s0 rfl ?_|refine oC (π:=[]) (hs:=by first|exact tags_awake|fail) (hx:=?_)|refine oC (π:=[]) (hs:=by first|exact hfs|fail) (hx:=?_)|refine oC (π:=[]) (hs:=by first|exact hks|fail) (hx:=?_)|refine oC (π:=[]) (hs:=by first|exact hcs|fail) (hx:=?_)|refine oA (π:=[]) (hs:=by first|exact s1|fail) (hx:=?_)|refine oA (π:=[]) (hs:=by first|exact s2|fail) (hx:=?_)|refine oA (π:=[]) (hs:=by first|exact d1|fail) (hx:=?_)|refine oC (π:=[]) (hs:=by first|exact t1|fail) (hx:=?_)|refine oC (π:=[]) (hs:=by first|exact t4|fail) (hx:=?_)|refine oC (π:=[]) (hs:=by first|exact r1|fail) (hx:=?_)|refine oC (π:=[]) (hs:=by first|exact r2|fail) (hx:=?_)|refine oC (π:=[]) (hs:=by first|exact r3|fail) (hx:=?_)|refine oZ ?_|refine oI ?_|refine oAB ?_|refine thenI_n ?_|refine IWP_seq ?_|refine IWP_region ?_|refine IWP_ct rfl ?_|refine IWP_cf rfl ?_|refine IWP_skip ?_|refine IWP_ret ?_|refine IWP_block ?_|refine inB_n ?_|refine thenI_r ?_|refine thenI_e ?_|refine inB_r ?_|refine inB_hit ?_|refine inB_miss rfl ?_|refine IWP_exit ?_|refine IWP_scope ?_|refine IWP_label ?_|refine noG_n ?_|refine noG_r ?_|refine noG_e ?_|refine jmp_n ?_|refine jmp_r ?_|refine jmp_e ?_|refine jmp_g ?_|refine thenI_g ?_|refine inB_g ?_|refine IWP_goto ?_|refine Loop_n ?_|fail)
              exact pD [] ⟨rfl, rfl⟩
            · rw [hot ho] at t2
              refine sB Try.func10 Try.ntmps10 ?_
              repeat' (first|refine IOps_nil ?_|refine oS ?_|refine IOps_s rfl rfl ?_|refine oT ?_|refine IOps_s0 rfl ?_|refine oC (π:=[]) (hs:=by first|exact tags_awake|fail) (hx:=?_)|refine oC (π:=[]) (hs:=by first|exact hfs|fail) (hx:=?_)|refine oC (π:=[]) (hs:=by first|exact hks|fail) (hx:=?_)|refine oC (π:=[]) (hs:=by first|exact hcs|fail) (hx:=?_)|refine oA (π:=[]) (hs:=by first|exact s1|fail) (hx:=?_)|refine oA (π:=[]) (hs:=by first|exact s2|fail) (hx:=?_)|refine oA (π:=[]) (hs:=by first|exact d1|fail) (hx:=?_)|refine oC (π:=[]) (hs:=by first|exact t1|fail) (hx:=?_)|refine oC (π:=[]) (hs:=by first|exact t2|fail) (hx:=?_)|refine oC (π:=[]) (hs:=by first|exact t3|fail) (hx:=?_)|refine oC (π:=[]) (hs:=by first|exact t4|fail) (hx:=?_)|refine oC (π:=[]) (hs:=by first|exact r1|fail) (hx:=?_)|refine oC (π:=[]) (hs:=by first|exact r2|fail) (hx:=?_)|refine oC (π:=[]) (hs:=by first|exact r3|fail) (hx:=?_)|refine oZ ?_|refine oI ?_|refine oAB ?_|refine thenI_n ?_|refine IWP_seq ?_|refine IWP_region ?_|refine IWP_ct rfl ?_|refine IWP_cf rfl ?_|refine IWP_skip ?_|refine IWP_ret ?_|refine IWP_block ?_|refine inB_n ?_|refine thenI_r ?_|refine thenI_e ?_|refine inB_r ?_|refine inB_hit ?_|refine inB_miss rfl ?_|refine IWP_exit ?_|refine IWP_scope ?_|refine IWP_label ?_|refine noG_n ?_|refine noG_r ?_|refine noG_e ?_|refine jmp_n ?_|refine jmp_r ?_|refine jmp_e ?_|refine jmp_g ?_|refine thenI_g ?_|refine inB_g ?_|refine IWP_goto ?_|refine Loop_n ?_|fail)
              exact pD [] ⟨rfl, rfl⟩
        · rw [addV_pair' hok he] at s1
          simp only at s1
          generalize errA id T = ee at *
          refine sB Try.func10 Try.ntmps10 ?_
          repeat' (first|refine IOps_nil ?_|refine oS ?_|refine IOps_s rfl rfl ?_|refine oT ?_|refine IOps_s0 rfl ?_|refine oC (π:=[]) (hs:=by first|exact tags_awake|fail) (hx:=?_)|refine oC (π:=[]) (hs:=by first|exact hfs|fail) (hx:=?_)|refine oC (π:=[]) (hs:=by first|exact hks|fail) (hx:=?_)|refine oC (π:=[]) (hs:=by first|exact hcs|fail) (hx:=?_)|refine oA (π:=[]) (hs:=by first|exact s1|fail) (hx:=?_)|refine oC (π:=[]) (hs:=by first|exact r1|fail) (hx:=?_)|refine oZ ?_|refine oI ?_|refine oAB ?_|refine thenI_n ?_|refine IWP_seq ?_|refine IWP_region ?_|refine IWP_ct rfl ?_|refine IWP_cf rfl ?_|refine IWP_skip ?_|refine IWP_ret ?_|refine IWP_block ?_|refine inB_n ?_|refine thenI_r ?_|refine thenI_e ?_|refine inB_r ?_|refine inB_hit ?_|refine inB_miss rfl ?_|refine IWP_exit ?_|refine IWP_scope ?_|refine IWP_label ?_|refine noG_n ?_|refine noG_r ?_|refine noG_e ?_|refine jmp_n ?_|refine jmp_r ?_|refine jmp_e ?_|refine jmp_g ?_|refine thenI_g ?_|refine inB_g ?_|refine IWP_goto ?_|refine Loop_n ?_|fail)
          exact pD [] ⟨rfl, rfl⟩
    · rw [decide_eq_false hk] at hks
      refine sB Try.func10 Try.ntmps10 ?_
      repeat' (first|refine IOps_nil ?_|refine oS ?_|refine IOps_s rfl rfl ?_|refine oT ?_|refine IOps_s0 rfl ?_|refine oC (π:=[]) (hs:=by first|exact tags_awake|fail) (hx:=?_)|refine oC (π:=[]) (hs:=by first|exact hfs|fail) (hx:=?_)|refine oC (π:=[]) (hs:=by first|exact hks|fail) (hx:=?_)|refine oZ ?_|refine oI ?_|refine oAB ?_|refine thenI_n ?_|refine IWP_seq ?_|refine IWP_region ?_|refine IWP_ct rfl ?_|refine IWP_cf rfl ?_|refine IWP_skip ?_|refine IWP_ret ?_|refine IWP_block ?_|refine inB_n ?_|refine thenI_r ?_|refine thenI_e ?_|refine inB_r ?_|refine inB_hit ?_|refine inB_miss rfl ?_|refine IWP_exit ?_|refine IWP_scope ?_|refine IWP_label ?_|refine noG_n ?_|refine noG_r ?_|refine noG_e ?_|refine jmp_n ?_|refine jmp_r ?_|refine jmp_e ?_|refine jmp_g ?_|refine thenI_g ?_|refine inB_g ?_|refine IWP_goto ?_|refine Loop_n ?_|fail)
      exact pD [] ⟨rfl, rfl⟩
  · rw [decide_eq_false hf] at hfs
    refine sB Try.func10 Try.ntmps10 ?_
    repeat' (first|refine IOps_nil ?_|refine oS ?_|refine IOps_s rfl rfl ?_|refine oT ?_|refine IOps_s0 rfl ?_|refine oC (π:=[]) (hs:=by first|exact tags_awake|fail) (hx:=?_)|refine oC (π:=[]) (hs:=by first|exact hfs|fail) (hx:=?_)|refine oZ ?_|refine oI ?_|refine oAB ?_|refine thenI_n ?_|refine IWP_seq ?_|refine IWP_region ?_|refine IWP_ct rfl ?_|refine IWP_cf rfl ?_|refine IWP_skip ?_|refine IWP_ret ?_|refine IWP_block ?_|refine inB_n ?_|refine thenI_r ?_|refine thenI_e ?_|refine inB_r ?_|refine inB_hit ?_|refine inB_miss rfl ?_|refine IWP_exit ?_|refine IWP_scope ?_|refine IWP_label ?_|refine noG_n ?_|refine noG_r ?_|refine noG_e ?_|refine jmp_n ?_|refine jmp_r ?_|refine jmp_e ?_|refine jmp_g ?_|refine thenI_g ?_|refine inB_g ?_|refine IWP_goto ?_|refine Loop_n ?_|fail)
    exact pD [] ⟨rfl, rfl⟩
end Go.Proofs.Ytmgcoopmbohkoaa

namespace Go.Proofs.Ytmgcoopmbohkoaa
open Go Go.Idl
set_option linter.unusedSimpArgs false
set_option linter.unusedVariables false
set_option maxRecDepth 100000
set_option maxHeartbeats 8000000
attribute [local irreducible] Go.Idl.IWP Go.Idl.IOps Go.Idl.Obl Go.Idl.OpG Go.Idl.thenI Go.Idl.inBlockI Go.Idl.LoopU Go.Idl.noGotoI Go.Idl.jumpI
attribute [local go_sem] List.length_set bl_of bl_no List.drop_length Nat.sub_self
end Go.Proofs.Ytmgcoopmbohkoaa

namespace Go.Proofs.Ytmgcoopmbohkoaa
open Go Go.Idl
set_option linter.unusedSimpArgs false
set_option linter.unusedVariables false
set_option maxRecDepth 100000
set_option maxHeartbeats 8000000
attribute [local irreducible] Go.Idl.IWP Go.Idl.IOps Go.Idl.Obl Go.Idl.OpG Go.Idl.thenI Go.Idl.inBlockI Go.Idl.LoopU Go.Idl.noGotoI Go.Idl.jumpI
attribute [local go_sem] List.length_set bl_of bl_no List.drop_length Nat.sub_self
end Go.Proofs.Ytmgcoopmbohkoaa
