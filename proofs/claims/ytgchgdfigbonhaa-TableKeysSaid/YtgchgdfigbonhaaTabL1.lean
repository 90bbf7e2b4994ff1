/-
  A table: what was put last; a key put and deleted again.
-/
import Derived.Test.YtgchgdfigbonhaaTbM
namespace Go.Proofs.Ytgchgdfigbonhaa
open Go Go.Idl
set_option linter.unusedSimpArgs false
set_option linter.unusedVariables false
set_option maxRecDepth 100000
set_option maxHeartbeats 8000000
theorem step_ok {l : List Pl} (h : OkT l) (s : Ts) : OkT (stepT l s).1 ∧ held (stepT l s).1 ≤ held l + 1 := by
  unfold stepT
  split
  · rcases del_cases h s.key with ⟨_, e⟩ | ⟨_, m, e, hd⟩
    · rw [e]; exact ⟨h, Nat.le_succ _⟩
    · rw [e]; exact ⟨hd.ok, by have := hd.few; show held m ≤ _; omega⟩
  · rcases put_cases h s.key s.val with ⟨_, e⟩ | ⟨_, _, _, e⟩ | ⟨_, _, m, e, hi⟩
    · rw [e]; exact ⟨h, Nat.le_succ _⟩
    · rw [e]; exact ⟨h, Nat.le_succ _⟩
    · rw [e]; exact ⟨hi.ok, hi.few⟩
/-- What a step tells of one key. -/
structure Mod (l : List Pl) (s : Ts) (k : Ks) (v : Int) (b : Bool) (m : List Pl) (e : Int) (v' : Int) (b' : Bool) : Prop where
  ok : OkT m
  few : held m ≤ held l + 1
  get : getV m k = (if b' then v' else 0, b')
  hit : s.key = k → e = 0 → v' = s.val ∧ b' = !s.del
  miss : ¬ (s.key = k ∧ e = 0) → v' = v ∧ b' = b
  del1 : s.del = true → ((getV l s.key).2 = true ↔ e = 0)
  put1 : s.del = false → (keyOk s.key ↔ e = 0)
theorem mod_same {l : List Pl} {s : Ts} {k : Ks} {v e : Int} {b : Bool} (h : OkT l) (hg : getV l k = (if b then v else 0, b)) (he : e ≠ 0) (h1 : s.del = true → (getV l s.key).2 = false) (h2 : s.del = false → ¬ keyOk s.key) : Mod l s k v b l e v b :=
  ⟨h, Nat.le_succ _, hg, fun _ x => absurd x he, fun _ => ⟨rfl, rfl⟩, fun x => ⟨fun y => absurd ((h1 x).symm.trans y) (by decide), fun y => absurd y he⟩, fun x => ⟨fun y => absurd y (h2 x), fun y => absurd y he⟩⟩
theorem mod_step {l : List Pl} (h : OkT l) (s : Ts) {k : Ks} {v : Int} {b : Bool} (hg : getV l k = (if b then v else 0, b)) (hf : held l < 96) : ∃ v' b', Mod l s k v b (stepT l s).1 (stepT l s).2 v' b' := by
  unfold stepT
  rcases Bool.eq_false_or_eq_true s.del with hd | hd
  · rw [if_pos hd]
    rcases del_cases h s.key with ⟨x, e⟩ | ⟨x, m, e, hi⟩
    · rw [e]
      exact ⟨v, b, mod_same h hg (show (120 : Int) ≠ 0 by decide) (fun _ => x) (fun y => by rw [hd] at y; cases y)⟩
    · rw [e]
      by_cases hk : s.key = k
      · refine ⟨s.val, false, hi.ok, by have := hi.few; show held m ≤ _; omega, by rw [← hk, del_self hi]; rfl, fun _ _ => ⟨rfl, by rw [hd]; rfl⟩, fun y => absurd ⟨hk, rfl⟩ y, fun _ => ⟨fun _ => rfl, fun _ => x⟩, fun y => by rw [hd] at y; cases y⟩
      · refine ⟨v, b, hi.ok, by have := hi.few; show held m ≤ _; omega, by rw [del_ne h hi (Ne.symm hk)]; exact hg, fun y => absurd y hk, fun _ => ⟨rfl, rfl⟩, fun _ => ⟨fun _ => rfl, fun _ => x⟩, fun y => by rw [hd] at y; cases y⟩
  · rw [if_neg (by rw [hd]; decide)]
    by_cases hko : keyOk s.key
    · obtain ⟨m, e, hi⟩ := put_in h s.val hko hf
      rw [e]
      by_cases hk : s.key = k
      · refine ⟨s.val, true, hi.ok, hi.few, by rw [← hk, ins_self hi (keyOk_ne hko)]; rfl, fun _ _ => ⟨rfl, by rw [hd]; rfl⟩, fun y => absurd ⟨hk, rfl⟩ y, fun y => absurd (hd.symm.trans y) (by decide), fun _ => ⟨fun _ => rfl, fun _ => hko⟩⟩
      · refine ⟨v, b, hi.ok, hi.few, by rw [ins_ne h hi (Ne.symm hk)]; exact hg, fun y => absurd y hk, fun _ => ⟨rfl, rfl⟩, fun y => absurd (hd.symm.trans y) (by decide), fun _ => ⟨fun _ => rfl, fun _ => hko⟩⟩
    · rw [put_bad h s.val hko]
      exact ⟨v, b, mod_same h hg (show (90 : Int) ≠ 0 by decide) (fun y => by rw [hd] at y; cases y) (fun _ => hko)⟩
attribute [local irreducible] Go.Idl.IWP Go.Idl.IOps Go.Idl.Obl Go.Idl.OpG Go.Idl.thenI Go.Idl.inBlockI Go.Idl.LoopU Go.Idl.noGotoI Go.Idl.jumpI
attribute [local go_sem] List.length_set splice2 splice_places relab_fz1
theorem model_law (l : List Ts) (k : Ks) (hL : l.length ≤ 9223372036854775807) (hkL : k.length ≤ 9223372036854775807) : Idl.Spec Try.prog 3 [.fz false (steps l) l.length, .sc (.string ⟨⟨k⟩⟩)] [] (Only (.sc (.bool true)) []) := by
  have hfs := few_spec l 60 hL
  by_cases hf : fewP l 60
  · rw [decide_eq_true hf] at hfs
    by_cases hk1 : k.length ≤ 100
    · refine sB Try.func3 Try.ntmps3 ?_
      repeat' (first
        | refine IOps_nil ?_
        | refine oS ?_
        | refine IOps_s rfl rfl ?_
        | refine oT ?_
        | refine IOps_s0 rfl ?_
        | refine oC (π := []) (hs := by first | exact table_awake | fail) (hx := ?_)
        | refine oC (π := []) (hs := by first | exact hfs | fail) (hx := ?_)
        | refine oC (π := []) (hs := by first | exact new_spec | fail) (hx := ?_)
        | refine oZ ?_
        | refine oI ?_
        | refine thenI_n ?_
        | refine IWP_seq ?_
        | refine IWP_region ?_
        | refine IWP_ct rfl ?_
        | refine IWP_cf rfl ?_
        | refine IWP_skip ?_
        | refine IWP_ret ?_
        | refine IWP_block ?_
        | refine inB_n ?_
        | refine thenI_r ?_
        | refine thenI_e ?_
        | refine inB_r ?_
        | refine inB_hit ?_
        | refine inB_miss rfl ?_
        | refine IWP_exit ?_
        | refine IWP_scope ?_
        | refine IWP_label ?_
        | refine noG_n ?_
        | refine noG_r ?_
        | refine noG_e ?_
        | refine jmp_n ?_
        | refine jmp_r ?_
        | refine jmp_e ?_
        | refine jmp_g ?_
        | refine thenI_g ?_
        | refine inB_g ?_
        | refine IWP_goto ?_
        | refine Loop_n ?_
        | fail)
      refine IWP_loop (fun x : List Pl × Int × Bool × Nat => ⟨128, [(0, .fz false (steps l) l.length), (1, .sc (.string ⟨⟨k⟩⟩)), (4, .sc (.bool false)), (5, .sc (.bool true)), (6, .fz true (places x.1) x.1.length), (7, .i64 x.2.1), (8, .sc (.bool x.2.2.1)), (9, .i64 x.2.2.2)], []⟩)
        (fun x => OkT x.1 ∧ held x.1 ≤ x.2.2.2 ∧ x.2.2.2 ≤ l.length ∧ getV x.1 k = (if x.2.2.1 then x.2.1 else 0, x.2.2.1)) (fun x => l.length - x.2.2.2) (noT, 0, false, 0) (lP []) ⟨noT_ok, by rw [noT_held]; exact Nat.zero_le _, Nat.zero_le _, noT_get k⟩ ?_
      rintro ⟨x, v, b, i⟩ ⟨ho, hh, hi, hg⟩
      simp only at ho hh hi hg ⊢
      have hxl := ho.len
      have hl60 : (l.length : Int) ≤ 60 := hf.2
      by_cases h : i < l.length
      · have hkl := hf.1 i h
        have hdo := tdo_spec x (l.getD i default) (by omega) (by omega)
        obtain ⟨v', b', hM⟩ := mod_step ho (l.getD i default) hg (by omega)
        have hhs := had_spec x (l.getD i default).key (by omega) (by omega)
        rw [getT_of ho] at hhs
        have hks := key_spec (l.getD i default).key
        generalize stepT x (l.getD i default) = r at hdo hM
        obtain ⟨m, e⟩ := r
        simp only at hM
        have hfw := hM.few
        by_cases hk : (l.getD i default).key = k
        · by_cases he : e = 0
          · rcases Bool.eq_false_or_eq_true (l.getD i default).del with hd | hd
            · skip
              obtain ⟨e1, e2⟩ := hM.hit hk he
              rw [hd] at e2
              subst e1; subst e2
              rw [show (getV x (l.getD i default).key).2 = true from (hM.del1 hd).2 he] at hhs
              repeat' (first
                | refine IOps_nil ?_
                | refine oS ?_
                | refine IOps_s rfl rfl ?_
                | refine oT ?_
                | refine IOps_s0 rfl ?_
                | refine oC (π := []) (hs := by first | exact hdo | fail) (hx := ?_)
                | refine oC (π := []) (hs := by first | exact hhs | fail) (hx := ?_)
                | refine oC (π := []) (hs := by first | exact hks | fail) (hx := ?_)
                | refine oZ ?_
                | refine oI ?_
                | refine thenI_n ?_
                | refine IWP_seq ?_
                | refine IWP_region ?_
                | refine IWP_ct rfl ?_
                | refine IWP_cf rfl ?_
                | refine IWP_skip ?_
                | refine IWP_ret ?_
                | refine IWP_block ?_
                | refine inB_n ?_
                | refine thenI_r ?_
                | refine thenI_e ?_
                | refine inB_r ?_
                | refine inB_hit ?_
                | refine inB_miss rfl ?_
                | refine IWP_exit ?_
                | refine IWP_scope ?_
                | refine IWP_label ?_
                | refine noG_n ?_
                | refine noG_r ?_
                | refine noG_e ?_
                | refine jmp_n ?_
                | refine jmp_r ?_
                | refine jmp_e ?_
                | refine jmp_g ?_
                | refine thenI_g ?_
                | refine inB_g ?_
                | refine IWP_goto ?_
                | refine Loop_n ?_
                | fail)
              try rw [hd]
              repeat' (first
                | refine IOps_nil ?_
                | refine oS ?_
                | refine IOps_s rfl rfl ?_
                | refine oT ?_
                | refine IOps_s0 rfl ?_
                | refine oC (π := []) (hs := by first | exact hdo | fail) (hx := ?_)
                | refine oC (π := []) (hs := by first | exact hhs | fail) (hx := ?_)
                | refine oC (π := []) (hs := by first | exact hks | fail) (hx := ?_)
                | refine oZ ?_
                | refine oI ?_
                | refine thenI_n ?_
                | refine IWP_seq ?_
                | refine IWP_region ?_
                | refine IWP_ct rfl ?_
                | refine IWP_cf rfl ?_
                | refine IWP_skip ?_
                | refine IWP_ret ?_
                | refine IWP_block ?_
                | refine inB_n ?_
                | refine thenI_r ?_
                | refine thenI_e ?_
                | refine inB_r ?_
                | refine inB_hit ?_
                | refine inB_miss rfl ?_
                | refine IWP_exit ?_
                | refine IWP_scope ?_
                | refine IWP_label ?_
                | refine noG_n ?_
                | refine noG_r ?_
                | refine noG_e ?_
                | refine jmp_n ?_
                | refine jmp_r ?_
                | refine jmp_e ?_
                | refine jmp_g ?_
                | refine thenI_g ?_
                | refine inB_g ?_
                | refine IWP_goto ?_
                | refine Loop_n ?_
                | fail)
              try rw [hd]
              repeat' (first
                | refine IOps_nil ?_
                | refine oS ?_
                | refine IOps_s rfl rfl ?_
                | refine oT ?_
                | refine IOps_s0 rfl ?_
                | refine oC (π := []) (hs := by first | exact hdo | fail) (hx := ?_)
                | refine oC (π := []) (hs := by first | exact hhs | fail) (hx := ?_)
                | refine oC (π := []) (hs := by first | exact hks | fail) (hx := ?_)
                | refine oZ ?_
                | refine oI ?_
                | refine thenI_n ?_
                | refine IWP_seq ?_
                | refine IWP_region ?_
                | refine IWP_ct rfl ?_
                | refine IWP_cf rfl ?_
                | refine IWP_skip ?_
                | refine IWP_ret ?_
                | refine IWP_block ?_
                | refine inB_n ?_
                | refine thenI_r ?_
                | refine thenI_e ?_
                | refine inB_r ?_
                | refine inB_hit ?_
                | refine inB_miss rfl ?_
                | refine IWP_exit ?_
                | refine IWP_scope ?_
                | refine IWP_label ?_
                | refine noG_n ?_
                | refine noG_r ?_
                | refine noG_e ?_
                | refine jmp_n ?_
                | refine jmp_r ?_
                | refine jmp_e ?_
                | refine jmp_g ?_
                | refine thenI_g ?_
                | refine inB_g ?_
                | refine IWP_goto ?_
                | refine Loop_n ?_
                | fail)
              try rw [hd]
              repeat' (first
                | refine IOps_nil ?_
                | refine oS ?_
                | refine IOps_s rfl rfl ?_
                | refine oT ?_
                | refine IOps_s0 rfl ?_
                | refine oC (π := []) (hs := by first | exact hdo | fail) (hx := ?_)
                | refine oC (π := []) (hs := by first | exact hhs | fail) (hx := ?_)
                | refine oC (π := []) (hs := by first | exact hks | fail) (hx := ?_)
                | refine oZ ?_
                | refine oI ?_
                | refine thenI_n ?_
                | refine IWP_seq ?_
                | refine IWP_region ?_
                | refine IWP_ct rfl ?_
                | refine IWP_cf rfl ?_
                | refine IWP_skip ?_
                | refine IWP_ret ?_
                | refine IWP_block ?_
                | refine inB_n ?_
                | refine thenI_r ?_
                | refine thenI_e ?_
                | refine inB_r ?_
                | refine inB_hit ?_
                | refine inB_miss rfl ?_
                | refine IWP_exit ?_
                | refine IWP_scope ?_
                | refine IWP_label ?_
                | refine noG_n ?_
                | refine noG_r ?_
                | refine noG_e ?_
                | refine jmp_n ?_
                | refine jmp_r ?_
                | refine jmp_e ?_
                | refine jmp_g ?_
                | refine thenI_g ?_
                | refine inB_g ?_
                | refine IWP_goto ?_
                | refine Loop_n ?_
                | fail)
              exact ⟨(m, (l.getD i default).val, false, i + 1), ⟨hM.ok, by simp only; omega, h, hM.get⟩, by simp only; omega, lP []⟩
            · skip
              obtain ⟨e1, e2⟩ := hM.hit hk he
              rw [hd] at e2
              subst e1; subst e2
              rw [decide_eq_true ((hM.put1 hd).2 he)] at hks
              repeat' (first
                | refine IOps_nil ?_
                | refine oS ?_
                | refine IOps_s rfl rfl ?_
                | refine oT ?_
                | refine IOps_s0 rfl ?_
                | refine oC (π := []) (hs := by first | exact hdo | fail) (hx := ?_)
                | refine oC (π := []) (hs := by first | exact hhs | fail) (hx := ?_)
                | refine oC (π := []) (hs := by first | exact hks | fail) (hx := ?_)
                | refine oZ ?_
                | refine oI ?_
                | refine thenI_n ?_
                | refine IWP_seq ?_
                | refine IWP_region ?_
                | refine IWP_ct rfl ?_
                | refine IWP_cf rfl ?_
                | refine IWP_skip ?_
                | refine IWP_ret ?_
                | refine IWP_block ?_
                | refine inB_n ?_
                | refine thenI_r ?_
                | refine thenI_e ?_
                | refine inB_r ?_
                | refine inB_hit ?_
                | refine inB_miss rfl ?_
                | refine IWP_exit ?_
                | refine IWP_scope ?_
                | refine IWP_label ?_
                | refine noG_n ?_
                | refine noG_r ?_
                | refine noG_e ?_
                | refine jmp_n ?_
                | refine jmp_r ?_
                | refine jmp_e ?_
                | refine jmp_g ?_
                | refine thenI_g ?_
                | refine inB_g ?_
                | refine IWP_goto ?_
                | refine Loop_n ?_
                | fail)
              try rw [hd]
              repeat' (first
                | refine IOps_nil ?_
                | refine oS ?_
                | refine IOps_s rfl rfl ?_
                | refine oT ?_
                | refine IOps_s0 rfl ?_
                | refine oC (π := []) (hs := by first | exact hdo | fail) (hx := ?_)
                | refine oC (π := []) (hs := by first | exact hhs | fail) (hx := ?_)
                | refine oC (π := []) (hs := by first | exact hks | fail) (hx := ?_)
                | refine oZ ?_
                | refine oI ?_
                | refine thenI_n ?_
                | refine IWP_seq ?_
                | refine IWP_region ?_
                | refine IWP_ct rfl ?_
                | refine IWP_cf rfl ?_
                | refine IWP_skip ?_
                | refine IWP_ret ?_
                | refine IWP_block ?_
                | refine inB_n ?_
                | refine thenI_r ?_
                | refine thenI_e ?_
                | refine inB_r ?_
                | refine inB_hit ?_
                | refine inB_miss rfl ?_
                | refine IWP_exit ?_
                | refine IWP_scope ?_
                | refine IWP_label ?_
                | refine noG_n ?_
                | refine noG_r ?_
                | refine noG_e ?_
                | refine jmp_n ?_
                | refine jmp_r ?_
                | refine jmp_e ?_
                | refine jmp_g ?_
                | refine thenI_g ?_
                | refine inB_g ?_
                | refine IWP_goto ?_
                | refine Loop_n ?_
                | fail)
              try rw [hd]
              repeat' (first
                | refine IOps_nil ?_
                | refine oS ?_
                | refine IOps_s rfl rfl ?_
                | refine oT ?_
                | refine IOps_s0 rfl ?_
                | refine oC (π := []) (hs := by first | exact hdo | fail) (hx := ?_)
                | refine oC (π := []) (hs := by first | exact hhs | fail) (hx := ?_)
                | refine oC (π := []) (hs := by first | exact hks | fail) (hx := ?_)
                | refine oZ ?_
                | refine oI ?_
                | refine thenI_n ?_
                | refine IWP_seq ?_
                | refine IWP_region ?_
                | refine IWP_ct rfl ?_
                | refine IWP_cf rfl ?_
                | refine IWP_skip ?_
                | refine IWP_ret ?_
                | refine IWP_block ?_
                | refine inB_n ?_
                | refine thenI_r ?_
                | refine thenI_e ?_
                | refine inB_r ?_
                | refine inB_hit ?_
                | refine inB_miss rfl ?_
                | refine IWP_exit ?_
                | refine IWP_scope ?_
                | refine IWP_label ?_
                | refine noG_n ?_
                | refine noG_r ?_
                | refine noG_e ?_
                | refine jmp_n ?_
                | refine jmp_r ?_
                | refine jmp_e ?_
                | refine jmp_g ?_
                | refine thenI_g ?_
                | refine inB_g ?_
                | refine IWP_goto ?_
                | refine Loop_n ?_
                | fail)
              try rw [hd]
              repeat' (first
                | refine IOps_nil ?_
                | refine oS ?_
                | refine IOps_s rfl rfl ?_
                | refine oT ?_
                | refine IOps_s0 rfl ?_
                | refine oC (π := []) (hs := by first | exact hdo | fail) (hx := ?_)
                | refine oC (π := []) (hs := by first | exact hhs | fail) (hx := ?_)
                | refine oC (π := []) (hs := by first | exact hks | fail) (hx := ?_)
                | refine oZ ?_
                | refine oI ?_
                | refine thenI_n ?_
                | refine IWP_seq ?_
                | refine IWP_region ?_
                | refine IWP_ct rfl ?_
                | refine IWP_cf rfl ?_
                | refine IWP_skip ?_
                | refine IWP_ret ?_
                | refine IWP_block ?_
                | refine inB_n ?_
                | refine thenI_r ?_
                | refine thenI_e ?_
                | refine inB_r ?_
                | refine inB_hit ?_
                | refine inB_miss rfl ?_
                | refine IWP_exit ?_
                | refine IWP_scope ?_
                | refine IWP_label ?_
                | refine noG_n ?_
                | refine noG_r ?_
                | refine noG_e ?_
                | refine jmp_n ?_
                | refine jmp_r ?_
                | refine jmp_e ?_
                | refine jmp_g ?_
                | refine thenI_g ?_
                | refine inB_g ?_
                | refine IWP_goto ?_
                | refine Loop_n ?_
                | fail)
              exact ⟨(m, (l.getD i default).val, true, i + 1), ⟨hM.ok, by simp only; omega, h, hM.get⟩, by simp only; omega, lP []⟩
          · rcases Bool.eq_false_or_eq_true (l.getD i default).del with hd | hd
            · skip
              obtain ⟨rfl, rfl⟩ := hM.miss (fun z => he z.2)
              rw [show (getV x (l.getD i default).key).2 = false from by cases q : (getV x (l.getD i default).key).2 with | false => rfl | true => exact absurd ((hM.del1 hd).1 q) he] at hhs
              repeat' (first
                | refine IOps_nil ?_
                | refine oS ?_
                | refine IOps_s rfl rfl ?_
                | refine oT ?_
                | refine IOps_s0 rfl ?_
                | refine oC (π := []) (hs := by first | exact hdo | fail) (hx := ?_)
                | refine oC (π := []) (hs := by first | exact hhs | fail) (hx := ?_)
                | refine oC (π := []) (hs := by first | exact hks | fail) (hx := ?_)
                | refine oZ ?_
                | refine oI ?_
                | refine thenI_n ?_
                | refine IWP_seq ?_
                | refine IWP_region ?_
                | refine IWP_ct rfl ?_
                | refine IWP_cf rfl ?_
                | refine IWP_skip ?_
                | refine IWP_ret ?_
                | refine IWP_block ?_
                | refine inB_n ?_
                | refine thenI_r ?_
                | refine thenI_e ?_
                | refine inB_r ?_
                | refine inB_hit ?_
                | refine inB_miss rfl ?_
                | refine IWP_exit ?_
                | refine IWP_scope ?_
                | refine IWP_label ?_
                | refine noG_n ?_
                | refine noG_r ?_
                | refine noG_e ?_
                | refine jmp_n ?_
                | refine jmp_r ?_
                | refine jmp_e ?_
                | refine jmp_g ?_
                | refine thenI_g ?_
                | refine inB_g ?_
                | refine IWP_goto ?_
                | refine Loop_n ?_
                | fail)
              try rw [hd]
              repeat' (first
                | refine IOps_nil ?_
                | refine oS ?_
                | refine IOps_s rfl rfl ?_
                | refine oT ?_
                | refine IOps_s0 rfl ?_
                | refine oC (π := []) (hs := by first | exact hdo | fail) (hx := ?_)
                | refine oC (π := []) (hs := by first | exact hhs | fail) (hx := ?_)
                | refine oC (π := []) (hs := by first | exact hks | fail) (hx := ?_)
                | refine oZ ?_
                | refine oI ?_
                | refine thenI_n ?_
                | refine IWP_seq ?_
                | refine IWP_region ?_
                | refine IWP_ct rfl ?_
                | refine IWP_cf rfl ?_
                | refine IWP_skip ?_
                | refine IWP_ret ?_
                | refine IWP_block ?_
                | refine inB_n ?_
                | refine thenI_r ?_
                | refine thenI_e ?_
                | refine inB_r ?_
                | refine inB_hit ?_
                | refine inB_miss rfl ?_
                | refine IWP_exit ?_
                | refine IWP_scope ?_
                | refine IWP_label ?_
                | refine noG_n ?_
                | refine noG_r ?_
                | refine noG_e ?_
                | refine jmp_n ?_
                | refine jmp_r ?_
                | refine jmp_e ?_
                | refine jmp_g ?_
                | refine thenI_g ?_
                | refine inB_g ?_
                | refine IWP_goto ?_
                | refine Loop_n ?_
                | fail)
              try rw [hd]
              repeat' (first
                | refine IOps_nil ?_
                | refine oS ?_
                | refine IOps_s rfl rfl ?_
                | refine oT ?_
                | refine IOps_s0 rfl ?_
                | refine oC (π := []) (hs := by first | exact hdo | fail) (hx := ?_)
                | refine oC (π := []) (hs := by first | exact hhs | fail) (hx := ?_)
                | refine oC (π := []) (hs := by first | exact hks | fail) (hx := ?_)
                | refine oZ ?_
                | refine oI ?_
                | refine thenI_n ?_
                | refine IWP_seq ?_
                | refine IWP_region ?_
                | refine IWP_ct rfl ?_
                | refine IWP_cf rfl ?_
                | refine IWP_skip ?_
                | refine IWP_ret ?_
                | refine IWP_block ?_
                | refine inB_n ?_
                | refine thenI_r ?_
                | refine thenI_e ?_
                | refine inB_r ?_
                | refine inB_hit ?_
                | refine inB_miss rfl ?_
                | refine IWP_exit ?_
                | refine IWP_scope ?_
                | refine IWP_label ?_
                | refine noG_n ?_
                | refine noG_r ?_
                | refine noG_e ?_
                | refine jmp_n ?_
                | refine jmp_r ?_
                | refine jmp_e ?_
                | refine jmp_g ?_
                | refine thenI_g ?_
                | refine inB_g ?_
                | refine IWP_goto ?_
                | refine Loop_n ?_
                | fail)
              try rw [hd]
              repeat' (first
                | refine IOps_nil ?_
                | refine oS ?_
                | refine IOps_s rfl rfl ?_
                | refine oT ?_
                | refine IOps_s0 rfl ?_
                | refine oC (π := []) (hs := by first | exact hdo | fail) (hx := ?_)
                | refine oC (π := []) (hs := by first | exact hhs | fail) (hx := ?_)
                | refine oC (π := []) (hs := by first | exact hks | fail) (hx := ?_)
                | refine oZ ?_
                | refine oI ?_
                | refine thenI_n ?_
                | refine IWP_seq ?_
                | refine IWP_region ?_
                | refine IWP_ct rfl ?_
                | refine IWP_cf rfl ?_
                | refine IWP_skip ?_
                | refine IWP_ret ?_
                | refine IWP_block ?_
                | refine inB_n ?_
                | refine thenI_r ?_
                | refine thenI_e ?_
                | refine inB_r ?_
                | refine inB_hit ?_
                | refine inB_miss rfl ?_
                | refine IWP_exit ?_
                | refine IWP_scope ?_
                | refine IWP_label ?_
                | refine noG_n ?_
                | refine noG_r ?_
                | refine noG_e ?_
                | refine jmp_n ?_
                | refine jmp_r ?_
                | refine jmp_e ?_
                | refine jmp_g ?_
                | refine thenI_g ?_
                | refine inB_g ?_
                | refine IWP_goto ?_
                | refine Loop_n ?_
                | fail)
              exact ⟨(m, v', b', i + 1), ⟨hM.ok, by simp only; omega, h, hM.get⟩, by simp only; omega, lP []⟩
            · skip
              obtain ⟨rfl, rfl⟩ := hM.miss (fun z => he z.2)
              rw [decide_eq_false (fun z => he ((hM.put1 hd).1 z))] at hks
              repeat' (first
                | refine IOps_nil ?_
                | refine oS ?_
                | refine IOps_s rfl rfl ?_
                | refine oT ?_
                | refine IOps_s0 rfl ?_
                | refine oC (π := []) (hs := by first | exact hdo | fail) (hx := ?_)
                | refine oC (π := []) (hs := by first | exact hhs | fail) (hx := ?_)
                | refine oC (π := []) (hs := by first | exact hks | fail) (hx := ?_)
                | refine oZ ?_
                | refine oI ?_
                | refine thenI_n ?_
                | refine IWP_seq ?_
                | refine IWP_region ?_
                | refine IWP_ct rfl ?_
                | refine IWP_cf rfl ?_
                | refine IWP_skip ?_
                | refine IWP_ret ?_
                | refine IWP_block ?_
                | refine inB_n ?_
                | refine thenI_r ?_
                | refine thenI_e ?_
                | refine inB_r ?_
                | refine inB_hit ?_
                | refine inB_miss rfl ?_
                | refine IWP_exit ?_
                | refine IWP_scope ?_
                | refine IWP_label ?_
                | refine noG_n ?_
                | refine noG_r ?_
                | refine noG_e ?_
                | refine jmp_n ?_
                | refine jmp_r ?_
                | refine jmp_e ?_
                | refine jmp_g ?_
                | refine thenI_g ?_
                | refine inB_g ?_
                | refine IWP_goto ?_
                | refine Loop_n ?_
                | fail)
              try rw [hd]
              repeat' (first
                | refine IOps_nil ?_
                | refine oS ?_
                | refine IOps_s rfl rfl ?_
                | refine oT ?_
                | refine IOps_s0 rfl ?_
                | refine oC (π := []) (hs := by first | exact hdo | fail) (hx := ?_)
                | refine oC (π := []) (hs := by first | exact hhs | fail) (hx := ?_)
                | refine oC (π := []) (hs := by first | exact hks | fail) (hx := ?_)
                | refine oZ ?_
                | refine oI ?_
                | refine thenI_n ?_
                | refine IWP_seq ?_
                | refine IWP_region ?_
                | refine IWP_ct rfl ?_
                | refine IWP_cf rfl ?_
                | refine IWP_skip ?_
                | refine IWP_ret ?_
                | refine IWP_block ?_
                | refine inB_n ?_
                | refine thenI_r ?_
                | refine thenI_e ?_
                | refine inB_r ?_
                | refine inB_hit ?_
                | refine inB_miss rfl ?_
                | refine IWP_exit ?_
                | refine IWP_scope ?_
                | refine IWP_label ?_
                | refine noG_n ?_
                | refine noG_r ?_
                | refine noG_e ?_
                | refine jmp_n ?_
                | refine jmp_r ?_
                | refine jmp_e ?_
                | refine jmp_g ?_
                | refine thenI_g ?_
                | refine inB_g ?_
                | refine IWP_goto ?_
                | refine Loop_n ?_
                | fail)
              try rw [hd]
              repeat' (first
                | refine IOps_nil ?_
                | refine oS ?_
                | refine IOps_s rfl rfl ?_
                | refine oT ?_
                | refine IOps_s0 rfl ?_
                | refine oC (π := []) (hs := by first | exact hdo | fail) (hx := ?_)
                | refine oC (π := []) (hs := by first | exact hhs | fail) (hx := ?_)
                | refine oC (π := []) (hs := by first | exact hks | fail) (hx := ?_)
                | refine oZ ?_
                | refine oI ?_
                | refine thenI_n ?_
                | refine IWP_seq ?_
                | refine IWP_region ?_
                | refine IWP_ct rfl ?_
                | refine IWP_cf rfl ?_
                | refine IWP_skip ?_
                | refine IWP_ret ?_
                | refine IWP_block ?_
                | refine inB_n ?_
                | refine thenI_r ?_
                | refine thenI_e ?_
                | refine inB_r ?_
                | refine inB_hit ?_
                | refine inB_miss rfl ?_
                | refine IWP_exit ?_
                | refine IWP_scope ?_
                | refine IWP_label ?_
                | refine noG_n ?_
                | refine noG_r ?_
                | refine noG_e ?_
                | refine jmp_n ?_
                | refine jmp_r ?_
                | refine jmp_e ?_
                | refine jmp_g ?_
                | refine thenI_g ?_
                | refine inB_g ?_
                | refine IWP_goto ?_
                | refine Loop_n ?_
                | fail)
              try rw [hd]
              repeat' (first
                | refine IOps_nil ?_
                | refine oS ?_
                | refine IOps_s rfl rfl ?_
                | refine oT ?_
                | refine IOps_s0 rfl ?_
                | refine oC (π := []) (hs := by first | exact hdo | fail) (hx := ?_)
                | refine oC (π := []) (hs := by first | exact hhs | fail) (hx := ?_)
                | refine oC (π := []) (hs := by first | exact hks | fail) (hx := ?_)
                | refine oZ ?_
                | refine oI ?_
                | refine thenI_n ?_
                | refine IWP_seq ?_
                | refine IWP_region ?_
                | refine IWP_ct rfl ?_
                | refine IWP_cf rfl ?_
                | refine IWP_skip ?_
                | refine IWP_ret ?_
                | refine IWP_block ?_
                | refine inB_n ?_
                | refine thenI_r ?_
                | refine thenI_e ?_
                | refine inB_r ?_
                | refine inB_hit ?_
                | refine inB_miss rfl ?_
                | refine IWP_exit ?_
                | refine IWP_scope ?_
                | refine IWP_label ?_
                | refine noG_n ?_
                | refine noG_r ?_
                | refine noG_e ?_
                | refine jmp_n ?_
                | refine jmp_r ?_
                | refine jmp_e ?_
                | refine jmp_g ?_
                | refine thenI_g ?_
                | refine inB_g ?_
                | refine IWP_goto ?_
                | refine Loop_n ?_
                | fail)
              exact ⟨(m, v', b', i + 1), ⟨hM.ok, by simp only; omega, h, hM.get⟩, by simp only; omega, lP []⟩
        · by_cases he : e = 0
          · rcases Bool.eq_false_or_eq_true (l.getD i default).del with hd | hd
            · skip
              obtain ⟨rfl, rfl⟩ := hM.miss (fun z => hk z.1)
              rw [show (getV x (l.getD i default).key).2 = true from (hM.del1 hd).2 he] at hhs
              repeat' (first
                | refine IOps_nil ?_
                | refine oS ?_
                | refine IOps_s rfl rfl ?_
                | refine oT ?_
                | refine IOps_s0 rfl ?_
                | refine oC (π := []) (hs := by first | exact hdo | fail) (hx := ?_)
                | refine oC (π := []) (hs := by first | exact hhs | fail) (hx := ?_)
                | refine oC (π := []) (hs := by first | exact hks | fail) (hx := ?_)
                | refine oZ ?_
                | refine oI ?_
                | refine thenI_n ?_
                | refine IWP_seq ?_
                | refine IWP_region ?_
                | refine IWP_ct rfl ?_
                | refine IWP_cf rfl ?_
                | refine IWP_skip ?_
                | refine IWP_ret ?_
                | refine IWP_block ?_
                | refine inB_n ?_
                | refine thenI_r ?_
                | refine thenI_e ?_
                | refine inB_r ?_
                | refine inB_hit ?_
                | refine inB_miss rfl ?_
                | refine IWP_exit ?_
                | refine IWP_scope ?_
                | refine IWP_label ?_
                | refine noG_n ?_
                | refine noG_r ?_
                | refine noG_e ?_
                | refine jmp_n ?_
                | refine jmp_r ?_
                | refine jmp_e ?_
                | refine jmp_g ?_
                | refine thenI_g ?_
                | refine inB_g ?_
                | refine IWP_goto ?_
                | refine Loop_n ?_
                | fail)
              try rw [hd]
              repeat' (first
                | refine IOps_nil ?_
                | refine oS ?_
                | refine IOps_s rfl rfl ?_
                | refine oT ?_
                | refine IOps_s0 rfl ?_
                | refine oC (π := []) (hs := by first | exact hdo | fail) (hx := ?_)
                | refine oC (π := []) (hs := by first | exact hhs | fail) (hx := ?_)
                | refine oC (π := []) (hs := by first | exact hks | fail) (hx := ?_)
                | refine oZ ?_
                | refine oI ?_
                | refine thenI_n ?_
                | refine IWP_seq ?_
                | refine IWP_region ?_
                | refine IWP_ct rfl ?_
                | refine IWP_cf rfl ?_
                | refine IWP_skip ?_
                | refine IWP_ret ?_
                | refine IWP_block ?_
                | refine inB_n ?_
                | refine thenI_r ?_
                | refine thenI_e ?_
                | refine inB_r ?_
                | refine inB_hit ?_
                | refine inB_miss rfl ?_
                | refine IWP_exit ?_
                | refine IWP_scope ?_
                | refine IWP_label ?_
                | refine noG_n ?_
                | refine noG_r ?_
                | refine noG_e ?_
                | refine jmp_n ?_
                | refine jmp_r ?_
                | refine jmp_e ?_
                | refine jmp_g ?_
                | refine thenI_g ?_
                | refine inB_g ?_
                | refine IWP_goto ?_
                | refine Loop_n ?_
                | fail)
              try rw [hd]
              repeat' (first
                | refine IOps_nil ?_
                | refine oS ?_
                | refine IOps_s rfl rfl ?_
                | refine oT ?_
                | refine IOps_s0 rfl ?_
                | refine oC (π := []) (hs := by first | exact hdo | fail) (hx := ?_)
                | refine oC (π := []) (hs := by first | exact hhs | fail) (hx := ?_)
                | refine oC (π := []) (hs := by first | exact hks | fail) (hx := ?_)
                | refine oZ ?_
                | refine oI ?_
                | refine thenI_n ?_
                | refine IWP_seq ?_
                | refine IWP_region ?_
                | refine IWP_ct rfl ?_
                | refine IWP_cf rfl ?_
                | refine IWP_skip ?_
                | refine IWP_ret ?_
                | refine IWP_block ?_
                | refine inB_n ?_
                | refine thenI_r ?_
                | refine thenI_e ?_
                | refine inB_r ?_
                | refine inB_hit ?_
                | refine inB_miss rfl ?_
                | refine IWP_exit ?_
                | refine IWP_scope ?_
                | refine IWP_label ?_
                | refine noG_n ?_
                | refine noG_r ?_
                | refine noG_e ?_
                | refine jmp_n ?_
                | refine jmp_r ?_
                | refine jmp_e ?_
                | refine jmp_g ?_
                | refine thenI_g ?_
                | refine inB_g ?_
                | refine IWP_goto ?_
                | refine Loop_n ?_
                | fail)
              try rw [hd]
              repeat' (first
                | refine IOps_nil ?_
                | refine oS ?_
                | refine IOps_s rfl rfl ?_
                | refine oT ?_
                | refine IOps_s0 rfl ?_
                | refine oC (π := []) (hs := by first | exact hdo | fail) (hx := ?_)
                | refine oC (π := []) (hs := by first | exact hhs | fail) (hx := ?_)
                | refine oC (π := []) (hs := by first | exact hks | fail) (hx := ?_)
                | refine oZ ?_
                | refine oI ?_
                | refine thenI_n ?_
                | refine IWP_seq ?_
                | refine IWP_region ?_
                | refine IWP_ct rfl ?_
                | refine IWP_cf rfl ?_
                | refine IWP_skip ?_
                | refine IWP_ret ?_
                | refine IWP_block ?_
                | refine inB_n ?_
                | refine thenI_r ?_
                | refine thenI_e ?_
                | refine inB_r ?_
                | refine inB_hit ?_
                | refine inB_miss rfl ?_
                | refine IWP_exit ?_
                | refine IWP_scope ?_
                | refine IWP_label ?_
                | refine noG_n ?_
                | refine noG_r ?_
                | refine noG_e ?_
                | refine jmp_n ?_
                | refine jmp_r ?_
                | refine jmp_e ?_
                | refine jmp_g ?_
                | refine thenI_g ?_
                | refine inB_g ?_
                | refine IWP_goto ?_
                | refine Loop_n ?_
                | fail)
              exact ⟨(m, v', b', i + 1), ⟨hM.ok, by simp only; omega, h, hM.get⟩, by simp only; omega, lP []⟩
            · skip
              obtain ⟨rfl, rfl⟩ := hM.miss (fun z => hk z.1)
              rw [decide_eq_true ((hM.put1 hd).2 he)] at hks
              repeat' (first
                | refine IOps_nil ?_
                | refine oS ?_
                | refine IOps_s rfl rfl ?_
                | refine oT ?_
                | refine IOps_s0 rfl ?_
                | refine oC (π := []) (hs := by first | exact hdo | fail) (hx := ?_)
                | refine oC (π := []) (hs := by first | exact hhs | fail) (hx := ?_)
                | refine oC (π := []) (hs := by first | exact hks | fail) (hx := ?_)
                | refine oZ ?_
                | refine oI ?_
                | refine thenI_n ?_
                | refine IWP_seq ?_
                | refine IWP_region ?_
                | refine IWP_ct rfl ?_
                | refine IWP_cf rfl ?_
                | refine IWP_skip ?_
                | refine IWP_ret ?_
                | refine IWP_block ?_
                | refine inB_n ?_
                | refine thenI_r ?_
                | refine thenI_e ?_
                | refine inB_r ?_
                | refine inB_hit ?_
                | refine inB_miss rfl ?_
                | refine IWP_exit ?_
                | refine IWP_scope ?_
                | refine IWP_label ?_
                | refine noG_n ?_
                | refine noG_r ?_
                | refine noG_e ?_
                | refine jmp_n ?_
                | refine jmp_r ?_
                | refine jmp_e ?_
                | refine jmp_g ?_
                | refine thenI_g ?_
                | refine inB_g ?_
                | refine IWP_goto ?_
                | refine Loop_n ?_
                | fail)
              try rw [hd]
              repeat' (first
                | refine IOps_nil ?_
                | refine oS ?_
                | refine IOps_s rfl rfl ?_
                | refine oT ?_
                | refine IOps_s0 rfl ?_
                | refine oC (π := []) (hs := by first | exact hdo | fail) (hx := ?_)
                | refine oC (π := []) (hs := by first | exact hhs | fail) (hx := ?_)
                | refine oC (π := []) (hs := by first | exact hks | fail) (hx := ?_)
                | refine oZ ?_
                | refine oI ?_
                | refine thenI_n ?_
                | refine IWP_seq ?_
                | refine IWP_region ?_
                | refine IWP_ct rfl ?_
                | refine IWP_cf rfl ?_
                | refine IWP_skip ?_
                | refine IWP_ret ?_
                | refine IWP_block ?_
                | refine inB_n ?_
                | refine thenI_r ?_
                | refine thenI_e ?_
                | refine inB_r ?_
                | refine inB_hit ?_
                | refine inB_miss rfl ?_
                | refine IWP_exit ?_
                | refine IWP_scope ?_
                | refine IWP_label ?_
                | refine noG_n ?_
                | refine noG_r ?_
                | refine noG_e ?_
                | refine jmp_n ?_
                | refine jmp_r ?_
                | refine jmp_e ?_
                | refine jmp_g ?_
                | refine thenI_g ?_
                | refine inB_g ?_
                | refine IWP_goto ?_
                | refine Loop_n ?_
                | fail)
              try rw [hd]
              repeat' (first
                | refine IOps_nil ?_
                | refine oS ?_
                | refine IOps_s rfl rfl ?_
                | refine oT ?_
                | refine IOps_s0 rfl ?_
                | refine oC (π := []) (hs := by first | exact hdo | fail) (hx := ?_)
                | refine oC (π := []) (hs := by first | exact hhs | fail) (hx := ?_)
                | refine oC (π := []) (hs := by first | exact hks | fail) (hx := ?_)
                | refine oZ ?_
                | refine oI ?_
                | refine thenI_n ?_
                | refine IWP_seq ?_
                | refine IWP_region ?_
                | refine IWP_ct rfl ?_
                | refine IWP_cf rfl ?_
                | refine IWP_skip ?_
                | refine IWP_ret ?_
                | refine IWP_block ?_
                | refine inB_n ?_
                | refine thenI_r ?_
                | refine thenI_e ?_
                | refine inB_r ?_
                | refine inB_hit ?_
                | refine inB_miss rfl ?_
                | refine IWP_exit ?_
                | refine IWP_scope ?_
                | refine IWP_label ?_
                | refine noG_n ?_
                | refine noG_r ?_
                | refine noG_e ?_
                | refine jmp_n ?_
                | refine jmp_r ?_
                | refine jmp_e ?_
                | refine jmp_g ?_
                | refine thenI_g ?_
                | refine inB_g ?_
                | refine IWP_goto ?_
                | refine Loop_n ?_
                | fail)
              try rw [hd]
              repeat' (first
                | refine IOps_nil ?_
                | refine oS ?_
                | refine IOps_s rfl rfl ?_
                | refine oT ?_
                | refine IOps_s0 rfl ?_
                | refine oC (π := []) (hs := by first | exact hdo | fail) (hx := ?_)
                | refine oC (π := []) (hs := by first | exact hhs | fail) (hx := ?_)
                | refine oC (π := []) (hs := by first | exact hks | fail) (hx := ?_)
                | refine oZ ?_
                | refine oI ?_
                | refine thenI_n ?_
                | refine IWP_seq ?_
                | refine IWP_region ?_
                | refine IWP_ct rfl ?_
                | refine IWP_cf rfl ?_
                | refine IWP_skip ?_
                | refine IWP_ret ?_
                | refine IWP_block ?_
                | refine inB_n ?_
                | refine thenI_r ?_
                | refine thenI_e ?_
                | refine inB_r ?_
                | refine inB_hit ?_
                | refine inB_miss rfl ?_
                | refine IWP_exit ?_
                | refine IWP_scope ?_
                | refine IWP_label ?_
                | refine noG_n ?_
                | refine noG_r ?_
                | refine noG_e ?_
                | refine jmp_n ?_
                | refine jmp_r ?_
                | refine jmp_e ?_
                | refine jmp_g ?_
                | refine thenI_g ?_
                | refine inB_g ?_
                | refine IWP_goto ?_
                | refine Loop_n ?_
                | fail)
              exact ⟨(m, v', b', i + 1), ⟨hM.ok, by simp only; omega, h, hM.get⟩, by simp only; omega, lP []⟩
          · rcases Bool.eq_false_or_eq_true (l.getD i default).del with hd | hd
            · skip
              obtain ⟨rfl, rfl⟩ := hM.miss (fun z => he z.2)
              rw [show (getV x (l.getD i default).key).2 = false from by cases q : (getV x (l.getD i default).key).2 with | false => rfl | true => exact absurd ((hM.del1 hd).1 q) he] at hhs
              repeat' (first
                | refine IOps_nil ?_
                | refine oS ?_
                | refine IOps_s rfl rfl ?_
                | refine oT ?_
                | refine IOps_s0 rfl ?_
                | refine oC (π := []) (hs := by first | exact hdo | fail) (hx := ?_)
                | refine oC (π := []) (hs := by first | exact hhs | fail) (hx := ?_)
                | refine oC (π := []) (hs := by first | exact hks | fail) (hx := ?_)
                | refine oZ ?_
                | refine oI ?_
                | refine thenI_n ?_
                | refine IWP_seq ?_
                | refine IWP_region ?_
                | refine IWP_ct rfl ?_
                | refine IWP_cf rfl ?_
                | refine IWP_skip ?_
                | refine IWP_ret ?_
                | refine IWP_block ?_
                | refine inB_n ?_
                | refine thenI_r ?_
                | refine thenI_e ?_
                | refine inB_r ?_
                | refine inB_hit ?_
                | refine inB_miss rfl ?_
                | refine IWP_exit ?_
                | refine IWP_scope ?_
                | refine IWP_label ?_
                | refine noG_n ?_
                | refine noG_r ?_
                | refine noG_e ?_
                | refine jmp_n ?_
                | refine jmp_r ?_
                | refine jmp_e ?_
                | refine jmp_g ?_
                | refine thenI_g ?_
                | refine inB_g ?_
                | refine IWP_goto ?_
                | refine Loop_n ?_
                | fail)
              try rw [hd]
              repeat' (first
                | refine IOps_nil ?_
                | refine oS ?_
                | refine IOps_s rfl rfl ?_
                | refine oT ?_
                | refine IOps_s0 rfl ?_
                | refine oC (π := []) (hs := by first | exact hdo | fail) (hx := ?_)
                | refine oC (π := []) (hs := by first | exact hhs | fail) (hx := ?_)
                | refine oC (π := []) (hs := by first | exact hks | fail) (hx := ?_)
                | refine oZ ?_
                | refine oI ?_
                | refine thenI_n ?_
                | refine IWP_seq ?_
                | refine IWP_region ?_
                | refine IWP_ct rfl ?_
                | refine IWP_cf rfl ?_
                | refine IWP_skip ?_
                | refine IWP_ret ?_
                | refine IWP_block ?_
                | refine inB_n ?_
                | refine thenI_r ?_
                | refine thenI_e ?_
                | refine inB_r ?_
                | refine inB_hit ?_
                | refine inB_miss rfl ?_
                | refine IWP_exit ?_
                | refine IWP_scope ?_
                | refine IWP_label ?_
                | refine noG_n ?_
                | refine noG_r ?_
                | refine noG_e ?_
                | refine jmp_n ?_
                | refine jmp_r ?_
                | refine jmp_e ?_
                | refine jmp_g ?_
                | refine thenI_g ?_
                | refine inB_g ?_
                | refine IWP_goto ?_
                | refine Loop_n ?_
                | fail)
              try rw [hd]
              repeat' (first
                | refine IOps_nil ?_
                | refine oS ?_
                | refine IOps_s rfl rfl ?_
                | refine oT ?_
                | refine IOps_s0 rfl ?_
                | refine oC (π := []) (hs := by first | exact hdo | fail) (hx := ?_)
                | refine oC (π := []) (hs := by first | exact hhs | fail) (hx := ?_)
                | refine oC (π := []) (hs := by first | exact hks | fail) (hx := ?_)
                | refine oZ ?_
                | refine oI ?_
                | refine thenI_n ?_
                | refine IWP_seq ?_
                | refine IWP_region ?_
                | refine IWP_ct rfl ?_
                | refine IWP_cf rfl ?_
                | refine IWP_skip ?_
                | refine IWP_ret ?_
                | refine IWP_block ?_
                | refine inB_n ?_
                | refine thenI_r ?_
                | refine thenI_e ?_
                | refine inB_r ?_
                | refine inB_hit ?_
                | refine inB_miss rfl ?_
                | refine IWP_exit ?_
                | refine IWP_scope ?_
                | refine IWP_label ?_
                | refine noG_n ?_
                | refine noG_r ?_
                | refine noG_e ?_
                | refine jmp_n ?_
                | refine jmp_r ?_
                | refine jmp_e ?_
                | refine jmp_g ?_
                | refine thenI_g ?_
                | refine inB_g ?_
                | refine IWP_goto ?_
                | refine Loop_n ?_
                | fail)
              try rw [hd]
              repeat' (first
                | refine IOps_nil ?_
                | refine oS ?_
                | refine IOps_s rfl rfl ?_
                | refine oT ?_
                | refine IOps_s0 rfl ?_
                | refine oC (π := []) (hs := by first | exact hdo | fail) (hx := ?_)
                | refine oC (π := []) (hs := by first | exact hhs | fail) (hx := ?_)
                | refine oC (π := []) (hs := by first | exact hks | fail) (hx := ?_)
                | refine oZ ?_
                | refine oI ?_
                | refine thenI_n ?_
                | refine IWP_seq ?_
                | refine IWP_region ?_
                | refine IWP_ct rfl ?_
                | refine IWP_cf rfl ?_
                | refine IWP_skip ?_
                | refine IWP_ret ?_
                | refine IWP_block ?_
                | refine inB_n ?_
                | refine thenI_r ?_
                | refine thenI_e ?_
                | refine inB_r ?_
                | refine inB_hit ?_
                | refine inB_miss rfl ?_
                | refine IWP_exit ?_
                | refine IWP_scope ?_
                | refine IWP_label ?_
                | refine noG_n ?_
                | refine noG_r ?_
                | refine noG_e ?_
                | refine jmp_n ?_
                | refine jmp_r ?_
                | refine jmp_e ?_
                | refine jmp_g ?_
                | refine thenI_g ?_
                | refine inB_g ?_
                | refine IWP_goto ?_
                | refine Loop_n ?_
                | fail)
              exact ⟨(m, v', b', i + 1), ⟨hM.ok, by simp only; omega, h, hM.get⟩, by simp only; omega, lP []⟩
            · skip
              obtain ⟨rfl, rfl⟩ := hM.miss (fun z => he z.2)
              rw [decide_eq_false (fun z => he ((hM.put1 hd).1 z))] at hks
              repeat' (first
                | refine IOps_nil ?_
                | refine oS ?_
                | refine IOps_s rfl rfl ?_
                | refine oT ?_
                | refine IOps_s0 rfl ?_
                | refine oC (π := []) (hs := by first | exact hdo | fail) (hx := ?_)
                | refine oC (π := []) (hs := by first | exact hhs | fail) (hx := ?_)
                | refine oC (π := []) (hs := by first | exact hks | fail) (hx := ?_)
                | refine oZ ?_
                | refine oI ?_
                | refine thenI_n ?_
                | refine IWP_seq ?_
                | refine IWP_region ?_
                | refine IWP_ct rfl ?_
                | refine IWP_cf rfl ?_
                | refine IWP_skip ?_
                | refine IWP_ret ?_
                | refine IWP_block ?_
                | refine inB_n ?_
                | refine thenI_r ?_
                | refine thenI_e ?_
                | refine inB_r ?_
                | refine inB_hit ?_
                | refine inB_miss rfl ?_
                | refine IWP_exit ?_
                | refine IWP_scope ?_
                | refine IWP_label ?_
                | refine noG_n ?_
                | refine noG_r ?_
                | refine noG_e ?_
                | refine jmp_n ?_
                | refine jmp_r ?_
                | refine jmp_e ?_
                | refine jmp_g ?_
                | refine thenI_g ?_
                | refine inB_g ?_
                | refine IWP_goto ?_
                | refine Loop_n ?_
                | fail)
              try rw [hd]
              repeat' (first
                | refine IOps_nil ?_
                | refine oS ?_
                | refine IOps_s rfl rfl ?_
                | refine oT ?_
                | refine IOps_s0 rfl ?_
                | refine oC (π := []) (hs := by first | exact hdo | fail) (hx := ?_)
                | refine oC (π := []) (hs := by first | exact hhs | fail) (hx := ?_)
                | refine oC (π := []) (hs := by first | exact hks | fail) (hx := ?_)
                | refine oZ ?_
                | refine oI ?_
                | refine thenI_n ?_
                | refine IWP_seq ?_
                | refine IWP_region ?_
                | refine IWP_ct rfl ?_
                | refine IWP_cf rfl ?_
                | refine IWP_skip ?_
                | refine IWP_ret ?_
                | refine IWP_block ?_
                | refine inB_n ?_
                | refine thenI_r ?_
                | refine thenI_e ?_
                | refine inB_r ?_
                | refine inB_hit ?_
                | refine inB_miss rfl ?_
                | refine IWP_exit ?_
                | refine IWP_scope ?_
                | refine IWP_label ?_
                | refine noG_n ?_
                | refine noG_r ?_
                | refine noG_e ?_
                | refine jmp_n ?_
                | refine jmp_r ?_
                | refine jmp_e ?_
                | refine jmp_g ?_
                | refine thenI_g ?_
                | refine inB_g ?_
                | refine IWP_goto ?_
                | refine Loop_n ?_
                | fail)
              try rw [hd]
              repeat' (first
                | refine IOps_nil ?_
                | refine oS ?_
                | refine IOps_s rfl rfl ?_
                | refine oT ?_
                | refine IOps_s0 rfl ?_
                | refine oC (π := []) (hs := by first | exact hdo | fail) (hx := ?_)
                | refine oC (π := []) (hs := by first | exact hhs | fail) (hx := ?_)
                | refine oC (π := []) (hs := by first | exact hks | fail) (hx := ?_)
                | refine oZ ?_
                | refine oI ?_
                | refine thenI_n ?_
                | refine IWP_seq ?_
                | refine IWP_region ?_
                | refine IWP_ct rfl ?_
                | refine IWP_cf rfl ?_
                | refine IWP_skip ?_
                | refine IWP_ret ?_
                | refine IWP_block ?_
                | refine inB_n ?_
                | refine thenI_r ?_
                | refine thenI_e ?_
                | refine inB_r ?_
                | refine inB_hit ?_
                | refine inB_miss rfl ?_
                | refine IWP_exit ?_
                | refine IWP_scope ?_
                | refine IWP_label ?_
                | refine noG_n ?_
                | refine noG_r ?_
                | refine noG_e ?_
                | refine jmp_n ?_
                | refine jmp_r ?_
                | refine jmp_e ?_
                | refine jmp_g ?_
                | refine thenI_g ?_
                | refine inB_g ?_
                | refine IWP_goto ?_
                | refine Loop_n ?_
                | fail)
              try rw [hd]
              repeat' (first
                | refine IOps_nil ?_
                | refine oS ?_
                | refine IOps_s rfl rfl ?_
                | refine oT ?_
                | refine IOps_s0 rfl ?_
                | refine oC (π := []) (hs := by first | exact hdo | fail) (hx := ?_)
                | refine oC (π := []) (hs := by first | exact hhs | fail) (hx := ?_)
                | refine oC (π := []) (hs := by first | exact hks | fail) (hx := ?_)
                | refine oZ ?_
                | refine oI ?_
                | refine thenI_n ?_
                | refine IWP_seq ?_
                | refine IWP_region ?_
                | refine IWP_ct rfl ?_
                | refine IWP_cf rfl ?_
                | refine IWP_skip ?_
                | refine IWP_ret ?_
                | refine IWP_block ?_
                | refine inB_n ?_
                | refine thenI_r ?_
                | refine thenI_e ?_
                | refine inB_r ?_
                | refine inB_hit ?_
                | refine inB_miss rfl ?_
                | refine IWP_exit ?_
                | refine IWP_scope ?_
                | refine IWP_label ?_
                | refine noG_n ?_
                | refine noG_r ?_
                | refine noG_e ?_
                | refine jmp_n ?_
                | refine jmp_r ?_
                | refine jmp_e ?_
                | refine jmp_g ?_
                | refine thenI_g ?_
                | refine inB_g ?_
                | refine IWP_goto ?_
                | refine Loop_n ?_
                | fail)
              exact ⟨(m, v', b', i + 1), ⟨hM.ok, by simp only; omega, h, hM.get⟩, by simp only; omega, lP []⟩
      · have hgs := tget_spec x k (by omega) (by omega)
        rw [getT_of ho, hg] at hgs
        have hck := tcheck_fz x (by omega)
        rw [chk_ok ho] at hck
        cases b
        · repeat' (first
            | refine IOps_nil ?_
            | refine oS ?_
            | refine IOps_s rfl rfl ?_
            | refine oT ?_
            | refine IOps_s0 rfl ?_
            | refine oC (π := []) (hs := by first | exact hgs | fail) (hx := ?_)
            | refine oC (π := []) (hs := by first | exact hck | fail) (hx := ?_)
            | refine oZ ?_
            | refine oI ?_
            | refine thenI_n ?_
            | refine IWP_seq ?_
            | refine IWP_region ?_
            | refine IWP_ct rfl ?_
            | refine IWP_cf rfl ?_
            | refine IWP_skip ?_
            | refine IWP_ret ?_
            | refine IWP_block ?_
            | refine inB_n ?_
            | refine thenI_r ?_
            | refine thenI_e ?_
            | refine inB_r ?_
            | refine inB_hit ?_
            | refine inB_miss rfl ?_
            | refine IWP_exit ?_
            | refine IWP_scope ?_
            | refine IWP_label ?_
            | refine noG_n ?_
            | refine noG_r ?_
            | refine noG_e ?_
            | refine jmp_n ?_
            | refine jmp_r ?_
            | refine jmp_e ?_
            | refine jmp_g ?_
            | refine thenI_g ?_
            | refine inB_g ?_
            | refine IWP_goto ?_
            | refine Loop_n ?_
            | fail)
          exact pD [] ⟨rfl, rfl⟩
        · repeat' (first
            | refine IOps_nil ?_
            | refine oS ?_
            | refine IOps_s rfl rfl ?_
            | refine oT ?_
            | refine IOps_s0 rfl ?_
            | refine oC (π := []) (hs := by first | exact hgs | fail) (hx := ?_)
            | refine oC (π := []) (hs := by first | exact hck | fail) (hx := ?_)
            | refine oZ ?_
            | refine oI ?_
            | refine thenI_n ?_
            | refine IWP_seq ?_
            | refine IWP_region ?_
            | refine IWP_ct rfl ?_
            | refine IWP_cf rfl ?_
            | refine IWP_skip ?_
            | refine IWP_ret ?_
            | refine IWP_block ?_
            | refine inB_n ?_
            | refine thenI_r ?_
            | refine thenI_e ?_
            | refine inB_r ?_
            | refine inB_hit ?_
            | refine inB_miss rfl ?_
            | refine IWP_exit ?_
            | refine IWP_scope ?_
            | refine IWP_label ?_
            | refine noG_n ?_
            | refine noG_r ?_
            | refine noG_e ?_
            | refine jmp_n ?_
            | refine jmp_r ?_
            | refine jmp_e ?_
            | refine jmp_g ?_
            | refine thenI_g ?_
            | refine inB_g ?_
            | refine IWP_goto ?_
            | refine Loop_n ?_
            | fail)
          exact pD [] ⟨rfl, rfl⟩
    · refine sB Try.func3 Try.ntmps3 ?_
      repeat' (first
        | refine IOps_nil ?_
        | refine oS ?_
        | refine IOps_s rfl rfl ?_
        | refine oT ?_
        | refine IOps_s0 rfl ?_
        | refine oC (π := []) (hs := by first | exact table_awake | fail) (hx := ?_)
        | refine oC (π := []) (hs := by first | exact hfs | fail) (hx := ?_)
        | refine oZ ?_
        | refine oI ?_
        | refine thenI_n ?_
        | refine IWP_seq ?_
        | refine IWP_region ?_
        | refine IWP_ct rfl ?_
        | refine IWP_cf rfl ?_
        | refine IWP_skip ?_
        | refine IWP_ret ?_
        | refine IWP_block ?_
        | refine inB_n ?_
        | refine thenI_r ?_
        | refine thenI_e ?_
        | refine inB_r ?_
        | refine inB_hit ?_
        | refine inB_miss rfl ?_
        | refine IWP_exit ?_
        | refine IWP_scope ?_
        | refine IWP_label ?_
        | refine noG_n ?_
        | refine noG_r ?_
        | refine noG_e ?_
        | refine jmp_n ?_
        | refine jmp_r ?_
        | refine jmp_e ?_
        | refine jmp_g ?_
        | refine thenI_g ?_
        | refine inB_g ?_
        | refine IWP_goto ?_
        | refine Loop_n ?_
        | fail)
      exact pD [] ⟨rfl, rfl⟩
  · rw [decide_eq_false hf] at hfs
    refine sB Try.func3 Try.ntmps3 ?_
    repeat' (first
      | refine IOps_nil ?_
      | refine oS ?_
      | refine IOps_s rfl rfl ?_
      | refine oT ?_
      | refine IOps_s0 rfl ?_
      | refine oC (π := []) (hs := by first | exact table_awake | fail) (hx := ?_)
      | refine oC (π := []) (hs := by first | exact hfs | fail) (hx := ?_)
      | refine oZ ?_
      | refine oI ?_
      | refine thenI_n ?_
      | refine IWP_seq ?_
      | refine IWP_region ?_
      | refine IWP_ct rfl ?_
      | refine IWP_cf rfl ?_
      | refine IWP_skip ?_
      | refine IWP_ret ?_
      | refine IWP_block ?_
      | refine inB_n ?_
      | refine thenI_r ?_
      | refine thenI_e ?_
      | refine inB_r ?_
      | refine inB_hit ?_
      | refine inB_miss rfl ?_
      | refine IWP_exit ?_
      | refine IWP_scope ?_
      | refine IWP_label ?_
      | refine noG_n ?_
      | refine noG_r ?_
      | refine noG_e ?_
      | refine jmp_n ?_
      | refine jmp_r ?_
      | refine jmp_e ?_
      | refine jmp_g ?_
      | refine thenI_g ?_
      | refine inB_g ?_
      | refine IWP_goto ?_
      | refine Loop_n ?_
      | fail)
    exact pD [] ⟨rfl, rfl⟩
end Go.Proofs.Ytgchgdfigbonhaa
