/-
  A heap: steps.
-/
import Derived.Test.YtnlelckfhlcbgaaHeaH
namespace Go.Proofs.Ytnlelckfhlcbgaa
open Go Go.Idl
set_option linter.unusedSimpArgs false
set_option linter.unusedVariables false
set_option maxRecDepth 100000
set_option maxHeartbeats 1000000
attribute [local irreducible] Go.Idl.IWP Go.Idl.IOps Go.Idl.Obl Go.Idl.OpG Go.Idl.thenI Go.Idl.inBlockI Go.Idl.LoopU Go.Idl.noGotoI Go.Idl.jumpI
attribute [local go_sem] List.length_set
/-- What a step brings. -/
def DoR (h : List It) (d : Bool) (x : It) (M : List It) (e : Int) : Prop :=
  (d = true ∧ (∃ k, k < h.length ∧ (gd h k).id = x.id) ∧ e = 0 ∧ M.Perm (woI x.id h)) ∨ (d = true ∧ (∀ j, j < h.length → (gd h j).id ≠ x.id) ∧ e = 120 ∧ M = h) ∨
  (d = false ∧ ¬ (0 ≤ x.id ∧ x.id < 64) ∧ e = 110 ∧ M = h) ∨ (d = false ∧ (0 ≤ x.id ∧ x.id < 64) ∧ e = 0 ∧ M.Perm (upI x h))
theorem do_spec (h : List It) (d : Bool) (x : It) (hc : chk h = true) : Idl.Spec Try.prog 27 [.fz false (items h) h.length, .agg [.sc (.bool d), .sc (.int .i64 x.id), .sc (.int .u64 x.pri), .sc (.int .u64 x.seq)]] []
    (Ex (fun r : List It × Int => chk r.1 = true ∧ DoR h d x r.1 r.2) (fun r => .tup [.fz true (items r.1) r.1.length, .i64 r.2]) (fun _ => [])) := by
  have h64 : h.length ≤ 64 := ((chk_iff h).1 hc).1.len
  cases d
  · by_cases hx : 0 ≤ x.id ∧ x.id < 64
    · refine sE Try.func27 Try.ntmps27 ?_
      repeat' (first
        | refine IOps_nil ?_
        | refine oS ?_
        | refine IOps_s rfl rfl ?_
        | refine oT ?_
        | refine IOps_s0 rfl ?_
        | refine oZ ?_
        | refine oI ?_
        | refine thenI_n ?_
        | refine IWP_seq ?_
        | refine IWP_region ?_
        | refine IWP_ct rfl ?_
        | refine IWP_cf rfl ?_
        | refine IWP_skip ?_
        | refine IWP_ret ?_
        | refine IWP_block ?_
        | refine inB_n ?_
        | refine thenI_r ?_
        | refine thenI_e ?_
        | refine inB_r ?_
        | refine inB_hit ?_
        | refine inB_miss rfl ?_
        | refine IWP_exit ?_
        | refine IWP_scope ?_
        | refine IWP_label ?_
        | refine noG_n ?_
        | refine noG_r ?_
        | refine noG_e ?_
        | refine jmp_n ?_
        | refine jmp_r ?_
        | refine jmp_e ?_
        | refine jmp_g ?_
        | refine thenI_g ?_
        | refine inB_g ?_
        | refine IWP_goto ?_
        | refine Loop_n ?_
        | fail)
      refine oE [] (hs := set_c h x h64 hc hx) (hx := ?_)
      rintro M ⟨hM, hp⟩
      repeat' (first
        | refine IOps_nil ?_
        | refine oS ?_
        | refine IOps_s rfl rfl ?_
        | refine oT ?_
        | refine IOps_s0 rfl ?_
        | refine oZ ?_
        | refine oI ?_
        | refine thenI_n ?_
        | refine IWP_seq ?_
        | refine IWP_region ?_
        | refine IWP_ct rfl ?_
        | refine IWP_cf rfl ?_
        | refine IWP_skip ?_
        | refine IWP_ret ?_
        | refine IWP_block ?_
        | refine inB_n ?_
        | refine thenI_r ?_
        | refine thenI_e ?_
        | refine inB_r ?_
        | refine inB_hit ?_
        | refine inB_miss rfl ?_
        | refine IWP_exit ?_
        | refine IWP_scope ?_
        | refine IWP_label ?_
        | refine noG_n ?_
        | refine noG_r ?_
        | refine noG_e ?_
        | refine jmp_n ?_
        | refine jmp_r ?_
        | refine jmp_e ?_
        | refine jmp_g ?_
        | refine thenI_g ?_
        | refine inB_g ?_
        | refine IWP_goto ?_
        | refine Loop_n ?_
        | fail)
      exact pX [] (M, 0) ⟨hM, .inr (.inr (.inr ⟨rfl, hx, rfl, hp⟩))⟩ rfl
    · refine sE Try.func27 Try.ntmps27 ?_
      repeat' (first
        | refine IOps_nil ?_
        | refine oS ?_
        | refine IOps_s rfl rfl ?_
        | refine oT ?_
        | refine IOps_s0 rfl ?_
        | refine oC (π := []) (hs := by first | exact set_b h x (by omega) hc hx | fail) (hx := ?_)
        | refine oZ ?_
        | refine oI ?_
        | refine thenI_n ?_
        | refine IWP_seq ?_
        | refine IWP_region ?_
        | refine IWP_ct rfl ?_
        | refine IWP_cf rfl ?_
        | refine IWP_skip ?_
        | refine IWP_ret ?_
        | refine IWP_block ?_
        | refine inB_n ?_
        | refine thenI_r ?_
        | refine thenI_e ?_
        | refine inB_r ?_
        | refine inB_hit ?_
        | refine inB_miss rfl ?_
        | refine IWP_exit ?_
        | refine IWP_scope ?_
        | refine IWP_label ?_
        | refine noG_n ?_
        | refine noG_r ?_
        | refine noG_e ?_
        | refine jmp_n ?_
        | refine jmp_r ?_
        | refine jmp_e ?_
        | refine jmp_g ?_
        | refine thenI_g ?_
        | refine inB_g ?_
        | refine IWP_goto ?_
        | refine Loop_n ?_
        | fail)
      exact pX [] (h, 110) ⟨hc, .inr (.inr (.inl ⟨rfl, hx, rfl, rfl⟩))⟩ rfl
  · by_cases hex : ∃ k, k < h.length ∧ (gd h k).id = x.id
    · refine sE Try.func27 Try.ntmps27 ?_
      repeat' (first
        | refine IOps_nil ?_
        | refine oS ?_
        | refine IOps_s rfl rfl ?_
        | refine oT ?_
        | refine IOps_s0 rfl ?_
        | refine oZ ?_
        | refine oI ?_
        | refine thenI_n ?_
        | refine IWP_seq ?_
        | refine IWP_region ?_
        | refine IWP_ct rfl ?_
        | refine IWP_cf rfl ?_
        | refine IWP_skip ?_
        | refine IWP_ret ?_
        | refine IWP_block ?_
        | refine inB_n ?_
        | refine thenI_r ?_
        | refine thenI_e ?_
        | refine inB_r ?_
        | refine inB_hit ?_
        | refine inB_miss rfl ?_
        | refine IWP_exit ?_
        | refine IWP_scope ?_
        | refine IWP_label ?_
        | refine noG_n ?_
        | refine noG_r ?_
        | refine noG_e ?_
        | refine jmp_n ?_
        | refine jmp_r ?_
        | refine jmp_e ?_
        | refine jmp_g ?_
        | refine thenI_g ?_
        | refine inB_g ?_
        | refine IWP_goto ?_
        | refine Loop_n ?_
        | fail)
      refine oE [] (hs := drop_c h x.id h64 hc hex) (hx := ?_)
      rintro M ⟨hM, hp⟩
      repeat' (first
        | refine IOps_nil ?_
        | refine oS ?_
        | refine IOps_s rfl rfl ?_
        | refine oT ?_
        | refine IOps_s0 rfl ?_
        | refine oZ ?_
        | refine oI ?_
        | refine thenI_n ?_
        | refine IWP_seq ?_
        | refine IWP_region ?_
        | refine IWP_ct rfl ?_
        | refine IWP_cf rfl ?_
        | refine IWP_skip ?_
        | refine IWP_ret ?_
        | refine IWP_block ?_
        | refine inB_n ?_
        | refine thenI_r ?_
        | refine thenI_e ?_
        | refine inB_r ?_
        | refine inB_hit ?_
        | refine inB_miss rfl ?_
        | refine IWP_exit ?_
        | refine IWP_scope ?_
        | refine IWP_label ?_
        | refine noG_n ?_
        | refine noG_r ?_
        | refine noG_e ?_
        | refine jmp_n ?_
        | refine jmp_r ?_
        | refine jmp_e ?_
        | refine jmp_g ?_
        | refine thenI_g ?_
        | refine inB_g ?_
        | refine IWP_goto ?_
        | refine Loop_n ?_
        | fail)
      exact pX [] (M, 0) ⟨hM, .inl ⟨rfl, hex, rfl, hp⟩⟩ rfl
    · have hno : ∀ j, j < h.length → (gd h j).id ≠ x.id := fun j hj he => hex ⟨j, hj, he⟩
      refine sE Try.func27 Try.ntmps27 ?_
      repeat' (first
        | refine IOps_nil ?_
        | refine oS ?_
        | refine IOps_s rfl rfl ?_
        | refine oT ?_
        | refine IOps_s0 rfl ?_
        | refine oC (π := []) (hs := by first | exact drop_b h x.id h64 hc hno | fail) (hx := ?_)
        | refine oZ ?_
        | refine oI ?_
        | refine thenI_n ?_
        | refine IWP_seq ?_
        | refine IWP_region ?_
        | refine IWP_ct rfl ?_
        | refine IWP_cf rfl ?_
        | refine IWP_skip ?_
        | refine IWP_ret ?_
        | refine IWP_block ?_
        | refine inB_n ?_
        | refine thenI_r ?_
        | refine thenI_e ?_
        | refine inB_r ?_
        | refine inB_hit ?_
        | refine inB_miss rfl ?_
        | refine IWP_exit ?_
        | refine IWP_scope ?_
        | refine IWP_label ?_
        | refine noG_n ?_
        | refine noG_r ?_
        | refine noG_e ?_
        | refine jmp_n ?_
        | refine jmp_r ?_
        | refine jmp_e ?_
        | refine jmp_g ?_
        | refine thenI_g ?_
        | refine inB_g ?_
        | refine IWP_goto ?_
        | refine Loop_n ?_
        | fail)
      exact pX [] (h, 120) ⟨hc, .inr (.inl ⟨rfl, hno, rfl, rfl⟩)⟩ rfl
theorem gd0_least {h : List It} (hH : H4 h.length h) : ∀ i, i < h.length → lessI (gd h i) (gd h 0) = false := by
  intro i
  induction i using Nat.strongRecOn with
  | _ i ih =>
    intro hi
    rcases Nat.eq_zero_or_pos i with rfl | h0
    · exact lessI_irr _
    · have hp := par_lt h0
      exact lessI_trans (hH i h0 hi) (ih _ hp (by omega))
theorem srt_head {h : List It} {x : It} {t : List It} (hH : H4 h.length h) (e : srtI h = x :: t) : 0 < h.length ∧ gd h 0 = x := by
  have hp := srt_perm h
  rw [e] at hp
  have hl : 0 < h.length := by rw [← hp.length_eq]; simp
  refine ⟨hl, ?_⟩
  have hs := srt_srt h
  rw [e] at hs
  have hs := List.pairwise_cons.1 hs
  have hx : x ∈ h := hp.mem_iff.1 (by simp)
  obtain ⟨k, hk, rfl⟩ := List.getElem_of_mem hx
  have h1 := gd0_least hH k hk
  rw [gd_eq hk] at h1
  have h0 : gd h 0 ∈ h[k] :: t := hp.mem_iff.2 (gd_mem hl)
  rcases List.mem_cons.1 h0 with h0 | h0
  · exact h0
  · exact lessI_tot (hs.1 _ h0) h1
theorem minV_srt {h : List It} (hc : chk h = true) {x : It} {t : List It} (e : srtI h = x :: t) : minV h = (x, true) := by
  obtain ⟨h1, h2⟩ := srt_head ((chk_iff h).1 hc).2 e
  unfold minV; rw [if_pos ⟨h1, hc⟩, h2]
theorem findV_mem {L : List It} (hd : Idn L) {y : It} (hy : y ∈ L) : findV L y.id = (y, true) := by
  obtain ⟨k, hk, rfl⟩ := List.getElem_of_mem hy
  have := findV_hit (L := L) (id := L[k].id) hk (by rw [gd_eq hk]) (fun j hj he => (List.pairwise_iff_getElem.1 hd.2) j k (by omega) hk hj (by rw [← he, gd_eq (by omega)]))
  rw [this, gd_eq hk]
theorem findV_non {L : List It} {id : Int} (h : ∀ y, y ∈ L → y.id ≠ id) : findV L id = (default, false) := findV_miss fun j hj => h _ (gd_mem hj)
theorem findV_perm {L M : List It} (hd : Idn L) (hp : M.Perm L) (id : Int) : findV M id = findV L id := by
  by_cases h : ∃ y, y ∈ L ∧ y.id = id
  · obtain ⟨y, hy, rfl⟩ := h
    rw [findV_mem hd hy, findV_mem (hd.perm hp) (hp.mem_iff.2 hy)]
  · rw [findV_non fun y hy e => h ⟨y, hy, e⟩, findV_non fun y hy e => h ⟨y, hp.mem_iff.1 hy, e⟩]
theorem woI_perm {L M : List It} (h : M.Perm L) (id : Int) : (woI id M).Perm (woI id L) := h.filter _
theorem upI_perm {L M : List It} (h : M.Perm L) (x : It) : (upI x M).Perm (upI x L) := (woI_perm h _).cons x
theorem has_mem {L : List It} {id : Int} (h : ∃ y, y ∈ L ∧ y.id = id) : ∃ k, k < L.length ∧ (gd L k).id = id := by
  obtain ⟨y, hy, rfl⟩ := h
  obtain ⟨k, hk, rfl⟩ := List.getElem_of_mem hy
  exact ⟨k, hk, by rw [gd_eq hk]⟩
theorem Spec.nil0 {P : Program} {f : FuncId} {xs : List IV} {h : List HO} {K : IV → List HO → Prop} (s : Idl.Spec P f (.fz false [] 0 :: xs) h K) : Idl.Spec P f (.sc (.slice none 0 0) :: xs) h K :=
  ⟨s.call, s.fresh, fun F w vs a b c => s.runs F w vs a b (by cases c with | cons h t => exact .cons (by cases h; exact .fznil) t)⟩
theorem awake_spec : Idl.Spec Try.prog 14 [] [] (Only (.sc (.bool true)) []) := by
  have s1 := Spec.nil0 (set_c [] ⟨5, 7, 0⟩ (by simp) (by decide +kernel) (by decide))
  refine sB Try.func14 Try.ntmps14 ?_
  repeat' (first
    | refine IOps_nil ?_
    | refine oS ?_
    | refine IOps_s rfl rfl ?_
    | refine oT ?_
    | refine IOps_s0 rfl ?_
    | refine oZ ?_
    | refine oI ?_
    | refine thenI_n ?_
    | refine IWP_seq ?_
    | refine IWP_region ?_
    | refine IWP_ct rfl ?_
    | refine IWP_cf rfl ?_
    | refine IWP_skip ?_
    | refine IWP_ret ?_
    | refine IWP_block ?_
    | refine inB_n ?_
    | refine thenI_r ?_
    | refine thenI_e ?_
    | refine inB_r ?_
    | refine inB_hit ?_
    | refine inB_miss rfl ?_
    | refine IWP_exit ?_
    | refine IWP_scope ?_
    | refine IWP_label ?_
    | refine noG_n ?_
    | refine noG_r ?_
    | refine noG_e ?_
    | refine jmp_n ?_
    | refine jmp_r ?_
    | refine jmp_e ?_
    | refine jmp_g ?_
    | refine thenI_g ?_
    | refine inB_g ?_
    | refine IWP_goto ?_
    | refine Loop_n ?_
    | fail)
  refine oE [] (hs := s1) (hx := ?_)
  rintro M1 ⟨c1, p1⟩
  have p1 : M1.Perm [⟨5, 7, 0⟩] := p1
  have l1 := p1.length_eq
  repeat' (first
    | refine IOps_nil ?_
    | refine oS ?_
    | refine IOps_s rfl rfl ?_
    | refine oT ?_
    | refine IOps_s0 rfl ?_
    | refine oZ ?_
    | refine oI ?_
    | refine thenI_n ?_
    | refine IWP_seq ?_
    | refine IWP_region ?_
    | refine IWP_ct rfl ?_
    | refine IWP_cf rfl ?_
    | refine IWP_skip ?_
    | refine IWP_ret ?_
    | refine IWP_block ?_
    | refine inB_n ?_
    | refine thenI_r ?_
    | refine thenI_e ?_
    | refine inB_r ?_
    | refine inB_hit ?_
    | refine inB_miss rfl ?_
    | refine IWP_exit ?_
    | refine IWP_scope ?_
    | refine IWP_label ?_
    | refine noG_n ?_
    | refine noG_r ?_
    | refine noG_e ?_
    | refine jmp_n ?_
    | refine jmp_r ?_
    | refine jmp_e ?_
    | refine jmp_g ?_
    | refine thenI_g ?_
    | refine inB_g ?_
    | refine IWP_goto ?_
    | refine Loop_n ?_
    | fail)
  refine oE [] (hs := set_c M1 ⟨9, 8, 0⟩ (by rw [l1]; decide) c1 (by decide)) (hx := ?_)
  rintro M2 ⟨c2, p2⟩
  have p2 : M2.Perm [⟨9, 8, 0⟩, ⟨5, 7, 0⟩] := p2.trans (upI_perm p1 _)
  have l2 := p2.length_eq
  repeat' (first
    | refine IOps_nil ?_
    | refine oS ?_
    | refine IOps_s rfl rfl ?_
    | refine oT ?_
    | refine IOps_s0 rfl ?_
    | refine oZ ?_
    | refine oI ?_
    | refine thenI_n ?_
    | refine IWP_seq ?_
    | refine IWP_region ?_
    | refine IWP_ct rfl ?_
    | refine IWP_cf rfl ?_
    | refine IWP_skip ?_
    | refine IWP_ret ?_
    | refine IWP_block ?_
    | refine inB_n ?_
    | refine thenI_r ?_
    | refine thenI_e ?_
    | refine inB_r ?_
    | refine inB_hit ?_
    | refine inB_miss rfl ?_
    | refine IWP_exit ?_
    | refine IWP_scope ?_
    | refine IWP_label ?_
    | refine noG_n ?_
    | refine noG_r ?_
    | refine noG_e ?_
    | refine jmp_n ?_
    | refine jmp_r ?_
    | refine jmp_e ?_
    | refine jmp_g ?_
    | refine thenI_g ?_
    | refine inB_g ?_
    | refine IWP_goto ?_
    | refine Loop_n ?_
    | fail)
  refine oE [] (hs := set_c M2 ⟨3, 7, 0⟩ (by rw [l2]; decide) c2 (by decide)) (hx := ?_)
  rintro M3 ⟨c3, p3⟩
  have p3 : M3.Perm [⟨3, 7, 0⟩, ⟨9, 8, 0⟩, ⟨5, 7, 0⟩] := p3.trans (upI_perm p2 _)
  have l3 := p3.length_eq
  have e3 : srtI M3 = [⟨3, 7, 0⟩, ⟨5, 7, 0⟩, ⟨9, 8, 0⟩] := (srt_of_perm p3).trans (by decide +kernel)
  have sb := set_b M3 ⟨64, 0, 0⟩ (by rw [l3]; decide) c3 (by decide)
  have sm := min_spec M3 (by rw [l3]; decide)
  rw [minV_srt c3 e3] at sm
  have ss := sorted_spec M3 (by rw [l3]; decide)
  rw [show sortedV M3 = [⟨3, 7, 0⟩, ⟨5, 7, 0⟩, ⟨9, 8, 0⟩] from by unfold sortedV; rw [c3]; exact e3] at ss
  have sc := check_spec M3 (by rw [l3]; decide)
  rw [c3] at sc
  repeat' (first
    | refine IOps_nil ?_
    | refine oS ?_
    | refine IOps_s rfl rfl ?_
    | refine oT ?_
    | refine IOps_s0 rfl ?_
    | refine oC (π := []) (hs := by first | exact sb | fail) (hx := ?_)
    | refine oC (π := []) (hs := by first | exact sm | fail) (hx := ?_)
    | refine oZ ?_
    | refine oI ?_
    | refine thenI_n ?_
    | refine IWP_seq ?_
    | refine IWP_region ?_
    | refine IWP_ct rfl ?_
    | refine IWP_cf rfl ?_
    | refine IWP_skip ?_
    | refine IWP_ret ?_
    | refine IWP_block ?_
    | refine inB_n ?_
    | refine thenI_r ?_
    | refine thenI_e ?_
    | refine inB_r ?_
    | refine inB_hit ?_
    | refine inB_miss rfl ?_
    | refine IWP_exit ?_
    | refine IWP_scope ?_
    | refine IWP_label ?_
    | refine noG_n ?_
    | refine noG_r ?_
    | refine noG_e ?_
    | refine jmp_n ?_
    | refine jmp_r ?_
    | refine jmp_e ?_
    | refine jmp_g ?_
    | refine thenI_g ?_
    | refine inB_g ?_
    | refine IWP_goto ?_
    | refine Loop_n ?_
    | fail)
  refine oE [] (hs := drop_c M3 3 (by rw [l3]; decide) c3 (has_mem ⟨⟨3, 7, 0⟩, p3.mem_iff.2 (by simp), rfl⟩)) (hx := ?_)
  rintro K ⟨c4, p4⟩
  have p4 : K.Perm [⟨9, 8, 0⟩, ⟨5, 7, 0⟩] := p4.trans (woI_perm p3 _)
  have l4 := p4.length_eq
  have e4 : srtI K = [⟨5, 7, 0⟩, ⟨9, 8, 0⟩] := (srt_of_perm p4).trans (by decide +kernel)
  have sn := min_spec K (by rw [l4]; decide)
  rw [minV_srt c4 e4] at sn
  have hno : ∀ j, j < K.length → (gd K j).id ≠ 3 := fun j hj => by
    have := p4.mem_iff.1 (gd_mem hj)
    simp only [List.mem_cons, List.not_mem_nil, or_false] at this
    rcases this with h | h <;> rw [h] <;> decide
  have sd := drop_b K 3 (by rw [l4]; decide) c4 hno
  have hdK := ((chk_iff K).1 c4).1
  have s9 := find_spec K 9 (by rw [l4]; decide)
  rw [c4, if_pos rfl, findV_mem hdK (y := ⟨9, 8, 0⟩) (p4.mem_iff.2 (by simp))] at s9
  have s3 := find_spec K 3 (by rw [l4]; decide)
  rw [c4, if_pos rfl, findV_miss hno] at s3
  have s0 := Spec.nil0 (min_spec [] (by simp))
  rw [show minV [] = (default, false) from by decide +kernel] at s0
  have sx := check_spec [⟨1, 2, 0⟩, ⟨2, 1, 0⟩] (by simp)
  rw [show chk [⟨1, 2, 0⟩, ⟨2, 1, 0⟩] = false from by decide +kernel] at sx
  have sl := less_spec ⟨9, 1, 2⟩ ⟨1, 1, 3⟩
  rw [show lessI ⟨9, 1, 2⟩ ⟨1, 1, 3⟩ = true from by decide] at sl
  have sq := same_spec [⟨3, 7, 0⟩, ⟨5, 7, 0⟩, ⟨9, 8, 0⟩] [⟨3, 7, 0⟩, ⟨5, 7, 0⟩, ⟨9, 8, 0⟩] (by simp)
  rw [show sameV [⟨3, 7, 0⟩, ⟨5, 7, 0⟩, ⟨9, 8, 0⟩] [⟨3, 7, 0⟩, ⟨5, 7, 0⟩, ⟨9, 8, 0⟩] = true from by decide] at sq
  repeat' (first
    | refine IOps_nil ?_
    | refine oS ?_
    | refine IOps_s rfl rfl ?_
    | refine oT ?_
    | refine IOps_s0 rfl ?_
    | refine oC (π := []) (hs := by first | exact sb | fail) (hx := ?_)
    | refine oC (π := []) (hs := by first | exact sm | fail) (hx := ?_)
    | refine oC (π := []) (hs := by first | exact sn | fail) (hx := ?_)
    | refine oC (π := []) (hs := by first | exact sd | fail) (hx := ?_)
    | refine oC (π := []) (hs := by first | exact s9 | fail) (hx := ?_)
    | refine oC (π := []) (hs := by first | exact s3 | fail) (hx := ?_)
    | refine oC (π := []) (hs := by first | exact s0 | fail) (hx := ?_)
    | refine oC (π := []) (hs := by first | exact ss | fail) (hx := ?_)
    | refine oC (π := []) (hs := by first | exact sq | fail) (hx := ?_)
    | refine oC (π := []) (hs := by first | exact sc | fail) (hx := ?_)
    | refine oC (π := []) (hs := by first | exact sx | fail) (hx := ?_)
    | refine oC (π := []) (hs := by first | exact sl | fail) (hx := ?_)
    | refine oZ ?_
    | refine oI ?_
    | refine thenI_n ?_
    | refine IWP_seq ?_
    | refine IWP_region ?_
    | refine IWP_ct rfl ?_
    | refine IWP_cf rfl ?_
    | refine IWP_skip ?_
    | refine IWP_ret ?_
    | refine IWP_block ?_
    | refine inB_n ?_
    | refine thenI_r ?_
    | refine thenI_e ?_
    | refine inB_r ?_
    | refine inB_hit ?_
    | refine inB_miss rfl ?_
    | refine IWP_exit ?_
    | refine IWP_scope ?_
    | refine IWP_label ?_
    | refine noG_n ?_
    | refine noG_r ?_
    | refine noG_e ?_
    | refine jmp_n ?_
    | refine jmp_r ?_
    | refine jmp_e ?_
    | refine jmp_g ?_
    | refine thenI_g ?_
    | refine inB_g ?_
    | refine IWP_goto ?_
    | refine Loop_n ?_
    | fail)
  exact pD [] ⟨rfl, rfl⟩
end Go.Proofs.Ytnlelckfhlcbgaa
