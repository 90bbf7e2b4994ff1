/-
  A heap: in order.
-/
import Derived.Test.YtnlelckfhlcbgaaHeaG
namespace Go.Proofs.Ytnlelckfhlcbgaa
open Go Go.Idl
set_option linter.unusedSimpArgs false
set_option linter.unusedVariables false
set_option maxRecDepth 100000
set_option maxHeartbeats 1000000
attribute [local irreducible] Go.Idl.IWP Go.Idl.IOps Go.Idl.Obl Go.Idl.OpG Go.Idl.thenI Go.Idl.inBlockI Go.Idl.LoopU Go.Idl.noGotoI Go.Idl.jumpI
attribute [local go_sem] List.length_set
def insI (x : It) (l : List It) : List It := l.takeWhile (fun y => lessI y x) ++ x :: l.dropWhile (fun y => lessI y x)
def withI (l : List It) (x : It) : List It := insI x (woI x.id l)
theorem while_at {p : It → Bool} : ∀ {l : List It} {k : Nat}, k ≤ l.length → (∀ j, j < k → p (gd l j) = true) → (k < l.length → p (gd l k) = false) → l.takeWhile p = l.take k ∧ l.dropWhile p = l.drop k
  | [], k, h, _, _ => by simp at h; subst h; simp
  | a :: l, 0, _, _, h2 => by
    have := h2 (by simp)
    have e : p a = false := this
    simp [List.takeWhile_cons, List.dropWhile_cons, e]
  | a :: l, k + 1, h, h1, h2 => by
    have e : p a = true := h1 0 (by omega)
    have := while_at (p := p) (l := l) (k := k) (by simpa using h) (fun j hj => h1 (j + 1) (by omega)) (fun hk => h2 (by simpa using hk))
    simp [List.takeWhile_cons, List.dropWhile_cons, e, this]
/-- In order: none stands ahead of one before it. -/
def Srt (l : List It) : Prop := l.Pairwise fun x y => lessI y x = false
def srtI (l : List It) : List It := l.foldr insI []
theorem ins_perm (x : It) (l : List It) : (insI x l).Perm (x :: l) := by
  unfold insI
  refine List.perm_middle.trans ?_
  rw [List.takeWhile_append_dropWhile]
theorem mem_takeWhile {p : It → Bool} : ∀ {l : List It} {y : It}, y ∈ l.takeWhile p → p y = true
  | a :: l, y, h => by
    rw [List.takeWhile_cons] at h
    split at h
    · rcases List.mem_cons.1 h with rfl | h
      · assumption
      · exact mem_takeWhile h
    · cases h
theorem Srt.ins {x : It} {l : List It} (h : Srt l) : Srt (insI x l) := by
  unfold insI Srt
  have hs := h
  unfold Srt at hs
  rw [← List.takeWhile_append_dropWhile (p := fun y => lessI y x) (l := l), List.pairwise_append] at hs
  refine List.pairwise_append.2 ⟨hs.1, List.pairwise_cons.2 ⟨fun y hy => ?_, hs.2.1⟩, fun a ha b hb => ?_⟩
  · cases hd : l.dropWhile (fun y => lessI y x) with
    | nil => rw [hd] at hy; cases hy
    | cons z m =>
      have hz : lessI z x = false := by
        have := List.head?_dropWhile_not (fun y => lessI y x) l
        rw [hd] at this
        simpa using this
      rw [hd] at hy hs
      rcases List.mem_cons.1 hy with rfl | hy
      · exact hz
      · exact lessI_trans ((List.pairwise_cons.1 hs.2.1).1 y hy) hz
  · rcases List.mem_cons.1 hb with rfl | hb
    · exact lessI_asym (mem_takeWhile (p := fun y => lessI y b) ha)
    · exact hs.2.2 a ha b hb
theorem srt_srt : ∀ l : List It, Srt (srtI l)
  | [] => .nil
  | a :: l => (srt_srt l).ins
theorem srt_perm : ∀ l : List It, (srtI l).Perm l
  | [] => .refl _
  | a :: l => (ins_perm a _).trans ((srt_perm l).cons a)
theorem Srt.eq {l m : List It} (hl : Srt l) (hm : Srt m) (h : l.Perm m) : l = m :=
  SS.unique (lt := lessI) (fun x y h1 h2 => lessI_tot h1 h2) h hl hm
theorem srt_of_perm {l m : List It} (h : l.Perm m) : srtI l = srtI m := (srt_srt l).eq (srt_srt m) ((srt_perm l).trans (h.trans (srt_perm m).symm))
theorem Srt.srt {l : List It} (h : Srt l) : srtI l = l := (srt_srt l).eq h (srt_perm l)
def sortedV (h : List It) : List It := if chk h then srtI h else []
theorem sorted_spec (h : List It) (hL : h.length ≤ 1000000) : Idl.Spec Try.prog 24 [.fz false (items h) h.length] []
    (Only (.fz true (items (sortedV h)) (sortedV h).length) []) := by
  have hcs := check_spec h (by omega)
  cases hc : chk h
  · rw [hc] at hcs
    rw [show sortedV h = [] from by unfold sortedV; rw [hc]; rfl]
    refine sB Try.func24 Try.ntmps24 ?_
    repeat' (first
      | refine IOps_nil ?_
      | refine oS ?_
      | refine IOps_s rfl rfl ?_
      | refine oT ?_
      | refine IOps_s0 rfl ?_
      | refine oC (π := []) (hs := by first | exact hcs | fail) (hx := ?_)
      | refine oZ ?_
      | refine oI ?_
      | refine thenI_n ?_
      | refine IWP_seq ?_
      | refine IWP_region ?_
      | refine IWP_ct rfl ?_
      | refine IWP_cf rfl ?_
      | refine IWP_skip ?_
      | refine IWP_block ?_
      | refine inB_n ?_
      | refine thenI_r ?_
      | refine thenI_e ?_
      | refine inB_r ?_
      | refine inB_hit ?_
      | refine inB_miss rfl ?_
      | refine IWP_exit ?_
      | refine IWP_scope ?_
      | refine IWP_label ?_
      | refine noG_n ?_
      | refine noG_r ?_
      | refine noG_e ?_
      | refine jmp_n ?_
      | refine jmp_r ?_
      | refine jmp_e ?_
      | refine jmp_g ?_
      | refine thenI_g ?_
      | refine inB_g ?_
      | refine IWP_goto ?_
      | refine Loop_n ?_
      | fail)
    refine wV 2 3 ?_
    refine wF 2 ?_
    repeat' (first
      | refine IOps_nil ?_
      | refine oS ?_
      | refine IOps_s rfl rfl ?_
      | refine oT ?_
      | refine IOps_s0 rfl ?_
      | refine oZ ?_
      | refine oI ?_
      | refine thenI_n ?_
      | refine IWP_seq ?_
      | refine IWP_region ?_
      | refine IWP_ct rfl ?_
      | refine IWP_cf rfl ?_
      | refine IWP_skip ?_
      | refine IWP_ret ?_
      | refine IWP_block ?_
      | refine inB_n ?_
      | refine thenI_r ?_
      | refine thenI_e ?_
      | refine inB_r ?_
      | refine inB_hit ?_
      | refine inB_miss rfl ?_
      | refine IWP_exit ?_
      | refine IWP_scope ?_
      | refine IWP_label ?_
      | refine noG_n ?_
      | refine noG_r ?_
      | refine noG_e ?_
      | refine jmp_n ?_
      | refine jmp_r ?_
      | refine jmp_e ?_
      | refine jmp_g ?_
      | refine thenI_g ?_
      | refine inB_g ?_
      | refine IWP_goto ?_
      | refine Loop_n ?_
      | fail)
    exact pD [] ⟨rfl, rfl⟩
  · rw [hc] at hcs
    have h64 : h.length ≤ 64 := ((chk_iff h).1 hc).1.len
    rw [show sortedV h = srtI h from by unfold sortedV; rw [hc]; rfl]
    have hsp := sort_spec (c := cmpI) (kc := 46) cmp_spec h h.length cmpI_ord (by omega)
    refine sB Try.func24 Try.ntmps24 ?_
    repeat' (first
      | refine IOps_nil ?_
      | refine oS ?_
      | refine IOps_s rfl rfl ?_
      | refine oT ?_
      | refine IOps_s0 rfl ?_
      | refine oC (π := []) (hs := by first | exact copied_spec _ (by omega) | fail) (hx := ?_)
      | refine oC (π := []) (hs := by first | exact hcs | fail) (hx := ?_)
      | refine oZ ?_
      | refine oI ?_
      | refine thenI_n ?_
      | refine IWP_seq ?_
      | refine IWP_region ?_
      | refine IWP_ct rfl ?_
      | refine IWP_cf rfl ?_
      | refine IWP_skip ?_
      | refine IWP_ret ?_
      | refine IWP_block ?_
      | refine inB_n ?_
      | refine thenI_r ?_
      | refine thenI_e ?_
      | refine inB_r ?_
      | refine inB_hit ?_
      | refine inB_miss rfl ?_
      | refine IWP_exit ?_
      | refine IWP_scope ?_
      | refine IWP_label ?_
      | refine noG_n ?_
      | refine noG_r ?_
      | refine noG_e ?_
      | refine jmp_n ?_
      | refine jmp_r ?_
      | refine jmp_e ?_
      | refine jmp_g ?_
      | refine thenI_g ?_
      | refine inB_g ?_
      | refine IWP_goto ?_
      | refine Loop_n ?_
      | fail)
    refine oE [0] (hs := hsp) (hx := ?_)
    rintro M ⟨hM1, hM2, hM3⟩
    have e : M = srtI h := Srt.eq (hM3.imp fun {a b} h => by have := cmpI_lt b a; rw [decide_eq_false h] at this; exact this.symm) (srt_srt h) (hM2.trans (srt_perm h).symm)
    subst e
    have hl : (srtI h).length = h.length := (srt_perm h).length_eq
    repeat' (first
      | refine IOps_nil ?_
      | refine oS ?_
      | refine IOps_s rfl rfl ?_
      | refine oT ?_
      | refine IOps_s0 rfl ?_
      | refine oZ ?_
      | refine oI ?_
      | refine thenI_n ?_
      | refine IWP_seq ?_
      | refine IWP_region ?_
      | refine IWP_ct rfl ?_
      | refine IWP_cf rfl ?_
      | refine IWP_skip ?_
      | refine IWP_block ?_
      | refine inB_n ?_
      | refine thenI_r ?_
      | refine thenI_e ?_
      | refine inB_r ?_
      | refine inB_hit ?_
      | refine inB_miss rfl ?_
      | refine IWP_exit ?_
      | refine IWP_scope ?_
      | refine IWP_label ?_
      | refine noG_n ?_
      | refine noG_r ?_
      | refine noG_e ?_
      | refine jmp_n ?_
      | refine jmp_r ?_
      | refine jmp_e ?_
      | refine jmp_g ?_
      | refine thenI_g ?_
      | refine inB_g ?_
      | refine IWP_goto ?_
      | refine Loop_n ?_
      | fail)
    refine wF 2 ?_
    repeat' (first
      | refine IOps_nil ?_
      | refine oS ?_
      | refine IOps_s rfl rfl ?_
      | refine oT ?_
      | refine IOps_s0 rfl ?_
      | refine oZ ?_
      | refine oI ?_
      | refine thenI_n ?_
      | refine IWP_seq ?_
      | refine IWP_region ?_
      | refine IWP_ct rfl ?_
      | refine IWP_cf rfl ?_
      | refine IWP_skip ?_
      | refine IWP_ret ?_
      | refine IWP_block ?_
      | refine inB_n ?_
      | refine thenI_r ?_
      | refine thenI_e ?_
      | refine inB_r ?_
      | refine inB_hit ?_
      | refine inB_miss rfl ?_
      | refine IWP_exit ?_
      | refine IWP_scope ?_
      | refine IWP_label ?_
      | refine noG_n ?_
      | refine noG_r ?_
      | refine noG_e ?_
      | refine jmp_n ?_
      | refine jmp_r ?_
      | refine jmp_e ?_
      | refine jmp_g ?_
      | refine thenI_g ?_
      | refine inB_g ?_
      | refine IWP_goto ?_
      | refine Loop_n ?_
      | fail)
    refine pE [] ?_
    rw [hl]
end Go.Proofs.Ytnlelckfhlcbgaa
