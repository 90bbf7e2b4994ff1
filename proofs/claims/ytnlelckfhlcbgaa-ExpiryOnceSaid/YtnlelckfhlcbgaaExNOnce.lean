/-
  A clock: what is set changes nobody else; in whatever order two are set.
-/
import Derived.Test.YtnlelckfhlcbgaaExM
namespace Go.Proofs.Ytnlelckfhlcbgaa
open Go Go.Idl
set_option linter.unusedSimpArgs false
set_option linter.unusedVariables false
set_option maxRecDepth 100000
set_option maxHeartbeats 4000000
theorem chk_of {now : Int} {l : List Du} (h : OkC now l) : chkC now l = true := decide_eq_true h
theorem whenC_of {now : Int} {l : List Du} (h : OkC now l) (id : Int) : whenC now l id = whenV l id := by unfold whenC; rw [chk_of h]; rfl
theorem set_or (now : Int) (l : List Du) (id after : Int) :
    (setV now l id after = (l, 110) ∨ setV now l id after = (l, 120) ∨ setV now l id after = (l, 170)) ∨
    (setV now l id after = (insD ⟨id, now + after⟩ l, 0) ∧ OkC now l ∧ (0 ≤ id ∧ id < 64) ∧ ¬ after < 1 ∧ ¬ MaxT - now < after) := by
  unfold setV
  cases hc : chkC now l
  · exact .inl (.inr (.inl (if_pos rfl)))
  · rw [if_neg (by decide)]
    by_cases hn : 0 ≤ id ∧ id < 64
    · rw [if_neg (fun h => h hn)]
      by_cases ha : after < 1 ∨ MaxT - now < after
      · exact .inl (.inr (.inr (if_pos ha)))
      · exact .inr ⟨if_neg ha, of_decide_eq_true hc, hn, fun h => ha (.inl h), fun h => ha (.inr h)⟩
    · exact .inl (.inl (if_pos hn))
theorem same_self (n : Int) (l : List Du) : sameC n n l l = true := decide_eq_true ⟨rfl, rfl⟩
theorem set_len (now : Int) (l : List Du) (id after : Int) : (setV now l id after).1.length ≤ l.length + 1 := by
  rcases set_or now l id after with (h | h | h) | ⟨h, -⟩
  · rw [h]; simp
  · rw [h]; simp
  · rw [h]; simp
  · rw [h, (ins_permD _ l).length_eq, List.length_append]
    have := List.length_filter_le (fun d : Du => !decide (d.id = id)) l
    simp only [List.length_cons, List.length_nil]
    unfold woD; omega
def errV (now id after : Int) : Int := if ¬ (0 ≤ id ∧ id < 64) then 110 else if after < 1 ∨ MaxT - now < after then 170 else 0
def putV (now : Int) (l : List Du) (id after : Int) : List Du := if errV now id after = 0 then insD ⟨id, now + after⟩ l else l
theorem set_put {now : Int} {l : List Du} (h : OkC now l) (id after : Int) : setV now l id after = (putV now l id after, errV now id after) := by
  unfold setV putV errV
  rw [chk_of h, if_neg (by decide)]
  split
  · rfl
  · split <;> rfl
theorem err_ok {now id after : Int} (h : errV now id after = 0) : (0 ≤ id ∧ id < 64) ∧ ¬ after < 1 ∧ ¬ MaxT - now < after := by
  unfold errV at h
  split at h
  · cases h
  · next h1 =>
    split at h
    · cases h
    · next h2 => exact ⟨Decidable.not_not.1 h1, fun k => h2 (.inl k), fun k => h2 (.inr k)⟩
theorem OkC.put {now : Int} {l : List Du} (h : OkC now l) (id after : Int) : OkC now (putV now l id after) := by
  unfold putV
  split
  · next e => obtain ⟨a, b, c⟩ := err_ok e; exact h.ins a b c
  · exact h
theorem put_put {now : Int} {l : List Du} (h : OkC now l) {a n b m : Int} (hab : a ≠ b) : putV now (putV now l a n) b m = putV now (putV now l b m) a n := by
  unfold putV
  split
  · split
    · exact ins_ins h.asc _ _ (Ne.symm hab)
    · rfl
  · rfl
attribute [local irreducible] Go.Idl.IWP Go.Idl.IOps Go.Idl.Obl Go.Idl.OpG Go.Idl.thenI Go.Idl.inBlockI Go.Idl.LoopU Go.Idl.noGotoI Go.Idl.jumpI
attribute [local go_sem] List.length_set splice2 splice3 splice_dues
end Go.Proofs.Ytnlelckfhlcbgaa

namespace Go.Proofs.Ytnlelckfhlcbgaa
open Go Go.Idl
set_option linter.unusedSimpArgs false
set_option linter.unusedVariables false
set_option maxRecDepth 100000
set_option maxHeartbeats 4000000
theorem tick_no {now : Int} {l : List Du} (h : chkC now l = false) (b : Int) : tickV now l b = ((now, l), [], 120) := by unfold tickV; rw [h]; rfl
theorem tick_bad {now : Int} {l : List Du} (h : OkC now l) {b : Int} (k : b < 0 ∨ MaxT - now < b) : tickV now l b = ((now, l), [], 170) := by unfold tickV; rw [chk_of h, if_neg (by decide), if_pos k]
theorem tick_ok {now : Int} {l : List Du} (h : OkC now l) {b : Int} (k : ¬ (b < 0 ∨ MaxT - now < b)) : tickV now l b = ((now + b, goD (now + b) l), outsV (now + b) l, 0) := by unfold tickV; rw [chk_of h, if_neg (by decide), if_neg k]
theorem goD_len (t : Int) (l : List Du) : (goD t l).length ≤ l.length := List.length_filter_le _ _
theorem outs_len2 (t : Int) (l : List Du) : (outsV t l).length ≤ l.length := by
  unfold outsV outsI
  rw [List.length_map]
  refine Nat.le_trans (List.length_filter_le _ _) ?_
  rw [(srt_perm _).length_eq, List.length_map]
  exact Nat.le_refl _
attribute [local irreducible] Go.Idl.IWP Go.Idl.IOps Go.Idl.Obl Go.Idl.OpG Go.Idl.thenI Go.Idl.inBlockI Go.Idl.LoopU Go.Idl.noGotoI Go.Idl.jumpI
attribute [local go_sem] List.length_set splice2 splice3 splice_dues
end Go.Proofs.Ytnlelckfhlcbgaa

namespace Go.Proofs.Ytnlelckfhlcbgaa
open Go Go.Idl
set_option linter.unusedSimpArgs false
set_option linter.unusedVariables false
set_option maxRecDepth 100000
set_option maxHeartbeats 8000000
theorem cnt_le (id : Int) (l : List Int) (k : Nat) : cntV id (l.take k) ≤ k := Nat.le_trans (List.length_filter_le _ _) (by rw [List.length_take]; omega)
theorem cnt_nil (id : Int) : cntV id [] = 0 := rfl
theorem when_pos {now : Int} {l : List Du} (h : OkC now l) {id : Int} (k : (whenV l id).2 = true) : now < (whenV l id).1 := by
  rcases when_or h.asc id with ⟨d, h1, rfl, h3⟩ | ⟨h1, h3⟩
  · rw [h3]; exact (h.mem h1).2.1
  · rw [h3] at k; cases k
structure Once (now : Int) (D : List Du) (s : Stp) (id a : Int) (now' : Int) (D' : List Du) (outs : List Int) (e : Int) (a' : Int) : Prop where
  ok : OkC now' D'
  cnt : cntV id outs = if 0 < a ∧ a ≤ now' then 1 else 0
  len : outs.length ≤ 64
  when' : whenV D' id = (a', decide (0 < a'))
  not0 : (0 < a ∧ a ≤ now') → s.kind ≠ 0
  at0 : e = 0 → s.kind = 0 → s.id = id → a' = now + s.n ∧ 0 < now + s.n ∧ now + s.n ≤ 1099511627776
  atd : (0 < a ∧ a ≤ now') → a' = 0
  at1 : e = 0 → s.kind = 1 → s.id = id → a' = 0
  atn : ¬ (0 < a ∧ a ≤ now') → ¬ (e = 0 ∧ s.kind = 0 ∧ s.id = id) → ¬ (e = 0 ∧ s.kind = 1 ∧ s.id = id) → a' = a
  ty0 : 0 ≤ a' ∧ a' ≤ 1099511627776
theorem once_same {now : Int} {D : List Du} {s : Stp} {id a e : Int} (ho : OkC now D) (hw : whenV D id = (a, decide (0 < a))) (he : e ≠ 0) (ha : 0 ≤ a ∧ a ≤ 1099511627776) : Once now D s id a now D [] e a := by
  have hp : ¬ (0 < a ∧ a ≤ now) := fun h => by
    have := when_pos ho (id := id) (by rw [hw]; exact decide_eq_true h.1)
    rw [hw] at this; simp only at this; omega
  exact ⟨ho, by rw [if_neg hp]; rfl, by simp, hw, fun h => absurd h hp, fun h => absurd h he, fun h => absurd h hp, fun h => absurd h he, fun _ _ _ => rfl, ha⟩
theorem once_step {now : Int} {D : List Du} (s : Stp) {id a : Int} (ho : OkC now D) (hw : whenV D id = (a, decide (0 < a))) (hty : 0 ≤ a ∧ a ≤ 1099511627776) :
    ∃ a', Once now D s id a (doV now D s).1.1 (doV now D s).1.2 (doV now D s).2.1 (doV now D s).2.2 a' := by
  have h00 := ho.1.1
  have h01 : now ≤ 1099511627776 := ho.1.2
  have hp : ¬ (0 < a ∧ a ≤ now) := fun h => by
    have := when_pos ho (id := id) (by rw [hw]; exact decide_eq_true h.1)
    rw [hw] at this; simp only at this; omega
  unfold doV
  by_cases k0 : s.kind = 0
  · rw [if_pos k0]
    rcases set_or now D s.id s.n with (h | h | h) | ⟨h, -, h1, h2, h3⟩
    · rw [h]; exact ⟨a, once_same ho hw (show (110 : Int) ≠ 0 by decide) hty⟩
    · rw [h]; exact ⟨a, once_same ho hw (show (120 : Int) ≠ 0 by decide) hty⟩
    · rw [h]; exact ⟨a, once_same ho hw (show (170 : Int) ≠ 0 by decide) hty⟩
    · rw [h]
      replace h3 : ¬ 1099511627776 - now < s.n := h3
      by_cases hi : s.id = id
      · refine ⟨now + s.n, ho.ins h1 h2 h3, by rw [if_neg hp]; rfl, by simp, ?_, fun h => absurd h hp, fun _ _ _ => ⟨rfl, by omega, by omega⟩, fun h => absurd h hp, fun _ k => absurd (k0.symm.trans k) (by decide), fun _ k => absurd ⟨rfl, k0, hi⟩ k, by omega, by omega⟩
        rw [← hi]
        show whenV (insD ⟨s.id, now + s.n⟩ D) s.id = _
        rw [show decide (0 < now + s.n) = true from decide_eq_true (by omega)]
        exact when_ins_self ho.asc ⟨s.id, now + s.n⟩
      · refine ⟨a, ho.ins h1 h2 h3, by rw [if_neg hp]; rfl, by simp, ?_, fun h => absurd h hp, fun _ _ k => absurd k hi, fun h => absurd h hp, fun _ k => absurd (k0.symm.trans k) (by decide), fun _ _ _ => rfl, hty⟩
        rw [← hw]
        exact when_ins_ne ho.asc ⟨s.id, now + s.n⟩ (Ne.symm hi)
  · rw [if_neg k0]
    by_cases k1 : s.kind = 1
    · rw [if_pos k1]
      unfold dropV
      cases hd : (whenC now D s.id).2
      · rw [if_neg (by decide)]; exact ⟨a, once_same ho hw (show (120 : Int) ≠ 0 by decide) hty⟩
      · rw [if_pos rfl]
        by_cases hi : s.id = id
        · refine ⟨0, ho.wo _, by rw [if_neg hp]; rfl, by simp, ?_, fun h => absurd h hp, fun _ k => absurd k k0, fun h => absurd h hp, fun _ _ _ => rfl, fun _ _ k => absurd ⟨rfl, k1, hi⟩ k, by omega, by omega⟩
          rw [← hi]
          exact when_wo_self s.id
        · refine ⟨a, ho.wo _, by rw [if_neg hp]; rfl, by simp, ?_, fun h => absurd h hp, fun _ k => absurd k k0, fun h => absurd h hp, fun _ _ k => absurd k hi, fun _ _ _ => rfl, hty⟩
          rw [← hw]
          exact when_wo_ne ho.asc (Ne.symm hi)
    · rw [if_neg k1]
      by_cases hb : s.n < 0 ∨ MaxT - now < s.n
      · rw [tick_bad ho hb]; exact ⟨a, once_same ho hw (show (170 : Int) ≠ 0 by decide) hty⟩
      · rw [tick_ok ho hb]
        have hc := outs_cnt (t := now + s.n) ho id
        have hg := when_go ho.asc (now + s.n) id
        rw [hw] at hc hg
        simp only [decide_eq_true_eq] at hc hg
        by_cases hd : 0 < a ∧ a ≤ now + s.n
        · rw [if_pos hd] at hg
          exact ⟨0, ho.go (fun h => hb (.inl h)) (fun h => hb (.inr h)), hc, Nat.le_trans (outs_len2 _ _) ho.len, hg, fun _ => k0, fun _ k => absurd k k0, fun _ => rfl, fun _ _ _ => rfl, fun k => absurd hd k, by omega, by omega⟩
        · rw [if_neg hd] at hg
          exact ⟨a, ho.go (fun h => hb (.inl h)) (fun h => hb (.inr h)), hc, Nat.le_trans (outs_len2 _ _) ho.len, hg, fun _ => k0, fun _ k => absurd k k0, fun k => absurd k hd, fun _ k => absurd k k1, fun _ _ _ => rfl, hty⟩
attribute [local irreducible] Go.Idl.IWP Go.Idl.IOps Go.Idl.Obl Go.Idl.OpG Go.Idl.thenI Go.Idl.inBlockI Go.Idl.LoopU Go.Idl.noGotoI Go.Idl.jumpI
attribute [local go_sem] List.length_set splice2 splice3 splice_dues
theorem once_law (l : List Stp) (id : Int) (hL : l.length ≤ 9223372036854775807) : Idl.Spec Try.prog 9 [.fz false (steps l) l.length, .i64 id] [] (Only (.sc (.bool true)) []) := by
  by_cases h100 : l.length ≤ 100
  · refine sB Try.func9 Try.ntmps9 ?_
    repeat' (first|refine IOps_nil ?_|refine oS ?_|refine IOps_s rfl rfl ?_|refine oT ?_|refine IOps_s0 rfl ?_|refine oC (π:=[]) (hs:=by first|exact clock_awake|fail) (hx:=?_)|refine oZ ?_|refine oI ?_|refine thenI_n ?_|refine IWP_seq ?_|refine IWP_region ?_|refine IWP_ct rfl ?_|refine IWP_cf rfl ?_|refine IWP_skip ?_|refine IWP_ret ?_|refine IWP_block ?_|refine inB_n ?_|refine thenI_r ?_|refine thenI_e ?_|refine inB_r ?_|refine inB_hit ?_|refine inB_miss rfl ?_|refine IWP_exit ?_|refine IWP_scope ?_|refine IWP_label ?_|refine noG_n ?_|refine noG_r ?_|refine noG_e ?_|refine jmp_n ?_|refine jmp_r ?_|refine jmp_e ?_|refine jmp_g ?_|refine thenI_g ?_|refine inB_g ?_|refine IWP_goto ?_|refine Loop_n ?_|refine oD (id:=9) W9_9 [10, 11] O9_9 [_,_,_,_,_,_,_,_,_,_,_,_,_,_] [_,_,_] rfl (by repeat' (first|exact trivial|refine And.intro ?_ ?_|exact bS|exact bX|exact bZ|exact bI|exact bC (π:=[]) (hs:=by first|exact clock_awake|fail)|fail)) ?_|refine oD (id:=22) W9_22 [] O9_22 [_,_,_,_,_,_,_,_,_] [_] rfl (by repeat' (first|exact trivial|refine And.intro ?_ ?_|exact bS|exact bX|exact bZ|exact bI|exact bC (π:=[]) (hs:=by first|exact clock_awake|fail)|fail)) ?_|fail)
    refine wNB 0 [.i64 0] [] ?_
    refine IWP_loop (fun x : (Int × List Du) × Int × Nat => ⟨139, [(0, .fz false (steps l) l.length), (1, .i64 id), (4, .sc (.bool false)), (5, .sc (.bool true)), (6, .ptr 0 0), (7, .i64 x.2.1), (8, .i64 x.2.2)], [.box [.i64 x.1.1, .fz true (dues x.1.2) x.1.2.length]]⟩)
      (fun x => x.2.2 ≤ l.length ∧ OkC x.1.1 x.1.2 ∧ whenV x.1.2 id = (x.2.1, decide (0 < x.2.1)) ∧ 0 ≤ x.2.1 ∧ x.2.1 ≤ 1099511627776) (fun x => l.length - x.2.2) ((0, []), 0, 0) (lP [0]) ⟨Nat.zero_le _, by decide, rfl, by decide, by decide⟩ ?_
    rintro ⟨⟨now, D⟩, a, i⟩ ⟨hi, ho, hw, ha0, ha1⟩
    simp only at hi ho hw ha0 ha1 ⊢
    by_cases h : i < l.length
    · have hlD := ho.len
      have hdo := ddo_spec now D (l.getD i default) (by omega)
      obtain ⟨a', hO⟩ := once_step (l.getD i default) ho hw ⟨ha0, ha1⟩
      generalize doV now D (l.getD i default) = r at hdo hO
      obtain ⟨⟨now', D'⟩, outs, e⟩ := r
      simp only at hO
      have hck := dcheck_spec now' D' (by have := hO.ok.len; omega)
      rw [chk_of hO.ok] at hck
      have hlD' := hO.ok.len
      have hol := hO.len
      have hn0 := hO.ok.1.1
      have hn1 : now' ≤ 1099511627776 := hO.ok.1.2
      repeat' (first|refine IOps_nil ?_|refine oS ?_|refine IOps_s rfl rfl ?_|refine oT ?_|refine IOps_s0 rfl ?_|refine oC (π:=[]) (hs:=by first|exact hdo|fail) (hx:=?_)|refine oZ ?_|refine oI ?_|refine thenI_n ?_|refine IWP_seq ?_|refine IWP_region ?_|refine IWP_ct rfl ?_|refine IWP_cf rfl ?_|refine IWP_skip ?_|refine IWP_ret ?_|refine IWP_block ?_|refine inB_n ?_|refine thenI_r ?_|refine thenI_e ?_|refine inB_r ?_|refine inB_hit ?_|refine inB_miss rfl ?_|refine IWP_exit ?_|refine IWP_scope ?_|refine IWP_label ?_|refine noG_n ?_|refine noG_r ?_|refine noG_e ?_|refine jmp_n ?_|refine jmp_r ?_|refine jmp_e ?_|refine jmp_g ?_|refine thenI_g ?_|refine inB_g ?_|refine IWP_goto ?_|refine Loop_n ?_|refine oD (id:=9) W9_9 [10, 11] O9_9 [_,_,_,_,_,_,_,_,_,_,_,_,_,_] [_,_,_] rfl (by repeat' (first|exact trivial|refine And.intro ?_ ?_|exact bS|exact bX|exact bZ|exact bI|exact bC (π:=[]) (hs:=by first|exact hdo|fail)|fail)) ?_|refine oD (id:=22) W9_22 [] O9_22 [_,_,_,_,_,_,_,_,_] [_] rfl (by repeat' (first|exact trivial|refine And.intro ?_ ?_|exact bS|exact bX|exact bZ|exact bI|exact bC (π:=[]) (hs:=by first|exact hdo|fail)|fail)) ?_|fail)
      refine IWP_loop (fun x : Nat × Nat => ⟨139, [(0, .fz false (steps l) l.length), (1, .i64 id), (4, .sc (.bool false)), (5, .sc (.bool true)), (6, .ptr 0 0), (7, .i64 a), (8, .i64 i), (9, .ptr 1 0), (10, .fz true (ints outs) outs.length), (11, .i64 e), (12, .i64 x.1), (13, .i64 x.2)], [.box [.i64 now, .fz true (dues D) D.length], .box [.i64 now', .fz true (dues D') D'.length]]⟩)
        (fun x => x.2 ≤ outs.length ∧ x.1 = cntV id (outs.take x.2)) (fun x => outs.length - x.2) (0, 0) (lP [0, 1]) ⟨Nat.zero_le _, rfl⟩ ?_
      rintro ⟨m, k⟩ ⟨hk, hm⟩
      simp only at hk hm ⊢
      have hmk := cnt_le id outs k
      rw [← hm] at hmk
      by_cases hk2 : k < outs.length
      · have hcs : cntV id (outs.take (k + 1)) = cntV id (outs.take k) + if outs.getD k 0 = id then 1 else 0 := cnt_step hk2
        rw [← hm] at hcs
        by_cases hid : outs.getD k 0 = id
        · rw [if_pos hid] at hcs
          repeat' (first|refine IOps_nil ?_|refine oS ?_|refine IOps_s rfl rfl ?_|refine oT ?_|refine IOps_s0 rfl ?_|refine oZ ?_|refine oI ?_|refine thenI_n ?_|refine IWP_seq ?_|refine IWP_region ?_|refine IWP_ct rfl ?_|refine IWP_cf rfl ?_|refine IWP_skip ?_|refine IWP_ret ?_|refine IWP_block ?_|refine inB_n ?_|refine thenI_r ?_|refine thenI_e ?_|refine inB_r ?_|refine inB_hit ?_|refine inB_miss rfl ?_|refine IWP_exit ?_|refine IWP_scope ?_|refine IWP_label ?_|refine noG_n ?_|refine noG_r ?_|refine noG_e ?_|refine jmp_n ?_|refine jmp_r ?_|refine jmp_e ?_|refine jmp_g ?_|refine thenI_g ?_|refine inB_g ?_|refine IWP_goto ?_|refine Loop_n ?_|refine oD (id:=9) W9_9 [10, 11] O9_9 [_,_,_,_,_,_,_,_,_,_,_,_,_,_] [_,_,_] rfl (by repeat' (first|exact trivial|refine And.intro ?_ ?_|exact bS|exact bX|exact bZ|exact bI|fail)) ?_|refine oD (id:=22) W9_22 [] O9_22 [_,_,_,_,_,_,_,_,_] [_] rfl (by repeat' (first|exact trivial|refine And.intro ?_ ?_|exact bS|exact bX|exact bZ|exact bI|fail)) ?_|fail)
          exact ⟨(m + 1, k + 1), ⟨hk2, hcs.symm⟩, by simp only; omega, lP [0, 1]⟩
        · rw [if_neg hid] at hcs
          repeat' (first|refine IOps_nil ?_|refine oS ?_|refine IOps_s rfl rfl ?_|refine oT ?_|refine IOps_s0 rfl ?_|refine oZ ?_|refine oI ?_|refine thenI_n ?_|refine IWP_seq ?_|refine IWP_region ?_|refine IWP_ct rfl ?_|refine IWP_cf rfl ?_|refine IWP_skip ?_|refine IWP_ret ?_|refine IWP_block ?_|refine inB_n ?_|refine thenI_r ?_|refine thenI_e ?_|refine inB_r ?_|refine inB_hit ?_|refine inB_miss rfl ?_|refine IWP_exit ?_|refine IWP_scope ?_|refine IWP_label ?_|refine noG_n ?_|refine noG_r ?_|refine noG_e ?_|refine jmp_n ?_|refine jmp_r ?_|refine jmp_e ?_|refine jmp_g ?_|refine thenI_g ?_|refine inB_g ?_|refine IWP_goto ?_|refine Loop_n ?_|refine oD (id:=9) W9_9 [10, 11] O9_9 [_,_,_,_,_,_,_,_,_,_,_,_,_,_] [_,_,_] rfl (by repeat' (first|exact trivial|refine And.intro ?_ ?_|exact bS|exact bX|exact bZ|exact bI|fail)) ?_|refine oD (id:=22) W9_22 [] O9_22 [_,_,_,_,_,_,_,_,_] [_] rfl (by repeat' (first|exact trivial|refine And.intro ?_ ?_|exact bS|exact bX|exact bZ|exact bI|fail)) ?_|fail)
          exact ⟨(m, k + 1), ⟨hk2, hcs.symm⟩, by simp only; omega, lP [0, 1]⟩
      · obtain rfl : k = outs.length := by omega
        rw [List.take_length, hO.cnt] at hm
        by_cases hd : 0 < a ∧ a ≤ now'
        · rw [if_pos hd] at hm
          have hk0 := hO.not0 hd
          obtain ⟨hd1, hd2⟩ := hd
          obtain rfl : a' = 0 := hO.atd ⟨hd1, hd2⟩
          by_cases he : e = 0
          · skip
            skip
            have hwn := when_spec now' D' id (by omega)
            rw [whenC_of hO.ok, hO.when', show decide ((0 : Int) < 0) = false by decide] at hwn
            repeat' (first|refine IOps_nil ?_|refine oS ?_|refine IOps_s rfl rfl ?_|refine oT ?_|refine IOps_s0 rfl ?_|refine oC (π:=[]) (hs:=by first|exact hwn|fail) (hx:=?_)|refine oC (π:=[]) (hs:=by first|exact hck|fail) (hx:=?_)|refine oZ ?_|refine oI ?_|refine thenI_n ?_|refine IWP_seq ?_|refine IWP_region ?_|refine IWP_ct rfl ?_|refine IWP_cf rfl ?_|refine IWP_skip ?_|refine IWP_ret ?_|refine IWP_block ?_|refine inB_n ?_|refine thenI_r ?_|refine thenI_e ?_|refine inB_r ?_|refine inB_hit ?_|refine inB_miss rfl ?_|refine IWP_exit ?_|refine IWP_scope ?_|refine IWP_label ?_|refine noG_n ?_|refine noG_r ?_|refine noG_e ?_|refine jmp_n ?_|refine jmp_r ?_|refine jmp_e ?_|refine jmp_g ?_|refine thenI_g ?_|refine inB_g ?_|refine IWP_goto ?_|refine Loop_n ?_|refine oD (id:=9) W9_9 [10, 11] O9_9 [_,_,_,_,_,_,_,_,_,_,_,_,_,_] [_,_,_] rfl (by repeat' (first|exact trivial|refine And.intro ?_ ?_|exact bS|exact bX|exact bZ|exact bI|exact bC (π:=[]) (hs:=by first|exact hwn|fail)|exact bC (π:=[]) (hs:=by first|exact hck|fail)|fail)) ?_|refine oD (id:=22) W9_22 [] O9_22 [_,_,_,_,_,_,_,_,_] [_] rfl (by repeat' (first|exact trivial|refine And.intro ?_ ?_|exact bS|exact bX|exact bZ|exact bI|exact bC (π:=[]) (hs:=by first|exact hwn|fail)|exact bC (π:=[]) (hs:=by first|exact hck|fail)|fail)) ?_|fail)
            exact ⟨((now', D'), 0, i + 1), ⟨h, hO.ok, hO.when', hO.ty0⟩, by simp only; omega, lP [0]⟩
          · skip
            skip
            have hwn := when_spec now' D' id (by omega)
            rw [whenC_of hO.ok, hO.when', show decide ((0 : Int) < 0) = false by decide] at hwn
            repeat' (first|refine IOps_nil ?_|refine oS ?_|refine IOps_s rfl rfl ?_|refine oT ?_|refine IOps_s0 rfl ?_|refine oC (π:=[]) (hs:=by first|exact hwn|fail) (hx:=?_)|refine oC (π:=[]) (hs:=by first|exact hck|fail) (hx:=?_)|refine oZ ?_|refine oI ?_|refine thenI_n ?_|refine IWP_seq ?_|refine IWP_region ?_|refine IWP_ct rfl ?_|refine IWP_cf rfl ?_|refine IWP_skip ?_|refine IWP_ret ?_|refine IWP_block ?_|refine inB_n ?_|refine thenI_r ?_|refine thenI_e ?_|refine inB_r ?_|refine inB_hit ?_|refine inB_miss rfl ?_|refine IWP_exit ?_|refine IWP_scope ?_|refine IWP_label ?_|refine noG_n ?_|refine noG_r ?_|refine noG_e ?_|refine jmp_n ?_|refine jmp_r ?_|refine jmp_e ?_|refine jmp_g ?_|refine thenI_g ?_|refine inB_g ?_|refine IWP_goto ?_|refine Loop_n ?_|refine oD (id:=9) W9_9 [10, 11] O9_9 [_,_,_,_,_,_,_,_,_,_,_,_,_,_] [_,_,_] rfl (by repeat' (first|exact trivial|refine And.intro ?_ ?_|exact bS|exact bX|exact bZ|exact bI|exact bC (π:=[]) (hs:=by first|exact hwn|fail)|exact bC (π:=[]) (hs:=by first|exact hck|fail)|fail)) ?_|refine oD (id:=22) W9_22 [] O9_22 [_,_,_,_,_,_,_,_,_] [_] rfl (by repeat' (first|exact trivial|refine And.intro ?_ ?_|exact bS|exact bX|exact bZ|exact bI|exact bC (π:=[]) (hs:=by first|exact hwn|fail)|exact bC (π:=[]) (hs:=by first|exact hck|fail)|fail)) ?_|fail)
            exact ⟨((now', D'), 0, i + 1), ⟨h, hO.ok, hO.when', hO.ty0⟩, by simp only; omega, lP [0]⟩
        · rw [if_neg hd] at hm
          by_cases h0 : 0 < a
          · have h01 : now' < a := by omega
            by_cases he : e = 0
            · by_cases k0 : (l.getD i default).kind = 0
              · by_cases hi2 : (l.getD i default).id = id
                · skip
                  obtain ⟨rfl, p1, p2⟩ := hO.at0 he k0 hi2
                  have hwn := when_spec now' D' id (by omega)
                  rw [whenC_of hO.ok, hO.when', decide_eq_true p1] at hwn
                  repeat' (first|refine IOps_nil ?_|refine oS ?_|refine IOps_s rfl rfl ?_|refine oT ?_|refine IOps_s0 rfl ?_|refine oC (π:=[]) (hs:=by first|exact hwn|fail) (hx:=?_)|refine oC (π:=[]) (hs:=by first|exact hck|fail) (hx:=?_)|refine oZ ?_|refine oI ?_|refine thenI_n ?_|refine IWP_seq ?_|refine IWP_region ?_|refine IWP_ct rfl ?_|refine IWP_cf rfl ?_|refine IWP_skip ?_|refine IWP_ret ?_|refine IWP_block ?_|refine inB_n ?_|refine thenI_r ?_|refine thenI_e ?_|refine inB_r ?_|refine inB_hit ?_|refine inB_miss rfl ?_|refine IWP_exit ?_|refine IWP_scope ?_|refine IWP_label ?_|refine noG_n ?_|refine noG_r ?_|refine noG_e ?_|refine jmp_n ?_|refine jmp_r ?_|refine jmp_e ?_|refine jmp_g ?_|refine thenI_g ?_|refine inB_g ?_|refine IWP_goto ?_|refine Loop_n ?_|refine oD (id:=9) W9_9 [10, 11] O9_9 [_,_,_,_,_,_,_,_,_,_,_,_,_,_] [_,_,_] rfl (by repeat' (first|exact trivial|refine And.intro ?_ ?_|exact bS|exact bX|exact bZ|exact bI|exact bC (π:=[]) (hs:=by first|exact hwn|fail)|exact bC (π:=[]) (hs:=by first|exact hck|fail)|fail)) ?_|refine oD (id:=22) W9_22 [] O9_22 [_,_,_,_,_,_,_,_,_] [_] rfl (by repeat' (first|exact trivial|refine And.intro ?_ ?_|exact bS|exact bX|exact bZ|exact bI|exact bC (π:=[]) (hs:=by first|exact hwn|fail)|exact bC (π:=[]) (hs:=by first|exact hck|fail)|fail)) ?_|fail)
                  exact ⟨((now', D'), now + (l.getD i default).n, i + 1), ⟨h, hO.ok, hO.when', hO.ty0⟩, by simp only; omega, lP [0]⟩
                · skip
                  obtain rfl : a' = a := hO.atn hd (fun z => hi2 z.2.2) (fun z => hi2 z.2.2)
                  have hwn := when_spec now' D' id (by omega)
                  rw [whenC_of hO.ok, hO.when', decide_eq_true h0] at hwn
                  repeat' (first|refine IOps_nil ?_|refine oS ?_|refine IOps_s rfl rfl ?_|refine oT ?_|refine IOps_s0 rfl ?_|refine oC (π:=[]) (hs:=by first|exact hwn|fail) (hx:=?_)|refine oC (π:=[]) (hs:=by first|exact hck|fail) (hx:=?_)|refine oZ ?_|refine oI ?_|refine thenI_n ?_|refine IWP_seq ?_|refine IWP_region ?_|refine IWP_ct rfl ?_|refine IWP_cf rfl ?_|refine IWP_skip ?_|refine IWP_ret ?_|refine IWP_block ?_|refine inB_n ?_|refine thenI_r ?_|refine thenI_e ?_|refine inB_r ?_|refine inB_hit ?_|refine inB_miss rfl ?_|refine IWP_exit ?_|refine IWP_scope ?_|refine IWP_label ?_|refine noG_n ?_|refine noG_r ?_|refine noG_e ?_|refine jmp_n ?_|refine jmp_r ?_|refine jmp_e ?_|refine jmp_g ?_|refine thenI_g ?_|refine inB_g ?_|refine IWP_goto ?_|refine Loop_n ?_|refine oD (id:=9) W9_9 [10, 11] O9_9 [_,_,_,_,_,_,_,_,_,_,_,_,_,_] [_,_,_] rfl (by repeat' (first|exact trivial|refine And.intro ?_ ?_|exact bS|exact bX|exact bZ|exact bI|exact bC (π:=[]) (hs:=by first|exact hwn|fail)|exact bC (π:=[]) (hs:=by first|exact hck|fail)|fail)) ?_|refine oD (id:=22) W9_22 [] O9_22 [_,_,_,_,_,_,_,_,_] [_] rfl (by repeat' (first|exact trivial|refine And.intro ?_ ?_|exact bS|exact bX|exact bZ|exact bI|exact bC (π:=[]) (hs:=by first|exact hwn|fail)|exact bC (π:=[]) (hs:=by first|exact hck|fail)|fail)) ?_|fail)
                  exact ⟨((now', D'), a', i + 1), ⟨h, hO.ok, hO.when', hO.ty0⟩, by simp only; omega, lP [0]⟩
              · by_cases k1 : (l.getD i default).kind = 1
                · by_cases hi2 : (l.getD i default).id = id
                  · skip
                    obtain rfl : a' = 0 := hO.at1 he k1 hi2
                    have hwn := when_spec now' D' id (by omega)
                    rw [whenC_of hO.ok, hO.when', show decide ((0 : Int) < 0) = false by decide] at hwn
                    repeat' (first|refine IOps_nil ?_|refine oS ?_|refine IOps_s rfl rfl ?_|refine oT ?_|refine IOps_s0 rfl ?_|refine oC (π:=[]) (hs:=by first|exact hwn|fail) (hx:=?_)|refine oC (π:=[]) (hs:=by first|exact hck|fail) (hx:=?_)|refine oZ ?_|refine oI ?_|refine thenI_n ?_|refine IWP_seq ?_|refine IWP_region ?_|refine IWP_ct rfl ?_|refine IWP_cf rfl ?_|refine IWP_skip ?_|refine IWP_ret ?_|refine IWP_block ?_|refine inB_n ?_|refine thenI_r ?_|refine thenI_e ?_|refine inB_r ?_|refine inB_hit ?_|refine inB_miss rfl ?_|refine IWP_exit ?_|refine IWP_scope ?_|refine IWP_label ?_|refine noG_n ?_|refine noG_r ?_|refine noG_e ?_|refine jmp_n ?_|refine jmp_r ?_|refine jmp_e ?_|refine jmp_g ?_|refine thenI_g ?_|refine inB_g ?_|refine IWP_goto ?_|refine Loop_n ?_|refine oD (id:=9) W9_9 [10, 11] O9_9 [_,_,_,_,_,_,_,_,_,_,_,_,_,_] [_,_,_] rfl (by repeat' (first|exact trivial|refine And.intro ?_ ?_|exact bS|exact bX|exact bZ|exact bI|exact bC (π:=[]) (hs:=by first|exact hwn|fail)|exact bC (π:=[]) (hs:=by first|exact hck|fail)|fail)) ?_|refine oD (id:=22) W9_22 [] O9_22 [_,_,_,_,_,_,_,_,_] [_] rfl (by repeat' (first|exact trivial|refine And.intro ?_ ?_|exact bS|exact bX|exact bZ|exact bI|exact bC (π:=[]) (hs:=by first|exact hwn|fail)|exact bC (π:=[]) (hs:=by first|exact hck|fail)|fail)) ?_|fail)
                    exact ⟨((now', D'), 0, i + 1), ⟨h, hO.ok, hO.when', hO.ty0⟩, by simp only; omega, lP [0]⟩
                  · skip
                    obtain rfl : a' = a := hO.atn hd (fun z => hi2 z.2.2) (fun z => hi2 z.2.2)
                    have hwn := when_spec now' D' id (by omega)
                    rw [whenC_of hO.ok, hO.when', decide_eq_true h0] at hwn
                    repeat' (first|refine IOps_nil ?_|refine oS ?_|refine IOps_s rfl rfl ?_|refine oT ?_|refine IOps_s0 rfl ?_|refine oC (π:=[]) (hs:=by first|exact hwn|fail) (hx:=?_)|refine oC (π:=[]) (hs:=by first|exact hck|fail) (hx:=?_)|refine oZ ?_|refine oI ?_|refine thenI_n ?_|refine IWP_seq ?_|refine IWP_region ?_|refine IWP_ct rfl ?_|refine IWP_cf rfl ?_|refine IWP_skip ?_|refine IWP_ret ?_|refine IWP_block ?_|refine inB_n ?_|refine thenI_r ?_|refine thenI_e ?_|refine inB_r ?_|refine inB_hit ?_|refine inB_miss rfl ?_|refine IWP_exit ?_|refine IWP_scope ?_|refine IWP_label ?_|refine noG_n ?_|refine noG_r ?_|refine noG_e ?_|refine jmp_n ?_|refine jmp_r ?_|refine jmp_e ?_|refine jmp_g ?_|refine thenI_g ?_|refine inB_g ?_|refine IWP_goto ?_|refine Loop_n ?_|refine oD (id:=9) W9_9 [10, 11] O9_9 [_,_,_,_,_,_,_,_,_,_,_,_,_,_] [_,_,_] rfl (by repeat' (first|exact trivial|refine And.intro ?_ ?_|exact bS|exact bX|exact bZ|exact bI|exact bC (π:=[]) (hs:=by first|exact hwn|fail)|exact bC (π:=[]) (hs:=by first|exact hck|fail)|fail)) ?_|refine oD (id:=22) W9_22 [] O9_22 [_,_,_,_,_,_,_,_,_] [_] rfl (by repeat' (first|exact trivial|refine And.intro ?_ ?_|exact bS|exact bX|exact bZ|exact bI|exact bC (π:=[]) (hs:=by first|exact hwn|fail)|exact bC (π:=[]) (hs:=by first|exact hck|fail)|fail)) ?_|fail)
                    exact ⟨((now', D'), a', i + 1), ⟨h, hO.ok, hO.when', hO.ty0⟩, by simp only; omega, lP [0]⟩
                · skip
                  obtain rfl : a' = a := hO.atn hd (fun z => k0 z.2.1) (fun z => k1 z.2.1)
                  have hwn := when_spec now' D' id (by omega)
                  rw [whenC_of hO.ok, hO.when', decide_eq_true h0] at hwn
                  repeat' (first|refine IOps_nil ?_|refine oS ?_|refine IOps_s rfl rfl ?_|refine oT ?_|refine IOps_s0 rfl ?_|refine oC (π:=[]) (hs:=by first|exact hwn|fail) (hx:=?_)|refine oC (π:=[]) (hs:=by first|exact hck|fail) (hx:=?_)|refine oZ ?_|refine oI ?_|refine thenI_n ?_|refine IWP_seq ?_|refine IWP_region ?_|refine IWP_ct rfl ?_|refine IWP_cf rfl ?_|refine IWP_skip ?_|refine IWP_ret ?_|refine IWP_block ?_|refine inB_n ?_|refine thenI_r ?_|refine thenI_e ?_|refine inB_r ?_|refine inB_hit ?_|refine inB_miss rfl ?_|refine IWP_exit ?_|refine IWP_scope ?_|refine IWP_label ?_|refine noG_n ?_|refine noG_r ?_|refine noG_e ?_|refine jmp_n ?_|refine jmp_r ?_|refine jmp_e ?_|refine jmp_g ?_|refine thenI_g ?_|refine inB_g ?_|refine IWP_goto ?_|refine Loop_n ?_|refine oD (id:=9) W9_9 [10, 11] O9_9 [_,_,_,_,_,_,_,_,_,_,_,_,_,_] [_,_,_] rfl (by repeat' (first|exact trivial|refine And.intro ?_ ?_|exact bS|exact bX|exact bZ|exact bI|exact bC (π:=[]) (hs:=by first|exact hwn|fail)|exact bC (π:=[]) (hs:=by first|exact hck|fail)|fail)) ?_|refine oD (id:=22) W9_22 [] O9_22 [_,_,_,_,_,_,_,_,_] [_] rfl (by repeat' (first|exact trivial|refine And.intro ?_ ?_|exact bS|exact bX|exact bZ|exact bI|exact bC (π:=[]) (hs:=by first|exact hwn|fail)|exact bC (π:=[]) (hs:=by first|exact hck|fail)|fail)) ?_|fail)
                  exact ⟨((now', D'), a', i + 1), ⟨h, hO.ok, hO.when', hO.ty0⟩, by simp only; omega, lP [0]⟩
            · skip
              obtain rfl : a' = a := hO.atn hd (fun z => he z.1) (fun z => he z.1)
              have hwn := when_spec now' D' id (by omega)
              rw [whenC_of hO.ok, hO.when', decide_eq_true h0] at hwn
              repeat' (first|refine IOps_nil ?_|refine oS ?_|refine IOps_s rfl rfl ?_|refine oT ?_|refine IOps_s0 rfl ?_|refine oC (π:=[]) (hs:=by first|exact hwn|fail) (hx:=?_)|refine oC (π:=[]) (hs:=by first|exact hck|fail) (hx:=?_)|refine oZ ?_|refine oI ?_|refine thenI_n ?_|refine IWP_seq ?_|refine IWP_region ?_|refine IWP_ct rfl ?_|refine IWP_cf rfl ?_|refine IWP_skip ?_|refine IWP_ret ?_|refine IWP_block ?_|refine inB_n ?_|refine thenI_r ?_|refine thenI_e ?_|refine inB_r ?_|refine inB_hit ?_|refine inB_miss rfl ?_|refine IWP_exit ?_|refine IWP_scope ?_|refine IWP_label ?_|refine noG_n ?_|refine noG_r ?_|refine noG_e ?_|refine jmp_n ?_|refine jmp_r ?_|refine jmp_e ?_|refine jmp_g ?_|refine thenI_g ?_|refine inB_g ?_|refine IWP_goto ?_|refine Loop_n ?_|refine oD (id:=9) W9_9 [10, 11] O9_9 [_,_,_,_,_,_,_,_,_,_,_,_,_,_] [_,_,_] rfl (by repeat' (first|exact trivial|refine And.intro ?_ ?_|exact bS|exact bX|exact bZ|exact bI|exact bC (π:=[]) (hs:=by first|exact hwn|fail)|exact bC (π:=[]) (hs:=by first|exact hck|fail)|fail)) ?_|refine oD (id:=22) W9_22 [] O9_22 [_,_,_,_,_,_,_,_,_] [_] rfl (by repeat' (first|exact trivial|refine And.intro ?_ ?_|exact bS|exact bX|exact bZ|exact bI|exact bC (π:=[]) (hs:=by first|exact hwn|fail)|exact bC (π:=[]) (hs:=by first|exact hck|fail)|fail)) ?_|fail)
              exact ⟨((now', D'), a', i + 1), ⟨h, hO.ok, hO.when', hO.ty0⟩, by simp only; omega, lP [0]⟩
          · skip
            by_cases he : e = 0
            · by_cases k0 : (l.getD i default).kind = 0
              · by_cases hi2 : (l.getD i default).id = id
                · skip
                  obtain ⟨rfl, p1, p2⟩ := hO.at0 he k0 hi2
                  have hwn := when_spec now' D' id (by omega)
                  rw [whenC_of hO.ok, hO.when', decide_eq_true p1] at hwn
                  repeat' (first|refine IOps_nil ?_|refine oS ?_|refine IOps_s rfl rfl ?_|refine oT ?_|refine IOps_s0 rfl ?_|refine oC (π:=[]) (hs:=by first|exact hwn|fail) (hx:=?_)|refine oC (π:=[]) (hs:=by first|exact hck|fail) (hx:=?_)|refine oZ ?_|refine oI ?_|refine thenI_n ?_|refine IWP_seq ?_|refine IWP_region ?_|refine IWP_ct rfl ?_|refine IWP_cf rfl ?_|refine IWP_skip ?_|refine IWP_ret ?_|refine IWP_block ?_|refine inB_n ?_|refine thenI_r ?_|refine thenI_e ?_|refine inB_r ?_|refine inB_hit ?_|refine inB_miss rfl ?_|refine IWP_exit ?_|refine IWP_scope ?_|refine IWP_label ?_|refine noG_n ?_|refine noG_r ?_|refine noG_e ?_|refine jmp_n ?_|refine jmp_r ?_|refine jmp_e ?_|refine jmp_g ?_|refine thenI_g ?_|refine inB_g ?_|refine IWP_goto ?_|refine Loop_n ?_|refine oD (id:=9) W9_9 [10, 11] O9_9 [_,_,_,_,_,_,_,_,_,_,_,_,_,_] [_,_,_] rfl (by repeat' (first|exact trivial|refine And.intro ?_ ?_|exact bS|exact bX|exact bZ|exact bI|exact bC (π:=[]) (hs:=by first|exact hwn|fail)|exact bC (π:=[]) (hs:=by first|exact hck|fail)|fail)) ?_|refine oD (id:=22) W9_22 [] O9_22 [_,_,_,_,_,_,_,_,_] [_] rfl (by repeat' (first|exact trivial|refine And.intro ?_ ?_|exact bS|exact bX|exact bZ|exact bI|exact bC (π:=[]) (hs:=by first|exact hwn|fail)|exact bC (π:=[]) (hs:=by first|exact hck|fail)|fail)) ?_|fail)
                  exact ⟨((now', D'), now + (l.getD i default).n, i + 1), ⟨h, hO.ok, hO.when', hO.ty0⟩, by simp only; omega, lP [0]⟩
                · skip
                  obtain rfl : a' = a := hO.atn hd (fun z => hi2 z.2.2) (fun z => hi2 z.2.2)
                  have hwn := when_spec now' D' id (by omega)
                  rw [whenC_of hO.ok, hO.when', decide_eq_false h0] at hwn
                  repeat' (first|refine IOps_nil ?_|refine oS ?_|refine IOps_s rfl rfl ?_|refine oT ?_|refine IOps_s0 rfl ?_|refine oC (π:=[]) (hs:=by first|exact hwn|fail) (hx:=?_)|refine oC (π:=[]) (hs:=by first|exact hck|fail) (hx:=?_)|refine oZ ?_|refine oI ?_|refine thenI_n ?_|refine IWP_seq ?_|refine IWP_region ?_|refine IWP_ct rfl ?_|refine IWP_cf rfl ?_|refine IWP_skip ?_|refine IWP_ret ?_|refine IWP_block ?_|refine inB_n ?_|refine thenI_r ?_|refine thenI_e ?_|refine inB_r ?_|refine inB_hit ?_|refine inB_miss rfl ?_|refine IWP_exit ?_|refine IWP_scope ?_|refine IWP_label ?_|refine noG_n ?_|refine noG_r ?_|refine noG_e ?_|refine jmp_n ?_|refine jmp_r ?_|refine jmp_e ?_|refine jmp_g ?_|refine thenI_g ?_|refine inB_g ?_|refine IWP_goto ?_|refine Loop_n ?_|refine oD (id:=9) W9_9 [10, 11] O9_9 [_,_,_,_,_,_,_,_,_,_,_,_,_,_] [_,_,_] rfl (by repeat' (first|exact trivial|refine And.intro ?_ ?_|exact bS|exact bX|exact bZ|exact bI|exact bC (π:=[]) (hs:=by first|exact hwn|fail)|exact bC (π:=[]) (hs:=by first|exact hck|fail)|fail)) ?_|refine oD (id:=22) W9_22 [] O9_22 [_,_,_,_,_,_,_,_,_] [_] rfl (by repeat' (first|exact trivial|refine And.intro ?_ ?_|exact bS|exact bX|exact bZ|exact bI|exact bC (π:=[]) (hs:=by first|exact hwn|fail)|exact bC (π:=[]) (hs:=by first|exact hck|fail)|fail)) ?_|fail)
                  exact ⟨((now', D'), a', i + 1), ⟨h, hO.ok, hO.when', hO.ty0⟩, by simp only; omega, lP [0]⟩
              · by_cases k1 : (l.getD i default).kind = 1
                · by_cases hi2 : (l.getD i default).id = id
                  · skip
                    obtain rfl : a' = 0 := hO.at1 he k1 hi2
                    have hwn := when_spec now' D' id (by omega)
                    rw [whenC_of hO.ok, hO.when', show decide ((0 : Int) < 0) = false by decide] at hwn
                    repeat' (first|refine IOps_nil ?_|refine oS ?_|refine IOps_s rfl rfl ?_|refine oT ?_|refine IOps_s0 rfl ?_|refine oC (π:=[]) (hs:=by first|exact hwn|fail) (hx:=?_)|refine oC (π:=[]) (hs:=by first|exact hck|fail) (hx:=?_)|refine oZ ?_|refine oI ?_|refine thenI_n ?_|refine IWP_seq ?_|refine IWP_region ?_|refine IWP_ct rfl ?_|refine IWP_cf rfl ?_|refine IWP_skip ?_|refine IWP_ret ?_|refine IWP_block ?_|refine inB_n ?_|refine thenI_r ?_|refine thenI_e ?_|refine inB_r ?_|refine inB_hit ?_|refine inB_miss rfl ?_|refine IWP_exit ?_|refine IWP_scope ?_|refine IWP_label ?_|refine noG_n ?_|refine noG_r ?_|refine noG_e ?_|refine jmp_n ?_|refine jmp_r ?_|refine jmp_e ?_|refine jmp_g ?_|refine thenI_g ?_|refine inB_g ?_|refine IWP_goto ?_|refine Loop_n ?_|refine oD (id:=9) W9_9 [10, 11] O9_9 [_,_,_,_,_,_,_,_,_,_,_,_,_,_] [_,_,_] rfl (by repeat' (first|exact trivial|refine And.intro ?_ ?_|exact bS|exact bX|exact bZ|exact bI|exact bC (π:=[]) (hs:=by first|exact hwn|fail)|exact bC (π:=[]) (hs:=by first|exact hck|fail)|fail)) ?_|refine oD (id:=22) W9_22 [] O9_22 [_,_,_,_,_,_,_,_,_] [_] rfl (by repeat' (first|exact trivial|refine And.intro ?_ ?_|exact bS|exact bX|exact bZ|exact bI|exact bC (π:=[]) (hs:=by first|exact hwn|fail)|exact bC (π:=[]) (hs:=by first|exact hck|fail)|fail)) ?_|fail)
                    exact ⟨((now', D'), 0, i + 1), ⟨h, hO.ok, hO.when', hO.ty0⟩, by simp only; omega, lP [0]⟩
                  · skip
                    obtain rfl : a' = a := hO.atn hd (fun z => hi2 z.2.2) (fun z => hi2 z.2.2)
                    have hwn := when_spec now' D' id (by omega)
                    rw [whenC_of hO.ok, hO.when', decide_eq_false h0] at hwn
                    repeat' (first|refine IOps_nil ?_|refine oS ?_|refine IOps_s rfl rfl ?_|refine oT ?_|refine IOps_s0 rfl ?_|refine oC (π:=[]) (hs:=by first|exact hwn|fail) (hx:=?_)|refine oC (π:=[]) (hs:=by first|exact hck|fail) (hx:=?_)|refine oZ ?_|refine oI ?_|refine thenI_n ?_|refine IWP_seq ?_|refine IWP_region ?_|refine IWP_ct rfl ?_|refine IWP_cf rfl ?_|refine IWP_skip ?_|refine IWP_ret ?_|refine IWP_block ?_|refine inB_n ?_|refine thenI_r ?_|refine thenI_e ?_|refine inB_r ?_|refine inB_hit ?_|refine inB_miss rfl ?_|refine IWP_exit ?_|refine IWP_scope ?_|refine IWP_label ?_|refine noG_n ?_|refine noG_r ?_|refine noG_e ?_|refine jmp_n ?_|refine jmp_r ?_|refine jmp_e ?_|refine jmp_g ?_|refine thenI_g ?_|refine inB_g ?_|refine IWP_goto ?_|refine Loop_n ?_|refine oD (id:=9) W9_9 [10, 11] O9_9 [_,_,_,_,_,_,_,_,_,_,_,_,_,_] [_,_,_] rfl (by repeat' (first|exact trivial|refine And.intro ?_ ?_|exact bS|exact bX|exact bZ|exact bI|exact bC (π:=[]) (hs:=by first|exact hwn|fail)|exact bC (π:=[]) (hs:=by first|exact hck|fail)|fail)) ?_|refine oD (id:=22) W9_22 [] O9_22 [_,_,_,_,_,_,_,_,_] [_] rfl (by repeat' (first|exact trivial|refine And.intro ?_ ?_|exact bS|exact bX|exact bZ|exact bI|exact bC (π:=[]) (hs:=by first|exact hwn|fail)|exact bC (π:=[]) (hs:=by first|exact hck|fail)|fail)) ?_|fail)
                    exact ⟨((now', D'), a', i + 1), ⟨h, hO.ok, hO.when', hO.ty0⟩, by simp only; omega, lP [0]⟩
                · skip
                  obtain rfl : a' = a := hO.atn hd (fun z => k0 z.2.1) (fun z => k1 z.2.1)
                  have hwn := when_spec now' D' id (by omega)
                  rw [whenC_of hO.ok, hO.when', decide_eq_false h0] at hwn
                  repeat' (first|refine IOps_nil ?_|refine oS ?_|refine IOps_s rfl rfl ?_|refine oT ?_|refine IOps_s0 rfl ?_|refine oC (π:=[]) (hs:=by first|exact hwn|fail) (hx:=?_)|refine oC (π:=[]) (hs:=by first|exact hck|fail) (hx:=?_)|refine oZ ?_|refine oI ?_|refine thenI_n ?_|refine IWP_seq ?_|refine IWP_region ?_|refine IWP_ct rfl ?_|refine IWP_cf rfl ?_|refine IWP_skip ?_|refine IWP_ret ?_|refine IWP_block ?_|refine inB_n ?_|refine thenI_r ?_|refine thenI_e ?_|refine inB_r ?_|refine inB_hit ?_|refine inB_miss rfl ?_|refine IWP_exit ?_|refine IWP_scope ?_|refine IWP_label ?_|refine noG_n ?_|refine noG_r ?_|refine noG_e ?_|refine jmp_n ?_|refine jmp_r ?_|refine jmp_e ?_|refine jmp_g ?_|refine thenI_g ?_|refine inB_g ?_|refine IWP_goto ?_|refine Loop_n ?_|refine oD (id:=9) W9_9 [10, 11] O9_9 [_,_,_,_,_,_,_,_,_,_,_,_,_,_] [_,_,_] rfl (by repeat' (first|exact trivial|refine And.intro ?_ ?_|exact bS|exact bX|exact bZ|exact bI|exact bC (π:=[]) (hs:=by first|exact hwn|fail)|exact bC (π:=[]) (hs:=by first|exact hck|fail)|fail)) ?_|refine oD (id:=22) W9_22 [] O9_22 [_,_,_,_,_,_,_,_,_] [_] rfl (by repeat' (first|exact trivial|refine And.intro ?_ ?_|exact bS|exact bX|exact bZ|exact bI|exact bC (π:=[]) (hs:=by first|exact hwn|fail)|exact bC (π:=[]) (hs:=by first|exact hck|fail)|fail)) ?_|fail)
                  exact ⟨((now', D'), a', i + 1), ⟨h, hO.ok, hO.when', hO.ty0⟩, by simp only; omega, lP [0]⟩
            · skip
              obtain rfl : a' = a := hO.atn hd (fun z => he z.1) (fun z => he z.1)
              have hwn := when_spec now' D' id (by omega)
              rw [whenC_of hO.ok, hO.when', decide_eq_false h0] at hwn
              repeat' (first|refine IOps_nil ?_|refine oS ?_|refine IOps_s rfl rfl ?_|refine oT ?_|refine IOps_s0 rfl ?_|refine oC (π:=[]) (hs:=by first|exact hwn|fail) (hx:=?_)|refine oC (π:=[]) (hs:=by first|exact hck|fail) (hx:=?_)|refine oZ ?_|refine oI ?_|refine thenI_n ?_|refine IWP_seq ?_|refine IWP_region ?_|refine IWP_ct rfl ?_|refine IWP_cf rfl ?_|refine IWP_skip ?_|refine IWP_ret ?_|refine IWP_block ?_|refine inB_n ?_|refine thenI_r ?_|refine thenI_e ?_|refine inB_r ?_|refine inB_hit ?_|refine inB_miss rfl ?_|refine IWP_exit ?_|refine IWP_scope ?_|refine IWP_label ?_|refine noG_n ?_|refine noG_r ?_|refine noG_e ?_|refine jmp_n ?_|refine jmp_r ?_|refine jmp_e ?_|refine jmp_g ?_|refine thenI_g ?_|refine inB_g ?_|refine IWP_goto ?_|refine Loop_n ?_|refine oD (id:=9) W9_9 [10, 11] O9_9 [_,_,_,_,_,_,_,_,_,_,_,_,_,_] [_,_,_] rfl (by repeat' (first|exact trivial|refine And.intro ?_ ?_|exact bS|exact bX|exact bZ|exact bI|exact bC (π:=[]) (hs:=by first|exact hwn|fail)|exact bC (π:=[]) (hs:=by first|exact hck|fail)|fail)) ?_|refine oD (id:=22) W9_22 [] O9_22 [_,_,_,_,_,_,_,_,_] [_] rfl (by repeat' (first|exact trivial|refine And.intro ?_ ?_|exact bS|exact bX|exact bZ|exact bI|exact bC (π:=[]) (hs:=by first|exact hwn|fail)|exact bC (π:=[]) (hs:=by first|exact hck|fail)|fail)) ?_|fail)
              exact ⟨((now', D'), a', i + 1), ⟨h, hO.ok, hO.when', hO.ty0⟩, by simp only; omega, lP [0]⟩
    · repeat' (first|refine IOps_nil ?_|refine oS ?_|refine IOps_s rfl rfl ?_|refine oT ?_|refine IOps_s0 rfl ?_|refine oZ ?_|refine oI ?_|refine thenI_n ?_|refine IWP_seq ?_|refine IWP_region ?_|refine IWP_ct rfl ?_|refine IWP_cf rfl ?_|refine IWP_skip ?_|refine IWP_ret ?_|refine IWP_block ?_|refine inB_n ?_|refine thenI_r ?_|refine thenI_e ?_|refine inB_r ?_|refine inB_hit ?_|refine inB_miss rfl ?_|refine IWP_exit ?_|refine IWP_scope ?_|refine IWP_label ?_|refine noG_n ?_|refine noG_r ?_|refine noG_e ?_|refine jmp_n ?_|refine jmp_r ?_|refine jmp_e ?_|refine jmp_g ?_|refine thenI_g ?_|refine inB_g ?_|refine IWP_goto ?_|refine Loop_n ?_|refine oD (id:=9) W9_9 [10, 11] O9_9 [_,_,_,_,_,_,_,_,_,_,_,_,_,_] [_,_,_] rfl (by repeat' (first|exact trivial|refine And.intro ?_ ?_|exact bS|exact bX|exact bZ|exact bI|fail)) ?_|refine oD (id:=22) W9_22 [] O9_22 [_,_,_,_,_,_,_,_,_] [_] rfl (by repeat' (first|exact trivial|refine And.intro ?_ ?_|exact bS|exact bX|exact bZ|exact bI|fail)) ?_|fail)
      exact pD [] ⟨rfl, rfl⟩
  · refine sB Try.func9 Try.ntmps9 ?_
    repeat' (first|refine IOps_nil ?_|refine oS ?_|refine IOps_s rfl rfl ?_|refine oT ?_|refine IOps_s0 rfl ?_|refine oC (π:=[]) (hs:=by first|exact clock_awake|fail) (hx:=?_)|refine oZ ?_|refine oI ?_|refine thenI_n ?_|refine IWP_seq ?_|refine IWP_region ?_|refine IWP_ct rfl ?_|refine IWP_cf rfl ?_|refine IWP_skip ?_|refine IWP_ret ?_|refine IWP_block ?_|refine inB_n ?_|refine thenI_r ?_|refine thenI_e ?_|refine inB_r ?_|refine inB_hit ?_|refine inB_miss rfl ?_|refine IWP_exit ?_|refine IWP_scope ?_|refine IWP_label ?_|refine noG_n ?_|refine noG_r ?_|refine noG_e ?_|refine jmp_n ?_|refine jmp_r ?_|refine jmp_e ?_|refine jmp_g ?_|refine thenI_g ?_|refine inB_g ?_|refine IWP_goto ?_|refine Loop_n ?_|refine oD (id:=9) W9_9 [10, 11] O9_9 [_,_,_,_,_,_,_,_,_,_,_,_,_,_] [_,_,_] rfl (by repeat' (first|exact trivial|refine And.intro ?_ ?_|exact bS|exact bX|exact bZ|exact bI|exact bC (π:=[]) (hs:=by first|exact clock_awake|fail)|fail)) ?_|refine oD (id:=22) W9_22 [] O9_22 [_,_,_,_,_,_,_,_,_] [_] rfl (by repeat' (first|exact trivial|refine And.intro ?_ ?_|exact bS|exact bX|exact bZ|exact bI|exact bC (π:=[]) (hs:=by first|exact clock_awake|fail)|fail)) ?_|fail)
    exact pD [] ⟨rfl, rfl⟩
end Go.Proofs.Ytnlelckfhlcbgaa
