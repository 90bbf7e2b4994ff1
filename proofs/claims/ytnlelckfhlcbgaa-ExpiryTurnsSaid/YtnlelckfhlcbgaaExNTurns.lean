/-
  A clock: what is set changes nobody else; in whatever order two are set.
-/
import Derived.Test.YtnlelckfhlcbgaaExM
namespace Go.Proofs.Ytnlelckfhlcbgaa
open Go Go.Idl
set_option linter.unusedSimpArgs false
set_option linter.unusedVariables false
set_option maxRecDepth 100000
set_option maxHeartbeats 4000000
theorem chk_of {now : Int} {l : List Du} (h : OkC now l) : chkC now l = true := decide_eq_true h
theorem whenC_of {now : Int} {l : List Du} (h : OkC now l) (id : Int) : whenC now l id = whenV l id := by unfold whenC; rw [chk_of h]; rfl
theorem set_or (now : Int) (l : List Du) (id after : Int) :
    (setV now l id after = (l, 110) ∨ setV now l id after = (l, 120) ∨ setV now l id after = (l, 170)) ∨
    (setV now l id after = (insD ⟨id, now + after⟩ l, 0) ∧ OkC now l ∧ (0 ≤ id ∧ id < 64) ∧ ¬ after < 1 ∧ ¬ MaxT - now < after) := by
  unfold setV
  cases hc : chkC now l
  · exact .inl (.inr (.inl (if_pos rfl)))
  · rw [if_neg (by decide)]
    by_cases hn : 0 ≤ id ∧ id < 64
    · rw [if_neg (fun h => h hn)]
      by_cases ha : after < 1 ∨ MaxT - now < after
      · exact .inl (.inr (.inr (if_pos ha)))
      · exact .inr ⟨if_neg ha, of_decide_eq_true hc, hn, fun h => ha (.inl h), fun h => ha (.inr h)⟩
    · exact .inl (.inl (if_pos hn))
theorem same_self (n : Int) (l : List Du) : sameC n n l l = true := decide_eq_true ⟨rfl, rfl⟩
theorem set_len (now : Int) (l : List Du) (id after : Int) : (setV now l id after).1.length ≤ l.length + 1 := by
  rcases set_or now l id after with (h | h | h) | ⟨h, -⟩
  · rw [h]; simp
  · rw [h]; simp
  · rw [h]; simp
  · rw [h, (ins_permD _ l).length_eq, List.length_append]
    have := List.length_filter_le (fun d : Du => !decide (d.id = id)) l
    simp only [List.length_cons, List.length_nil]
    unfold woD; omega
def errV (now id after : Int) : Int := if ¬ (0 ≤ id ∧ id < 64) then 110 else if after < 1 ∨ MaxT - now < after then 170 else 0
def putV (now : Int) (l : List Du) (id after : Int) : List Du := if errV now id after = 0 then insD ⟨id, now + after⟩ l else l
theorem set_put {now : Int} {l : List Du} (h : OkC now l) (id after : Int) : setV now l id after = (putV now l id after, errV now id after) := by
  unfold setV putV errV
  rw [chk_of h, if_neg (by decide)]
  split
  · rfl
  · split <;> rfl
theorem err_ok {now id after : Int} (h : errV now id after = 0) : (0 ≤ id ∧ id < 64) ∧ ¬ after < 1 ∧ ¬ MaxT - now < after := by
  unfold errV at h
  split at h
  · cases h
  · next h1 =>
    split at h
    · cases h
    · next h2 => exact ⟨Decidable.not_not.1 h1, fun k => h2 (.inl k), fun k => h2 (.inr k)⟩
theorem OkC.put {now : Int} {l : List Du} (h : OkC now l) (id after : Int) : OkC now (putV now l id after) := by
  unfold putV
  split
  · next e => obtain ⟨a, b, c⟩ := err_ok e; exact h.ins a b c
  · exact h
theorem put_put {now : Int} {l : List Du} (h : OkC now l) {a n b m : Int} (hab : a ≠ b) : putV now (putV now l a n) b m = putV now (putV now l b m) a n := by
  unfold putV
  split
  · split
    · exact ins_ins h.asc _ _ (Ne.symm hab)
    · rfl
  · rfl
attribute [local irreducible] Go.Idl.IWP Go.Idl.IOps Go.Idl.Obl Go.Idl.OpG Go.Idl.thenI Go.Idl.inBlockI Go.Idl.LoopU Go.Idl.noGotoI Go.Idl.jumpI
attribute [local go_sem] List.length_set splice2 splice3 splice_dues
theorem turns_law (now : Int) (l : List Du) (a n b m : Int) (hL : l.length ≤ 9223372036854775807) : Idl.Spec Try.prog 13 [.agg [.i64 now, .fz false (dues l) l.length], .i64 a, .i64 n, .i64 b, .i64 m] [] (Only (.sc (.bool true)) []) := by
  by_cases h100 : l.length ≤ 100
  · have s1 := dset_spec now l a n (by omega)
    have s3 := dset_spec now l b m (by omega)
    cases hc : chkC now l
    · rw [show setV now l a n = (l, 120) by unfold setV; rw [hc]; rfl] at s1
      rw [show setV now l b m = (l, 120) by unfold setV; rw [hc]; rfl] at s3
      have hw := when_spec now l b (by omega)
      have hsm := dsame_spec now now l l (by omega)
      rw [same_self] at hsm
      by_cases hab : a = b
      · refine sB Try.func13 Try.ntmps13 ?_
        repeat' (first|refine IOps_nil ?_|refine oS ?_|refine IOps_s rfl rfl ?_|refine oT ?_|refine IOps_s0 rfl ?_|refine oC (π:=[]) (hs:=by first|exact clock_awake|fail) (hx:=?_)|refine oC (π:=[]) (hs:=by first|exact s1|fail) (hx:=?_)|refine oC (π:=[]) (hs:=by first|exact s3|fail) (hx:=?_)|refine oC (π:=[]) (hs:=by first|exact hw|fail) (hx:=?_)|refine oC (π:=[]) (hs:=by first|exact hsm|fail) (hx:=?_)|refine oZ ?_|refine oI ?_|refine thenI_n ?_|refine IWP_seq ?_|refine IWP_region ?_|refine IWP_ct rfl ?_|refine IWP_cf rfl ?_|refine IWP_skip ?_|refine IWP_ret ?_|refine IWP_block ?_|refine inB_n ?_|refine thenI_r ?_|refine thenI_e ?_|refine inB_r ?_|refine inB_hit ?_|refine inB_miss rfl ?_|refine IWP_exit ?_|refine IWP_scope ?_|refine IWP_label ?_|refine noG_n ?_|refine noG_r ?_|refine noG_e ?_|refine jmp_n ?_|refine jmp_r ?_|refine jmp_e ?_|refine jmp_g ?_|refine thenI_g ?_|refine inB_g ?_|refine IWP_goto ?_|refine Loop_n ?_|fail)
        exact pD [] ⟨rfl, rfl⟩
      · refine sB Try.func13 Try.ntmps13 ?_
        repeat' (first|refine IOps_nil ?_|refine oS ?_|refine IOps_s rfl rfl ?_|refine oT ?_|refine IOps_s0 rfl ?_|refine oC (π:=[]) (hs:=by first|exact clock_awake|fail) (hx:=?_)|refine oC (π:=[]) (hs:=by first|exact s1|fail) (hx:=?_)|refine oC (π:=[]) (hs:=by first|exact s3|fail) (hx:=?_)|refine oC (π:=[]) (hs:=by first|exact hw|fail) (hx:=?_)|refine oC (π:=[]) (hs:=by first|exact hsm|fail) (hx:=?_)|refine oZ ?_|refine oI ?_|refine thenI_n ?_|refine IWP_seq ?_|refine IWP_region ?_|refine IWP_ct rfl ?_|refine IWP_cf rfl ?_|refine IWP_skip ?_|refine IWP_ret ?_|refine IWP_block ?_|refine inB_n ?_|refine thenI_r ?_|refine thenI_e ?_|refine inB_r ?_|refine inB_hit ?_|refine inB_miss rfl ?_|refine IWP_exit ?_|refine IWP_scope ?_|refine IWP_label ?_|refine noG_n ?_|refine noG_r ?_|refine noG_e ?_|refine jmp_n ?_|refine jmp_r ?_|refine jmp_e ?_|refine jmp_g ?_|refine thenI_g ?_|refine inB_g ?_|refine IWP_goto ?_|refine Loop_n ?_|fail)
        exact pD [] ⟨rfl, rfl⟩
    · have ho : OkC now l := of_decide_eq_true hc
      have h0 := ho.1.1
      have h1 : now ≤ 1099511627776 := ho.1.2
      have l1 := set_len now l a n
      have l2 := set_len now l b m
      have oa := ho.put a n
      have ob := ho.put b m
      have l3 := set_len now (putV now l a n) b m
      have l4 := set_len now (putV now l b m) a n
      rw [set_put ho] at s1 s3 l1 l2
      rw [set_put oa] at l3
      rw [set_put ob] at l4
      simp only at l1 l2 l3 l4
      have s2 := dset_spec now (putV now l a n) b m (by omega)
      have s4 := dset_spec now (putV now l b m) a n (by omega)
      rw [set_put oa] at s2
      rw [set_put ob] at s4
      have oab := oa.put b m
      have hw := when_spec now (putV now (putV now l a n) b m) b (by omega)
      rw [whenC_of oab] at hw
      have hwb : errV now b m = 0 → whenV (putV now (putV now l a n) b m) b = (now + m, true) := fun e => by
        unfold putV
        rw [if_pos e]
        exact when_ins_self oa.asc ⟨b, now + m⟩
      have hsm := dsame_spec now now (putV now (putV now l a n) b m) (putV now (putV now l b m) a n) (by omega)
      have hsc : a ≠ b → sameC now now (putV now (putV now l a n) b m) (putV now (putV now l b m) a n) = true := fun h => by rw [put_put ho h]; exact same_self _ _
      have hbd : errV now b m = 0 → ¬ m < 1 ∧ ¬ 1099511627776 - now < m := fun e => (err_ok e).2
      generalize putV now (putV now l a n) b m = X at *
      generalize putV now (putV now l b m) a n = Y at *
      generalize putV now l a n = A at *
      generalize putV now l b m = B at *
      generalize errV now a n = ea at *
      generalize errV now b m = eb at *
      by_cases hab : a = b
      · by_cases he : eb = 0
        · rw [hwb he] at hw
          obtain ⟨m1, m2⟩ := hbd he
          refine sB Try.func13 Try.ntmps13 ?_
          repeat' (first|refine IOps_nil ?_|refine oS ?_|refine IOps_s rfl rfl ?_|refine oT ?_|refine IOps_s0 rfl ?_|refine oC (π:=[]) (hs:=by first|exact clock_awake|fail) (hx:=?_)|refine oC (π:=[]) (hs:=by first|exact s1|fail) (hx:=?_)|refine oC (π:=[]) (hs:=by first|exact s2|fail) (hx:=?_)|refine oC (π:=[]) (hs:=by first|exact s3|fail) (hx:=?_)|refine oC (π:=[]) (hs:=by first|exact s4|fail) (hx:=?_)|refine oC (π:=[]) (hs:=by first|exact hw|fail) (hx:=?_)|refine oZ ?_|refine oI ?_|refine thenI_n ?_|refine IWP_seq ?_|refine IWP_region ?_|refine IWP_ct rfl ?_|refine IWP_cf rfl ?_|refine IWP_skip ?_|refine IWP_ret ?_|refine IWP_block ?_|refine inB_n ?_|refine thenI_r ?_|refine thenI_e ?_|refine inB_r ?_|refine inB_hit ?_|refine inB_miss rfl ?_|refine IWP_exit ?_|refine IWP_scope ?_|refine IWP_label ?_|refine noG_n ?_|refine noG_r ?_|refine noG_e ?_|refine jmp_n ?_|refine jmp_r ?_|refine jmp_e ?_|refine jmp_g ?_|refine thenI_g ?_|refine inB_g ?_|refine IWP_goto ?_|refine Loop_n ?_|fail)
          exact pD [] ⟨rfl, rfl⟩
        · refine sB Try.func13 Try.ntmps13 ?_
          repeat' (first|refine IOps_nil ?_|refine oS ?_|refine IOps_s rfl rfl ?_|refine oT ?_|refine IOps_s0 rfl ?_|refine oC (π:=[]) (hs:=by first|exact clock_awake|fail) (hx:=?_)|refine oC (π:=[]) (hs:=by first|exact s1|fail) (hx:=?_)|refine oC (π:=[]) (hs:=by first|exact s2|fail) (hx:=?_)|refine oC (π:=[]) (hs:=by first|exact s3|fail) (hx:=?_)|refine oC (π:=[]) (hs:=by first|exact s4|fail) (hx:=?_)|refine oC (π:=[]) (hs:=by first|exact hw|fail) (hx:=?_)|refine oZ ?_|refine oI ?_|refine thenI_n ?_|refine IWP_seq ?_|refine IWP_region ?_|refine IWP_ct rfl ?_|refine IWP_cf rfl ?_|refine IWP_skip ?_|refine IWP_ret ?_|refine IWP_block ?_|refine inB_n ?_|refine thenI_r ?_|refine thenI_e ?_|refine inB_r ?_|refine inB_hit ?_|refine inB_miss rfl ?_|refine IWP_exit ?_|refine IWP_scope ?_|refine IWP_label ?_|refine noG_n ?_|refine noG_r ?_|refine noG_e ?_|refine jmp_n ?_|refine jmp_r ?_|refine jmp_e ?_|refine jmp_g ?_|refine thenI_g ?_|refine inB_g ?_|refine IWP_goto ?_|refine Loop_n ?_|fail)
          exact pD [] ⟨rfl, rfl⟩
      · rw [hsc hab] at hsm
        by_cases he : eb = 0
        · rw [hwb he] at hw
          obtain ⟨m1, m2⟩ := hbd he
          refine sB Try.func13 Try.ntmps13 ?_
          repeat' (first|refine IOps_nil ?_|refine oS ?_|refine IOps_s rfl rfl ?_|refine oT ?_|refine IOps_s0 rfl ?_|refine oC (π:=[]) (hs:=by first|exact clock_awake|fail) (hx:=?_)|refine oC (π:=[]) (hs:=by first|exact s1|fail) (hx:=?_)|refine oC (π:=[]) (hs:=by first|exact s2|fail) (hx:=?_)|refine oC (π:=[]) (hs:=by first|exact s3|fail) (hx:=?_)|refine oC (π:=[]) (hs:=by first|exact s4|fail) (hx:=?_)|refine oC (π:=[]) (hs:=by first|exact hw|fail) (hx:=?_)|refine oC (π:=[]) (hs:=by first|exact hsm|fail) (hx:=?_)|refine oZ ?_|refine oI ?_|refine thenI_n ?_|refine IWP_seq ?_|refine IWP_region ?_|refine IWP_ct rfl ?_|refine IWP_cf rfl ?_|refine IWP_skip ?_|refine IWP_ret ?_|refine IWP_block ?_|refine inB_n ?_|refine thenI_r ?_|refine thenI_e ?_|refine inB_r ?_|refine inB_hit ?_|refine inB_miss rfl ?_|refine IWP_exit ?_|refine IWP_scope ?_|refine IWP_label ?_|refine noG_n ?_|refine noG_r ?_|refine noG_e ?_|refine jmp_n ?_|refine jmp_r ?_|refine jmp_e ?_|refine jmp_g ?_|refine thenI_g ?_|refine inB_g ?_|refine IWP_goto ?_|refine Loop_n ?_|fail)
          exact pD [] ⟨rfl, rfl⟩
        · refine sB Try.func13 Try.ntmps13 ?_
          repeat' (first|refine IOps_nil ?_|refine oS ?_|refine IOps_s rfl rfl ?_|refine oT ?_|refine IOps_s0 rfl ?_|refine oC (π:=[]) (hs:=by first|exact clock_awake|fail) (hx:=?_)|refine oC (π:=[]) (hs:=by first|exact s1|fail) (hx:=?_)|refine oC (π:=[]) (hs:=by first|exact s2|fail) (hx:=?_)|refine oC (π:=[]) (hs:=by first|exact s3|fail) (hx:=?_)|refine oC (π:=[]) (hs:=by first|exact s4|fail) (hx:=?_)|refine oC (π:=[]) (hs:=by first|exact hw|fail) (hx:=?_)|refine oC (π:=[]) (hs:=by first|exact hsm|fail) (hx:=?_)|refine oZ ?_|refine oI ?_|refine thenI_n ?_|refine IWP_seq ?_|refine IWP_region ?_|refine IWP_ct rfl ?_|refine IWP_cf rfl ?_|refine IWP_skip ?_|refine IWP_ret ?_|refine IWP_block ?_|refine inB_n ?_|refine thenI_r ?_|refine thenI_e ?_|refine inB_r ?_|refine inB_hit ?_|refine inB_miss rfl ?_|refine IWP_exit ?_|refine IWP_scope ?_|refine IWP_label ?_|refine noG_n ?_|refine noG_r ?_|refine noG_e ?_|refine jmp_n ?_|refine jmp_r ?_|refine jmp_e ?_|refine jmp_g ?_|refine thenI_g ?_|refine inB_g ?_|refine IWP_goto ?_|refine Loop_n ?_|fail)
          exact pD [] ⟨rfl, rfl⟩
  · refine sB Try.func13 Try.ntmps13 ?_
    repeat' (first|refine IOps_nil ?_|refine oS ?_|refine IOps_s rfl rfl ?_|refine oT ?_|refine IOps_s0 rfl ?_|refine oC (π:=[]) (hs:=by first|exact clock_awake|fail) (hx:=?_)|refine oZ ?_|refine oI ?_|refine thenI_n ?_|refine IWP_seq ?_|refine IWP_region ?_|refine IWP_ct rfl ?_|refine IWP_cf rfl ?_|refine IWP_skip ?_|refine IWP_ret ?_|refine IWP_block ?_|refine inB_n ?_|refine thenI_r ?_|refine thenI_e ?_|refine inB_r ?_|refine inB_hit ?_|refine inB_miss rfl ?_|refine IWP_exit ?_|refine IWP_scope ?_|refine IWP_label ?_|refine noG_n ?_|refine noG_r ?_|refine noG_e ?_|refine jmp_n ?_|refine jmp_r ?_|refine jmp_e ?_|refine jmp_g ?_|refine thenI_g ?_|refine inB_g ?_|refine IWP_goto ?_|refine Loop_n ?_|fail)
    exact pD [] ⟨rfl, rfl⟩
end Go.Proofs.Ytnlelckfhlcbgaa

namespace Go.Proofs.Ytnlelckfhlcbgaa
open Go Go.Idl
set_option linter.unusedSimpArgs false
set_option linter.unusedVariables false
set_option maxRecDepth 100000
set_option maxHeartbeats 4000000
theorem tick_no {now : Int} {l : List Du} (h : chkC now l = false) (b : Int) : tickV now l b = ((now, l), [], 120) := by unfold tickV; rw [h]; rfl
theorem tick_bad {now : Int} {l : List Du} (h : OkC now l) {b : Int} (k : b < 0 ∨ MaxT - now < b) : tickV now l b = ((now, l), [], 170) := by unfold tickV; rw [chk_of h, if_neg (by decide), if_pos k]
theorem tick_ok {now : Int} {l : List Du} (h : OkC now l) {b : Int} (k : ¬ (b < 0 ∨ MaxT - now < b)) : tickV now l b = ((now + b, goD (now + b) l), outsV (now + b) l, 0) := by unfold tickV; rw [chk_of h, if_neg (by decide), if_neg k]
theorem goD_len (t : Int) (l : List Du) : (goD t l).length ≤ l.length := List.length_filter_le _ _
theorem outs_len2 (t : Int) (l : List Du) : (outsV t l).length ≤ l.length := by
  unfold outsV outsI
  rw [List.length_map]
  refine Nat.le_trans (List.length_filter_le _ _) ?_
  rw [(srt_perm _).length_eq, List.length_map]
  exact Nat.le_refl _
attribute [local irreducible] Go.Idl.IWP Go.Idl.IOps Go.Idl.Obl Go.Idl.OpG Go.Idl.thenI Go.Idl.inBlockI Go.Idl.LoopU Go.Idl.noGotoI Go.Idl.jumpI
attribute [local go_sem] List.length_set splice2 splice3 splice_dues
end Go.Proofs.Ytnlelckfhlcbgaa

namespace Go.Proofs.Ytnlelckfhlcbgaa
open Go Go.Idl
set_option linter.unusedSimpArgs false
set_option linter.unusedVariables false
set_option maxRecDepth 100000
set_option maxHeartbeats 8000000
theorem cnt_le (id : Int) (l : List Int) (k : Nat) : cntV id (l.take k) ≤ k := Nat.le_trans (List.length_filter_le _ _) (by rw [List.length_take]; omega)
theorem cnt_nil (id : Int) : cntV id [] = 0 := rfl
theorem when_pos {now : Int} {l : List Du} (h : OkC now l) {id : Int} (k : (whenV l id).2 = true) : now < (whenV l id).1 := by
  rcases when_or h.asc id with ⟨d, h1, rfl, h3⟩ | ⟨h1, h3⟩
  · rw [h3]; exact (h.mem h1).2.1
  · rw [h3] at k; cases k
structure Once (now : Int) (D : List Du) (s : Stp) (id a : Int) (now' : Int) (D' : List Du) (outs : List Int) (e : Int) (a' : Int) : Prop where
  ok : OkC now' D'
  cnt : cntV id outs = if 0 < a ∧ a ≤ now' then 1 else 0
  len : outs.length ≤ 64
  when' : whenV D' id = (a', decide (0 < a'))
  not0 : (0 < a ∧ a ≤ now') → s.kind ≠ 0
  at0 : e = 0 → s.kind = 0 → s.id = id → a' = now + s.n ∧ 0 < now + s.n ∧ now + s.n ≤ 1099511627776
  atd : (0 < a ∧ a ≤ now') → a' = 0
  at1 : e = 0 → s.kind = 1 → s.id = id → a' = 0
  atn : ¬ (0 < a ∧ a ≤ now') → ¬ (e = 0 ∧ s.kind = 0 ∧ s.id = id) → ¬ (e = 0 ∧ s.kind = 1 ∧ s.id = id) → a' = a
  ty0 : 0 ≤ a' ∧ a' ≤ 1099511627776
attribute [local irreducible] Go.Idl.IWP Go.Idl.IOps Go.Idl.Obl Go.Idl.OpG Go.Idl.thenI Go.Idl.inBlockI Go.Idl.LoopU Go.Idl.noGotoI Go.Idl.jumpI
attribute [local go_sem] List.length_set splice2 splice3 splice_dues
end Go.Proofs.Ytnlelckfhlcbgaa
