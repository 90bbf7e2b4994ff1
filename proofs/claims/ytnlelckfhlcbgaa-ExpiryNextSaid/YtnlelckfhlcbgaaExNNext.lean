/-
  A clock: what is set changes nobody else; in whatever order two are set.
-/
import Derived.Test.YtnlelckfhlcbgaaExM
namespace Go.Proofs.Ytnlelckfhlcbgaa
open Go Go.Idl
set_option linter.unusedSimpArgs false
set_option linter.unusedVariables false
set_option maxRecDepth 100000
set_option maxHeartbeats 4000000
theorem chk_of {now : Int} {l : List Du} (h : OkC now l) : chkC now l = true := decide_eq_true h
theorem whenC_of {now : Int} {l : List Du} (h : OkC now l) (id : Int) : whenC now l id = whenV l id := by unfold whenC; rw [chk_of h]; rfl
theorem set_or (now : Int) (l : List Du) (id after : Int) :
    (setV now l id after = (l, 110) ∨ setV now l id after = (l, 120) ∨ setV now l id after = (l, 170)) ∨
    (setV now l id after = (insD ⟨id, now + after⟩ l, 0) ∧ OkC now l ∧ (0 ≤ id ∧ id < 64) ∧ ¬ after < 1 ∧ ¬ MaxT - now < after) := by
  unfold setV
  cases hc : chkC now l
  · exact .inl (.inr (.inl (if_pos rfl)))
  · rw [if_neg (by decide)]
    by_cases hn : 0 ≤ id ∧ id < 64
    · rw [if_neg (fun h => h hn)]
      by_cases ha : after < 1 ∨ MaxT - now < after
      · exact .inl (.inr (.inr (if_pos ha)))
      · exact .inr ⟨if_neg ha, of_decide_eq_true hc, hn, fun h => ha (.inl h), fun h => ha (.inr h)⟩
    · exact .inl (.inl (if_pos hn))
theorem same_self (n : Int) (l : List Du) : sameC n n l l = true := decide_eq_true ⟨rfl, rfl⟩
theorem set_len (now : Int) (l : List Du) (id after : Int) : (setV now l id after).1.length ≤ l.length + 1 := by
  rcases set_or now l id after with (h | h | h) | ⟨h, -⟩
  · rw [h]; simp
  · rw [h]; simp
  · rw [h]; simp
  · rw [h, (ins_permD _ l).length_eq, List.length_append]
    have := List.length_filter_le (fun d : Du => !decide (d.id = id)) l
    simp only [List.length_cons, List.length_nil]
    unfold woD; omega
def errV (now id after : Int) : Int := if ¬ (0 ≤ id ∧ id < 64) then 110 else if after < 1 ∨ MaxT - now < after then 170 else 0
def putV (now : Int) (l : List Du) (id after : Int) : List Du := if errV now id after = 0 then insD ⟨id, now + after⟩ l else l
theorem set_put {now : Int} {l : List Du} (h : OkC now l) (id after : Int) : setV now l id after = (putV now l id after, errV now id after) := by
  unfold setV putV errV
  rw [chk_of h, if_neg (by decide)]
  split
  · rfl
  · split <;> rfl
theorem err_ok {now id after : Int} (h : errV now id after = 0) : (0 ≤ id ∧ id < 64) ∧ ¬ after < 1 ∧ ¬ MaxT - now < after := by
  unfold errV at h
  split at h
  · cases h
  · next h1 =>
    split at h
    · cases h
    · next h2 => exact ⟨Decidable.not_not.1 h1, fun k => h2 (.inl k), fun k => h2 (.inr k)⟩
theorem OkC.put {now : Int} {l : List Du} (h : OkC now l) (id after : Int) : OkC now (putV now l id after) := by
  unfold putV
  split
  · next e => obtain ⟨a, b, c⟩ := err_ok e; exact h.ins a b c
  · exact h
theorem put_put {now : Int} {l : List Du} (h : OkC now l) {a n b m : Int} (hab : a ≠ b) : putV now (putV now l a n) b m = putV now (putV now l b m) a n := by
  unfold putV
  split
  · split
    · exact ins_ins h.asc _ _ (Ne.symm hab)
    · rfl
  · rfl
attribute [local irreducible] Go.Idl.IWP Go.Idl.IOps Go.Idl.Obl Go.Idl.OpG Go.Idl.thenI Go.Idl.inBlockI Go.Idl.LoopU Go.Idl.noGotoI Go.Idl.jumpI
attribute [local go_sem] List.length_set splice2 splice3 splice_dues
end Go.Proofs.Ytnlelckfhlcbgaa

namespace Go.Proofs.Ytnlelckfhlcbgaa
open Go Go.Idl
set_option linter.unusedSimpArgs false
set_option linter.unusedVariables false
set_option maxRecDepth 100000
set_option maxHeartbeats 4000000
theorem tick_no {now : Int} {l : List Du} (h : chkC now l = false) (b : Int) : tickV now l b = ((now, l), [], 120) := by unfold tickV; rw [h]; rfl
theorem tick_bad {now : Int} {l : List Du} (h : OkC now l) {b : Int} (k : b < 0 ∨ MaxT - now < b) : tickV now l b = ((now, l), [], 170) := by unfold tickV; rw [chk_of h, if_neg (by decide), if_pos k]
theorem tick_ok {now : Int} {l : List Du} (h : OkC now l) {b : Int} (k : ¬ (b < 0 ∨ MaxT - now < b)) : tickV now l b = ((now + b, goD (now + b) l), outsV (now + b) l, 0) := by unfold tickV; rw [chk_of h, if_neg (by decide), if_neg k]
theorem goD_len (t : Int) (l : List Du) : (goD t l).length ≤ l.length := List.length_filter_le _ _
theorem outs_len2 (t : Int) (l : List Du) : (outsV t l).length ≤ l.length := by
  unfold outsV outsI
  rw [List.length_map]
  refine Nat.le_trans (List.length_filter_le _ _) ?_
  rw [(srt_perm _).length_eq, List.length_map]
  exact Nat.le_refl _
attribute [local irreducible] Go.Idl.IWP Go.Idl.IOps Go.Idl.Obl Go.Idl.OpG Go.Idl.thenI Go.Idl.inBlockI Go.Idl.LoopU Go.Idl.noGotoI Go.Idl.jumpI
attribute [local go_sem] List.length_set splice2 splice3 splice_dues
theorem next_law (now : Int) (l : List Du) (hL : l.length ≤ 9223372036854775807) : Idl.Spec Try.prog 11 [.agg [.i64 now, .fz false (dues l) l.length]] [] (Only (.sc (.bool true)) []) := by
  by_cases h100 : l.length ≤ 100
  · have hn := dnext_spec now l (by omega)
    have hk := dcheck_spec now l (by omega)
    cases hc : chkC now l
    · rw [show nextC now l = (0, false) by unfold nextC; rw [hc]; rfl] at hn
      rw [hc] at hk
      by_cases he : l.length = 0
      · refine sB Try.func11 Try.ntmps11 ?_
        repeat' (first|refine IOps_nil ?_|refine oS ?_|refine IOps_s rfl rfl ?_|refine oT ?_|refine IOps_s0 rfl ?_|refine oC (π:=[]) (hs:=by first|exact clock_awake|fail) (hx:=?_)|refine oC (π:=[]) (hs:=by first|exact hn|fail) (hx:=?_)|refine oC (π:=[]) (hs:=by first|exact hk|fail) (hx:=?_)|refine oZ ?_|refine oI ?_|refine thenI_n ?_|refine IWP_seq ?_|refine IWP_region ?_|refine IWP_ct rfl ?_|refine IWP_cf rfl ?_|refine IWP_skip ?_|refine IWP_ret ?_|refine IWP_block ?_|refine inB_n ?_|refine thenI_r ?_|refine thenI_e ?_|refine inB_r ?_|refine inB_hit ?_|refine inB_miss rfl ?_|refine IWP_exit ?_|refine IWP_scope ?_|refine IWP_label ?_|refine noG_n ?_|refine noG_r ?_|refine noG_e ?_|refine jmp_n ?_|refine jmp_r ?_|refine jmp_e ?_|refine jmp_g ?_|refine thenI_g ?_|refine inB_g ?_|refine IWP_goto ?_|refine Loop_n ?_|refine oD (id:=12) W11_12 [] O11_12 [_,_,_,_,_,_,_,_,_,_,_] [_] rfl (by repeat' (first|exact trivial|refine And.intro ?_ ?_|exact bS|exact bX|exact bZ|exact bI|exact bC (π:=[]) (hs:=by first|exact clock_awake|fail)|exact bC (π:=[]) (hs:=by first|exact hn|fail)|exact bC (π:=[]) (hs:=by first|exact hk|fail)|fail)) ?_|refine oD (id:=13) W11_13 [] O11_13 [_,_,_,_,_,_,_,_,_,_,_,_,_,_,_,_,_,_,_,_,_,_,_] [_] rfl (by repeat' (first|exact trivial|refine And.intro ?_ ?_|exact bS|exact bX|exact bZ|exact bI|exact bC (π:=[]) (hs:=by first|exact clock_awake|fail)|exact bC (π:=[]) (hs:=by first|exact hn|fail)|exact bC (π:=[]) (hs:=by first|exact hk|fail)|fail)) ?_|fail)
        exact pD [] ⟨rfl, rfl⟩
      · refine sB Try.func11 Try.ntmps11 ?_
        repeat' (first|refine IOps_nil ?_|refine oS ?_|refine IOps_s rfl rfl ?_|refine oT ?_|refine IOps_s0 rfl ?_|refine oC (π:=[]) (hs:=by first|exact clock_awake|fail) (hx:=?_)|refine oC (π:=[]) (hs:=by first|exact hn|fail) (hx:=?_)|refine oC (π:=[]) (hs:=by first|exact hk|fail) (hx:=?_)|refine oZ ?_|refine oI ?_|refine thenI_n ?_|refine IWP_seq ?_|refine IWP_region ?_|refine IWP_ct rfl ?_|refine IWP_cf rfl ?_|refine IWP_skip ?_|refine IWP_ret ?_|refine IWP_block ?_|refine inB_n ?_|refine thenI_r ?_|refine thenI_e ?_|refine inB_r ?_|refine inB_hit ?_|refine inB_miss rfl ?_|refine IWP_exit ?_|refine IWP_scope ?_|refine IWP_label ?_|refine noG_n ?_|refine noG_r ?_|refine noG_e ?_|refine jmp_n ?_|refine jmp_r ?_|refine jmp_e ?_|refine jmp_g ?_|refine thenI_g ?_|refine inB_g ?_|refine IWP_goto ?_|refine Loop_n ?_|refine oD (id:=12) W11_12 [] O11_12 [_,_,_,_,_,_,_,_,_,_,_] [_] rfl (by repeat' (first|exact trivial|refine And.intro ?_ ?_|exact bS|exact bX|exact bZ|exact bI|exact bC (π:=[]) (hs:=by first|exact clock_awake|fail)|exact bC (π:=[]) (hs:=by first|exact hn|fail)|exact bC (π:=[]) (hs:=by first|exact hk|fail)|fail)) ?_|refine oD (id:=13) W11_13 [] O11_13 [_,_,_,_,_,_,_,_,_,_,_,_,_,_,_,_,_,_,_,_,_,_,_] [_] rfl (by repeat' (first|exact trivial|refine And.intro ?_ ?_|exact bS|exact bX|exact bZ|exact bI|exact bC (π:=[]) (hs:=by first|exact clock_awake|fail)|exact bC (π:=[]) (hs:=by first|exact hn|fail)|exact bC (π:=[]) (hs:=by first|exact hk|fail)|fail)) ?_|fail)
        exact pD [] ⟨rfl, rfl⟩
    · rw [show nextC now l = nextV l by unfold nextC; rw [hc]; rfl] at hn
      have ho : OkC now l := of_decide_eq_true hc
      have h0 := ho.1.1
      have h1 : now ≤ 1099511627776 := ho.1.2
      rcases next_or l with ⟨t, ht⟩ | ht
      · rw [ht] at hn
        obtain ⟨⟨n1, n2⟩, n3, ⟨d0, n4, n5⟩, n6⟩ := next_some ho ht
        replace n2 : t ≤ 1099511627776 := n2
        have t1 := dtick_spec now l (t - now - 1) (by omega)
        rw [tick_ok ho (show ¬ (t - now - 1 < 0 ∨ MaxT - now < t - now - 1) by show ¬ (t - now - 1 < 0 ∨ 1099511627776 - now < t - now - 1); omega), show now + (t - now - 1) = t - 1 by omega, go_before n3, outs_before n3] at t1
        have o1 : OkC (t - 1) l := by
          have := ho.go (b := t - now - 1) (by omega) (by show ¬ 1099511627776 - now < t - now - 1; omega)
          rwa [show now + (t - now - 1) = t - 1 by omega, go_before n3] at this
        have t2 := dtick_spec (t - 1) l 1 (by omega)
        rw [tick_ok o1 (show ¬ ((1 : Int) < 0 ∨ MaxT - (t - 1) < 1) by show ¬ ((1 : Int) < 0 ∨ 1099511627776 - (t - 1) < 1); omega), show t - 1 + 1 = t by omega] at t2
        have hout : ∀ {id : Int}, id ∈ outsV t l → whenV l id = (t, true) := fun h => outs_at ho.asc n3 h
        have hne : 0 < (outsV t l).length := List.length_pos_of_mem (mem_outs.2 ⟨d0, n4, rfl, by omega⟩)
        have hol := outs_len2 t l
        generalize outsV t l = O at *
        generalize goD t l = G at *
        refine sB Try.func11 Try.ntmps11 ?_
        repeat' (first|refine IOps_nil ?_|refine oS ?_|refine IOps_s rfl rfl ?_|refine oT ?_|refine IOps_s0 rfl ?_|refine oC (π:=[]) (hs:=by first|exact clock_awake|fail) (hx:=?_)|refine oC (π:=[]) (hs:=by first|exact hn|fail) (hx:=?_)|refine oC (π:=[]) (hs:=by first|exact hk|fail) (hx:=?_)|refine oC (π:=[]) (hs:=by first|exact t1|fail) (hx:=?_)|refine oC (π:=[]) (hs:=by first|exact t2|fail) (hx:=?_)|refine oZ ?_|refine oI ?_|refine thenI_n ?_|refine IWP_seq ?_|refine IWP_region ?_|refine IWP_ct rfl ?_|refine IWP_cf rfl ?_|refine IWP_skip ?_|refine IWP_ret ?_|refine IWP_block ?_|refine inB_n ?_|refine thenI_r ?_|refine thenI_e ?_|refine inB_r ?_|refine inB_hit ?_|refine inB_miss rfl ?_|refine IWP_exit ?_|refine IWP_scope ?_|refine IWP_label ?_|refine noG_n ?_|refine noG_r ?_|refine noG_e ?_|refine jmp_n ?_|refine jmp_r ?_|refine jmp_e ?_|refine jmp_g ?_|refine thenI_g ?_|refine inB_g ?_|refine IWP_goto ?_|refine Loop_n ?_|refine oD (id:=12) W11_12 [] O11_12 [_,_,_,_,_,_,_,_,_,_,_] [_] rfl (by repeat' (first|exact trivial|refine And.intro ?_ ?_|exact bS|exact bX|exact bZ|exact bI|exact bC (π:=[]) (hs:=by first|exact clock_awake|fail)|exact bC (π:=[]) (hs:=by first|exact hn|fail)|exact bC (π:=[]) (hs:=by first|exact hk|fail)|exact bC (π:=[]) (hs:=by first|exact t1|fail)|exact bC (π:=[]) (hs:=by first|exact t2|fail)|fail)) ?_|refine oD (id:=13) W11_13 [] O11_13 [_,_,_,_,_,_,_,_,_,_,_,_,_,_,_,_,_,_,_,_,_,_,_] [_] rfl (by repeat' (first|exact trivial|refine And.intro ?_ ?_|exact bS|exact bX|exact bZ|exact bI|exact bC (π:=[]) (hs:=by first|exact clock_awake|fail)|exact bC (π:=[]) (hs:=by first|exact hn|fail)|exact bC (π:=[]) (hs:=by first|exact hk|fail)|exact bC (π:=[]) (hs:=by first|exact t1|fail)|exact bC (π:=[]) (hs:=by first|exact t2|fail)|fail)) ?_|fail)
        refine IWP_loop (fun i : Nat => ⟨118, [(1, .ptr 0 0), (2, .sc (.bool false)), (3, .sc (.bool true)), (4, .i64 t), (5, .sc (.bool true)), (7, .fz true (ints []) 0), (8, .i64 0), (10, .fz true (ints O) O.length), (11, .i64 0), (12, .i64 i)], [.box [.i64 now, .fz false (dues l) l.length]]⟩) (fun i => i ≤ O.length) (fun i => O.length - i) 0 (lP [0]) (Nat.zero_le _) ?_
        rintro i hi
        by_cases h : i < O.length
        · have hwi := when_spec now l (O.getD i default) (by omega)
          rw [whenC_of ho, hout (by rw [List.getD_eq_getElem?_getD, List.getElem?_eq_getElem h]; exact List.getElem_mem h)] at hwi
          by_cases hi0 : 0 < i
          · have hlt : O.getD (i - 1) 0 < O.getD i 0 := by
              rw [List.pairwise_iff_getElem] at n6
              have := n6 (i - 1) i (by omega) h (by omega)
              simpa [List.getD_eq_getElem?_getD, h, show i - 1 < O.length by omega] using this
            repeat' (first|refine IOps_nil ?_|refine oS ?_|refine IOps_s rfl rfl ?_|refine oT ?_|refine IOps_s0 rfl ?_|refine oC (π:=[]) (hs:=by first|exact hwi|fail) (hx:=?_)|refine oZ ?_|refine oI ?_|refine thenI_n ?_|refine IWP_seq ?_|refine IWP_region ?_|refine IWP_ct rfl ?_|refine IWP_cf rfl ?_|refine IWP_skip ?_|refine IWP_ret ?_|refine IWP_block ?_|refine inB_n ?_|refine thenI_r ?_|refine thenI_e ?_|refine inB_r ?_|refine inB_hit ?_|refine inB_miss rfl ?_|refine IWP_exit ?_|refine IWP_scope ?_|refine IWP_label ?_|refine noG_n ?_|refine noG_r ?_|refine noG_e ?_|refine jmp_n ?_|refine jmp_r ?_|refine jmp_e ?_|refine jmp_g ?_|refine thenI_g ?_|refine inB_g ?_|refine IWP_goto ?_|refine Loop_n ?_|refine oD (id:=12) W11_12 [] O11_12 [_,_,_,_,_,_,_,_,_,_,_] [_] rfl (by repeat' (first|exact trivial|refine And.intro ?_ ?_|exact bS|exact bX|exact bZ|exact bI|exact bC (π:=[]) (hs:=by first|exact hwi|fail)|fail)) ?_|refine oD (id:=13) W11_13 [] O11_13 [_,_,_,_,_,_,_,_,_,_,_,_,_,_,_,_,_,_,_,_,_,_,_] [_] rfl (by repeat' (first|exact trivial|refine And.intro ?_ ?_|exact bS|exact bX|exact bZ|exact bI|exact bC (π:=[]) (hs:=by first|exact hwi|fail)|fail)) ?_|fail)
            exact ⟨i + 1, by omega, by omega, lP [0]⟩
          · repeat' (first|refine IOps_nil ?_|refine oS ?_|refine IOps_s rfl rfl ?_|refine oT ?_|refine IOps_s0 rfl ?_|refine oC (π:=[]) (hs:=by first|exact hwi|fail) (hx:=?_)|refine oZ ?_|refine oI ?_|refine thenI_n ?_|refine IWP_seq ?_|refine IWP_region ?_|refine IWP_ct rfl ?_|refine IWP_cf rfl ?_|refine IWP_skip ?_|refine IWP_ret ?_|refine IWP_block ?_|refine inB_n ?_|refine thenI_r ?_|refine thenI_e ?_|refine inB_r ?_|refine inB_hit ?_|refine inB_miss rfl ?_|refine IWP_exit ?_|refine IWP_scope ?_|refine IWP_label ?_|refine noG_n ?_|refine noG_r ?_|refine noG_e ?_|refine jmp_n ?_|refine jmp_r ?_|refine jmp_e ?_|refine jmp_g ?_|refine thenI_g ?_|refine inB_g ?_|refine IWP_goto ?_|refine Loop_n ?_|refine oD (id:=12) W11_12 [] O11_12 [_,_,_,_,_,_,_,_,_,_,_] [_] rfl (by repeat' (first|exact trivial|refine And.intro ?_ ?_|exact bS|exact bX|exact bZ|exact bI|exact bC (π:=[]) (hs:=by first|exact hwi|fail)|fail)) ?_|refine oD (id:=13) W11_13 [] O11_13 [_,_,_,_,_,_,_,_,_,_,_,_,_,_,_,_,_,_,_,_,_,_,_] [_] rfl (by repeat' (first|exact trivial|refine And.intro ?_ ?_|exact bS|exact bX|exact bZ|exact bI|exact bC (π:=[]) (hs:=by first|exact hwi|fail)|fail)) ?_|fail)
            exact ⟨i + 1, by omega, by omega, lP [0]⟩
        · repeat' (first|refine IOps_nil ?_|refine oS ?_|refine IOps_s rfl rfl ?_|refine oT ?_|refine IOps_s0 rfl ?_|refine oZ ?_|refine oI ?_|refine thenI_n ?_|refine IWP_seq ?_|refine IWP_region ?_|refine IWP_ct rfl ?_|refine IWP_cf rfl ?_|refine IWP_skip ?_|refine IWP_ret ?_|refine IWP_block ?_|refine inB_n ?_|refine thenI_r ?_|refine thenI_e ?_|refine inB_r ?_|refine inB_hit ?_|refine inB_miss rfl ?_|refine IWP_exit ?_|refine IWP_scope ?_|refine IWP_label ?_|refine noG_n ?_|refine noG_r ?_|refine noG_e ?_|refine jmp_n ?_|refine jmp_r ?_|refine jmp_e ?_|refine jmp_g ?_|refine thenI_g ?_|refine inB_g ?_|refine IWP_goto ?_|refine Loop_n ?_|refine oD (id:=12) W11_12 [] O11_12 [_,_,_,_,_,_,_,_,_,_,_] [_] rfl (by repeat' (first|exact trivial|refine And.intro ?_ ?_|exact bS|exact bX|exact bZ|exact bI|fail)) ?_|refine oD (id:=13) W11_13 [] O11_13 [_,_,_,_,_,_,_,_,_,_,_,_,_,_,_,_,_,_,_,_,_,_,_] [_] rfl (by repeat' (first|exact trivial|refine And.intro ?_ ?_|exact bS|exact bX|exact bZ|exact bI|fail)) ?_|fail)
          exact pD [] ⟨rfl, rfl⟩
      · rw [ht] at hn
        have : l.length = 0 := by rw [next_none ht]; rfl
        refine sB Try.func11 Try.ntmps11 ?_
        repeat' (first|refine IOps_nil ?_|refine oS ?_|refine IOps_s rfl rfl ?_|refine oT ?_|refine IOps_s0 rfl ?_|refine oC (π:=[]) (hs:=by first|exact clock_awake|fail) (hx:=?_)|refine oC (π:=[]) (hs:=by first|exact hn|fail) (hx:=?_)|refine oC (π:=[]) (hs:=by first|exact hk|fail) (hx:=?_)|refine oZ ?_|refine oI ?_|refine thenI_n ?_|refine IWP_seq ?_|refine IWP_region ?_|refine IWP_ct rfl ?_|refine IWP_cf rfl ?_|refine IWP_skip ?_|refine IWP_ret ?_|refine IWP_block ?_|refine inB_n ?_|refine thenI_r ?_|refine thenI_e ?_|refine inB_r ?_|refine inB_hit ?_|refine inB_miss rfl ?_|refine IWP_exit ?_|refine IWP_scope ?_|refine IWP_label ?_|refine noG_n ?_|refine noG_r ?_|refine noG_e ?_|refine jmp_n ?_|refine jmp_r ?_|refine jmp_e ?_|refine jmp_g ?_|refine thenI_g ?_|refine inB_g ?_|refine IWP_goto ?_|refine Loop_n ?_|refine oD (id:=12) W11_12 [] O11_12 [_,_,_,_,_,_,_,_,_,_,_] [_] rfl (by repeat' (first|exact trivial|refine And.intro ?_ ?_|exact bS|exact bX|exact bZ|exact bI|exact bC (π:=[]) (hs:=by first|exact clock_awake|fail)|exact bC (π:=[]) (hs:=by first|exact hn|fail)|exact bC (π:=[]) (hs:=by first|exact hk|fail)|fail)) ?_|refine oD (id:=13) W11_13 [] O11_13 [_,_,_,_,_,_,_,_,_,_,_,_,_,_,_,_,_,_,_,_,_,_,_] [_] rfl (by repeat' (first|exact trivial|refine And.intro ?_ ?_|exact bS|exact bX|exact bZ|exact bI|exact bC (π:=[]) (hs:=by first|exact clock_awake|fail)|exact bC (π:=[]) (hs:=by first|exact hn|fail)|exact bC (π:=[]) (hs:=by first|exact hk|fail)|fail)) ?_|fail)
        exact pD [] ⟨rfl, rfl⟩
  · refine sB Try.func11 Try.ntmps11 ?_
    repeat' (first|refine IOps_nil ?_|refine oS ?_|refine IOps_s rfl rfl ?_|refine oT ?_|refine IOps_s0 rfl ?_|refine oC (π:=[]) (hs:=by first|exact clock_awake|fail) (hx:=?_)|refine oZ ?_|refine oI ?_|refine thenI_n ?_|refine IWP_seq ?_|refine IWP_region ?_|refine IWP_ct rfl ?_|refine IWP_cf rfl ?_|refine IWP_skip ?_|refine IWP_ret ?_|refine IWP_block ?_|refine inB_n ?_|refine thenI_r ?_|refine thenI_e ?_|refine inB_r ?_|refine inB_hit ?_|refine inB_miss rfl ?_|refine IWP_exit ?_|refine IWP_scope ?_|refine IWP_label ?_|refine noG_n ?_|refine noG_r ?_|refine noG_e ?_|refine jmp_n ?_|refine jmp_r ?_|refine jmp_e ?_|refine jmp_g ?_|refine thenI_g ?_|refine inB_g ?_|refine IWP_goto ?_|refine Loop_n ?_|refine oD (id:=12) W11_12 [] O11_12 [_,_,_,_,_,_,_,_,_,_,_] [_] rfl (by repeat' (first|exact trivial|refine And.intro ?_ ?_|exact bS|exact bX|exact bZ|exact bI|exact bC (π:=[]) (hs:=by first|exact clock_awake|fail)|fail)) ?_|refine oD (id:=13) W11_13 [] O11_13 [_,_,_,_,_,_,_,_,_,_,_,_,_,_,_,_,_,_,_,_,_,_,_] [_] rfl (by repeat' (first|exact trivial|refine And.intro ?_ ?_|exact bS|exact bX|exact bZ|exact bI|exact bC (π:=[]) (hs:=by first|exact clock_awake|fail)|fail)) ?_|fail)
    exact pD [] ⟨rfl, rfl⟩
end Go.Proofs.Ytnlelckfhlcbgaa

namespace Go.Proofs.Ytnlelckfhlcbgaa
open Go Go.Idl
set_option linter.unusedSimpArgs false
set_option linter.unusedVariables false
set_option maxRecDepth 100000
set_option maxHeartbeats 8000000
theorem cnt_le (id : Int) (l : List Int) (k : Nat) : cntV id (l.take k) ≤ k := Nat.le_trans (List.length_filter_le _ _) (by rw [List.length_take]; omega)
theorem cnt_nil (id : Int) : cntV id [] = 0 := rfl
theorem when_pos {now : Int} {l : List Du} (h : OkC now l) {id : Int} (k : (whenV l id).2 = true) : now < (whenV l id).1 := by
  rcases when_or h.asc id with ⟨d, h1, rfl, h3⟩ | ⟨h1, h3⟩
  · rw [h3]; exact (h.mem h1).2.1
  · rw [h3] at k; cases k
structure Once (now : Int) (D : List Du) (s : Stp) (id a : Int) (now' : Int) (D' : List Du) (outs : List Int) (e : Int) (a' : Int) : Prop where
  ok : OkC now' D'
  cnt : cntV id outs = if 0 < a ∧ a ≤ now' then 1 else 0
  len : outs.length ≤ 64
  when' : whenV D' id = (a', decide (0 < a'))
  not0 : (0 < a ∧ a ≤ now') → s.kind ≠ 0
  at0 : e = 0 → s.kind = 0 → s.id = id → a' = now + s.n ∧ 0 < now + s.n ∧ now + s.n ≤ 1099511627776
  atd : (0 < a ∧ a ≤ now') → a' = 0
  at1 : e = 0 → s.kind = 1 → s.id = id → a' = 0
  atn : ¬ (0 < a ∧ a ≤ now') → ¬ (e = 0 ∧ s.kind = 0 ∧ s.id = id) → ¬ (e = 0 ∧ s.kind = 1 ∧ s.id = id) → a' = a
  ty0 : 0 ≤ a' ∧ a' ≤ 1099511627776
attribute [local irreducible] Go.Idl.IWP Go.Idl.IOps Go.Idl.Obl Go.Idl.OpG Go.Idl.thenI Go.Idl.inBlockI Go.Idl.LoopU Go.Idl.noGotoI Go.Idl.jumpI
attribute [local go_sem] List.length_set splice2 splice3 splice_dues
end Go.Proofs.Ytnlelckfhlcbgaa
