/-
  A clock: what is set changes nobody else; in whatever order two are set.
-/
import Derived.Test.YtnlelckfhlcbgaaExM
namespace Go.Proofs.Ytnlelckfhlcbgaa
open Go Go.Idl
set_option linter.unusedSimpArgs false
set_option linter.unusedVariables false
set_option maxRecDepth 100000
set_option maxHeartbeats 4000000
theorem chk_of {now : Int} {l : List Du} (h : OkC now l) : chkC now l = true := decide_eq_true h
theorem whenC_of {now : Int} {l : List Du} (h : OkC now l) (id : Int) : whenC now l id = whenV l id := by unfold whenC; rw [chk_of h]; rfl
theorem set_or (now : Int) (l : List Du) (id after : Int) :
    (setV now l id after = (l, 110) ∨ setV now l id after = (l, 120) ∨ setV now l id after = (l, 170)) ∨
    (setV now l id after = (insD ⟨id, now + after⟩ l, 0) ∧ OkC now l ∧ (0 ≤ id ∧ id < 64) ∧ ¬ after < 1 ∧ ¬ MaxT - now < after) := by
  unfold setV
  cases hc : chkC now l
  · exact .inl (.inr (.inl (if_pos rfl)))
  · rw [if_neg (by decide)]
    by_cases hn : 0 ≤ id ∧ id < 64
    · rw [if_neg (fun h => h hn)]
      by_cases ha : after < 1 ∨ MaxT - now < after
      · exact .inl (.inr (.inr (if_pos ha)))
      · exact .inr ⟨if_neg ha, of_decide_eq_true hc, hn, fun h => ha (.inl h), fun h => ha (.inr h)⟩
    · exact .inl (.inl (if_pos hn))
theorem same_self (n : Int) (l : List Du) : sameC n n l l = true := decide_eq_true ⟨rfl, rfl⟩
theorem set_len (now : Int) (l : List Du) (id after : Int) : (setV now l id after).1.length ≤ l.length + 1 := by
  rcases set_or now l id after with (h | h | h) | ⟨h, -⟩
  · rw [h]; simp
  · rw [h]; simp
  · rw [h]; simp
  · rw [h, (ins_permD _ l).length_eq, List.length_append]
    have := List.length_filter_le (fun d : Du => !decide (d.id = id)) l
    simp only [List.length_cons, List.length_nil]
    unfold woD; omega
def errV (now id after : Int) : Int := if ¬ (0 ≤ id ∧ id < 64) then 110 else if after < 1 ∨ MaxT - now < after then 170 else 0
def putV (now : Int) (l : List Du) (id after : Int) : List Du := if errV now id after = 0 then insD ⟨id, now + after⟩ l else l
theorem set_put {now : Int} {l : List Du} (h : OkC now l) (id after : Int) : setV now l id after = (putV now l id after, errV now id after) := by
  unfold setV putV errV
  rw [chk_of h, if_neg (by decide)]
  split
  · rfl
  · split <;> rfl
theorem err_ok {now id after : Int} (h : errV now id after = 0) : (0 ≤ id ∧ id < 64) ∧ ¬ after < 1 ∧ ¬ MaxT - now < after := by
  unfold errV at h
  split at h
  · cases h
  · next h1 =>
    split at h
    · cases h
    · next h2 => exact ⟨Decidable.not_not.1 h1, fun k => h2 (.inl k), fun k => h2 (.inr k)⟩
theorem OkC.put {now : Int} {l : List Du} (h : OkC now l) (id after : Int) : OkC now (putV now l id after) := by
  unfold putV
  split
  · next e => obtain ⟨a, b, c⟩ := err_ok e; exact h.ins a b c
  · exact h
theorem put_put {now : Int} {l : List Du} (h : OkC now l) {a n b m : Int} (hab : a ≠ b) : putV now (putV now l a n) b m = putV now (putV now l b m) a n := by
  unfold putV
  split
  · split
    · exact ins_ins h.asc _ _ (Ne.symm hab)
    · rfl
  · rfl
attribute [local irreducible] Go.Idl.IWP Go.Idl.IOps Go.Idl.Obl Go.Idl.OpG Go.Idl.thenI Go.Idl.inBlockI Go.Idl.LoopU Go.Idl.noGotoI Go.Idl.jumpI
attribute [local go_sem] List.length_set splice2 splice3 splice_dues
theorem sets_law (now : Int) (l : List Du) (id after other : Int) (hL : l.length ≤ 9223372036854775807) : Idl.Spec Try.prog 12 [.agg [.i64 now, .fz false (dues l) l.length], .i64 id, .i64 after, .i64 other] [] (Only (.sc (.bool true)) []) := by
  by_cases h100 : l.length ≤ 100
  · have hw := when_spec now l id (by omega)
    have hs := dset_spec now l id after (by omega)
    have hsm := dsame_spec now now l l (by omega)
    rw [same_self] at hsm
    rcases set_or now l id after with (h | h | h) | ⟨h, ho, hid, ha, hb⟩
    · rw [h] at hs
      refine sB Try.func12 Try.ntmps12 ?_
      repeat' (first|refine IOps_nil ?_|refine oS ?_|refine IOps_s rfl rfl ?_|refine oT ?_|refine IOps_s0 rfl ?_|refine oC (π:=[]) (hs:=by first|exact clock_awake|fail) (hx:=?_)|refine oC (π:=[]) (hs:=by first|exact hw|fail) (hx:=?_)|refine oC (π:=[]) (hs:=by first|exact hs|fail) (hx:=?_)|refine oC (π:=[]) (hs:=by first|exact hsm|fail) (hx:=?_)|refine oZ ?_|refine oI ?_|refine thenI_n ?_|refine IWP_seq ?_|refine IWP_region ?_|refine IWP_ct rfl ?_|refine IWP_cf rfl ?_|refine IWP_skip ?_|refine IWP_ret ?_|refine IWP_block ?_|refine inB_n ?_|refine thenI_r ?_|refine thenI_e ?_|refine inB_r ?_|refine inB_hit ?_|refine inB_miss rfl ?_|refine IWP_exit ?_|refine IWP_scope ?_|refine IWP_label ?_|refine noG_n ?_|refine noG_r ?_|refine noG_e ?_|refine jmp_n ?_|refine jmp_r ?_|refine jmp_e ?_|refine jmp_g ?_|refine thenI_g ?_|refine inB_g ?_|refine IWP_goto ?_|refine Loop_n ?_|fail)
      exact pD [] ⟨rfl, rfl⟩
    · rw [h] at hs
      refine sB Try.func12 Try.ntmps12 ?_
      repeat' (first|refine IOps_nil ?_|refine oS ?_|refine IOps_s rfl rfl ?_|refine oT ?_|refine IOps_s0 rfl ?_|refine oC (π:=[]) (hs:=by first|exact clock_awake|fail) (hx:=?_)|refine oC (π:=[]) (hs:=by first|exact hw|fail) (hx:=?_)|refine oC (π:=[]) (hs:=by first|exact hs|fail) (hx:=?_)|refine oC (π:=[]) (hs:=by first|exact hsm|fail) (hx:=?_)|refine oZ ?_|refine oI ?_|refine thenI_n ?_|refine IWP_seq ?_|refine IWP_region ?_|refine IWP_ct rfl ?_|refine IWP_cf rfl ?_|refine IWP_skip ?_|refine IWP_ret ?_|refine IWP_block ?_|refine inB_n ?_|refine thenI_r ?_|refine thenI_e ?_|refine inB_r ?_|refine inB_hit ?_|refine inB_miss rfl ?_|refine IWP_exit ?_|refine IWP_scope ?_|refine IWP_label ?_|refine noG_n ?_|refine noG_r ?_|refine noG_e ?_|refine jmp_n ?_|refine jmp_r ?_|refine jmp_e ?_|refine jmp_g ?_|refine thenI_g ?_|refine inB_g ?_|refine IWP_goto ?_|refine Loop_n ?_|fail)
      exact pD [] ⟨rfl, rfl⟩
    · rw [h] at hs
      refine sB Try.func12 Try.ntmps12 ?_
      repeat' (first|refine IOps_nil ?_|refine oS ?_|refine IOps_s rfl rfl ?_|refine oT ?_|refine IOps_s0 rfl ?_|refine oC (π:=[]) (hs:=by first|exact clock_awake|fail) (hx:=?_)|refine oC (π:=[]) (hs:=by first|exact hw|fail) (hx:=?_)|refine oC (π:=[]) (hs:=by first|exact hs|fail) (hx:=?_)|refine oC (π:=[]) (hs:=by first|exact hsm|fail) (hx:=?_)|refine oZ ?_|refine oI ?_|refine thenI_n ?_|refine IWP_seq ?_|refine IWP_region ?_|refine IWP_ct rfl ?_|refine IWP_cf rfl ?_|refine IWP_skip ?_|refine IWP_ret ?_|refine IWP_block ?_|refine inB_n ?_|refine thenI_r ?_|refine thenI_e ?_|refine inB_r ?_|refine inB_hit ?_|refine inB_miss rfl ?_|refine IWP_exit ?_|refine IWP_scope ?_|refine IWP_label ?_|refine noG_n ?_|refine noG_r ?_|refine noG_e ?_|refine jmp_n ?_|refine jmp_r ?_|refine jmp_e ?_|refine jmp_g ?_|refine thenI_g ?_|refine inB_g ?_|refine IWP_goto ?_|refine Loop_n ?_|fail)
      exact pD [] ⟨rfl, rfl⟩
    · rw [h] at hs
      have hlen : (insD ⟨id, now + after⟩ l).length ≤ 101 := by have := set_len now l id after; rw [h] at this; simp only at this; omega
      have hoM := ho.ins hid ha hb
      have hselfM : whenV (insD ⟨id, now + after⟩ l) id = (now + after, true) := when_ins_self ho.asc ⟨id, now + after⟩
      have h0 := ho.1.1
      have h1 : now ≤ 1099511627776 := ho.1.2
      replace hb : ¬ 1099511627776 - now < after := hb
      have hwM := when_spec now (insD ⟨id, now + after⟩ l) id (by omega)
      have hdM := ddrop_spec now (insD ⟨id, now + after⟩ l) id (by omega)
      rw [show dropV now (insD ⟨id, now + after⟩ l) id = (woD id (insD ⟨id, now + after⟩ l), 0) by unfold dropV; rw [whenC_of hoM, hselfM, if_pos rfl]] at hdM
      rw [whenC_of hoM, hselfM] at hwM
      have hwo := when_spec now l other (by omega)
      have hwoM := when_spec now (insD ⟨id, now + after⟩ l) other (by omega)
      by_cases hoi : other = id
      · cases hz : (whenC now l id).2
        · rw [hz] at hw
          have hsn := dsame_spec now now (woD id (insD ⟨id, now + after⟩ l)) l (by have := woD_len id (insD ⟨id, now + after⟩ l); omega)
          rw [wo_ins ho.asc ⟨id, now + after⟩ (fun d hd he => by
            have e := whenC_of ho id
            rw [← show d.id = id from he, when_mem ho.asc hd] at e
            rw [← show d.id = id from he, e] at hz
            cases hz)] at hsn hdM
          rw [same_self] at hsn
          refine sB Try.func12 Try.ntmps12 ?_
          repeat' (first|refine IOps_nil ?_|refine oS ?_|refine IOps_s rfl rfl ?_|refine oT ?_|refine IOps_s0 rfl ?_|refine oC (π:=[]) (hs:=by first|exact clock_awake|fail) (hx:=?_)|refine oC (π:=[]) (hs:=by first|exact hw|fail) (hx:=?_)|refine oC (π:=[]) (hs:=by first|exact hs|fail) (hx:=?_)|refine oC (π:=[]) (hs:=by first|exact hwM|fail) (hx:=?_)|refine oC (π:=[]) (hs:=by first|exact hdM|fail) (hx:=?_)|refine oC (π:=[]) (hs:=by first|exact hwo|fail) (hx:=?_)|refine oC (π:=[]) (hs:=by first|exact hwoM|fail) (hx:=?_)|refine oC (π:=[]) (hs:=by first|exact hsn|fail) (hx:=?_)|refine oZ ?_|refine oI ?_|refine thenI_n ?_|refine IWP_seq ?_|refine IWP_region ?_|refine IWP_ct rfl ?_|refine IWP_cf rfl ?_|refine IWP_skip ?_|refine IWP_ret ?_|refine IWP_block ?_|refine inB_n ?_|refine thenI_r ?_|refine thenI_e ?_|refine inB_r ?_|refine inB_hit ?_|refine inB_miss rfl ?_|refine IWP_exit ?_|refine IWP_scope ?_|refine IWP_label ?_|refine noG_n ?_|refine noG_r ?_|refine noG_e ?_|refine jmp_n ?_|refine jmp_r ?_|refine jmp_e ?_|refine jmp_g ?_|refine thenI_g ?_|refine inB_g ?_|refine IWP_goto ?_|refine Loop_n ?_|fail)
          exact pD [] ⟨rfl, rfl⟩
        · rw [hz] at hw
          refine sB Try.func12 Try.ntmps12 ?_
          repeat' (first|refine IOps_nil ?_|refine oS ?_|refine IOps_s rfl rfl ?_|refine oT ?_|refine IOps_s0 rfl ?_|refine oC (π:=[]) (hs:=by first|exact clock_awake|fail) (hx:=?_)|refine oC (π:=[]) (hs:=by first|exact hw|fail) (hx:=?_)|refine oC (π:=[]) (hs:=by first|exact hs|fail) (hx:=?_)|refine oC (π:=[]) (hs:=by first|exact hwM|fail) (hx:=?_)|refine oC (π:=[]) (hs:=by first|exact hdM|fail) (hx:=?_)|refine oC (π:=[]) (hs:=by first|exact hwo|fail) (hx:=?_)|refine oC (π:=[]) (hs:=by first|exact hwoM|fail) (hx:=?_)|refine oZ ?_|refine oI ?_|refine thenI_n ?_|refine IWP_seq ?_|refine IWP_region ?_|refine IWP_ct rfl ?_|refine IWP_cf rfl ?_|refine IWP_skip ?_|refine IWP_ret ?_|refine IWP_block ?_|refine inB_n ?_|refine thenI_r ?_|refine thenI_e ?_|refine inB_r ?_|refine inB_hit ?_|refine inB_miss rfl ?_|refine IWP_exit ?_|refine IWP_scope ?_|refine IWP_label ?_|refine noG_n ?_|refine noG_r ?_|refine noG_e ?_|refine jmp_n ?_|refine jmp_r ?_|refine jmp_e ?_|refine jmp_g ?_|refine thenI_g ?_|refine inB_g ?_|refine IWP_goto ?_|refine Loop_n ?_|fail)
          exact pD [] ⟨rfl, rfl⟩
      · have hoe : whenC now (insD ⟨id, now + after⟩ l) other = whenC now l other := by rw [whenC_of hoM, whenC_of ho, when_ins_ne ho.asc ⟨id, now + after⟩ hoi]
        rw [hoe] at hwoM
        generalize whenC now l other = w at hwo hwoM
        obtain ⟨w1, w2⟩ := w
        cases w2
        · cases hz : (whenC now l id).2
          · rw [hz] at hw
            have hsn := dsame_spec now now (woD id (insD ⟨id, now + after⟩ l)) l (by have := woD_len id (insD ⟨id, now + after⟩ l); omega)
            rw [wo_ins ho.asc ⟨id, now + after⟩ (fun d hd he => by
              have e := whenC_of ho id
              rw [← show d.id = id from he, when_mem ho.asc hd] at e
              rw [← show d.id = id from he, e] at hz
              cases hz)] at hsn hdM
            rw [same_self] at hsn
            refine sB Try.func12 Try.ntmps12 ?_
            repeat' (first|refine IOps_nil ?_|refine oS ?_|refine IOps_s rfl rfl ?_|refine oT ?_|refine IOps_s0 rfl ?_|refine oC (π:=[]) (hs:=by first|exact clock_awake|fail) (hx:=?_)|refine oC (π:=[]) (hs:=by first|exact hw|fail) (hx:=?_)|refine oC (π:=[]) (hs:=by first|exact hs|fail) (hx:=?_)|refine oC (π:=[]) (hs:=by first|exact hwM|fail) (hx:=?_)|refine oC (π:=[]) (hs:=by first|exact hdM|fail) (hx:=?_)|refine oC (π:=[]) (hs:=by first|exact hwo|fail) (hx:=?_)|refine oC (π:=[]) (hs:=by first|exact hwoM|fail) (hx:=?_)|refine oC (π:=[]) (hs:=by first|exact hsn|fail) (hx:=?_)|refine oZ ?_|refine oI ?_|refine thenI_n ?_|refine IWP_seq ?_|refine IWP_region ?_|refine IWP_ct rfl ?_|refine IWP_cf rfl ?_|refine IWP_skip ?_|refine IWP_ret ?_|refine IWP_block ?_|refine inB_n ?_|refine thenI_r ?_|refine thenI_e ?_|refine inB_r ?_|refine inB_hit ?_|refine inB_miss rfl ?_|refine IWP_exit ?_|refine IWP_scope ?_|refine IWP_label ?_|refine noG_n ?_|refine noG_r ?_|refine noG_e ?_|refine jmp_n ?_|refine jmp_r ?_|refine jmp_e ?_|refine jmp_g ?_|refine thenI_g ?_|refine inB_g ?_|refine IWP_goto ?_|refine Loop_n ?_|fail)
            exact pD [] ⟨rfl, rfl⟩
          · rw [hz] at hw
            refine sB Try.func12 Try.ntmps12 ?_
            repeat' (first|refine IOps_nil ?_|refine oS ?_|refine IOps_s rfl rfl ?_|refine oT ?_|refine IOps_s0 rfl ?_|refine oC (π:=[]) (hs:=by first|exact clock_awake|fail) (hx:=?_)|refine oC (π:=[]) (hs:=by first|exact hw|fail) (hx:=?_)|refine oC (π:=[]) (hs:=by first|exact hs|fail) (hx:=?_)|refine oC (π:=[]) (hs:=by first|exact hwM|fail) (hx:=?_)|refine oC (π:=[]) (hs:=by first|exact hdM|fail) (hx:=?_)|refine oC (π:=[]) (hs:=by first|exact hwo|fail) (hx:=?_)|refine oC (π:=[]) (hs:=by first|exact hwoM|fail) (hx:=?_)|refine oZ ?_|refine oI ?_|refine thenI_n ?_|refine IWP_seq ?_|refine IWP_region ?_|refine IWP_ct rfl ?_|refine IWP_cf rfl ?_|refine IWP_skip ?_|refine IWP_ret ?_|refine IWP_block ?_|refine inB_n ?_|refine thenI_r ?_|refine thenI_e ?_|refine inB_r ?_|refine inB_hit ?_|refine inB_miss rfl ?_|refine IWP_exit ?_|refine IWP_scope ?_|refine IWP_label ?_|refine noG_n ?_|refine noG_r ?_|refine noG_e ?_|refine jmp_n ?_|refine jmp_r ?_|refine jmp_e ?_|refine jmp_g ?_|refine thenI_g ?_|refine inB_g ?_|refine IWP_goto ?_|refine Loop_n ?_|fail)
            exact pD [] ⟨rfl, rfl⟩
        · cases hz : (whenC now l id).2
          · rw [hz] at hw
            have hsn := dsame_spec now now (woD id (insD ⟨id, now + after⟩ l)) l (by have := woD_len id (insD ⟨id, now + after⟩ l); omega)
            rw [wo_ins ho.asc ⟨id, now + after⟩ (fun d hd he => by
              have e := whenC_of ho id
              rw [← show d.id = id from he, when_mem ho.asc hd] at e
              rw [← show d.id = id from he, e] at hz
              cases hz)] at hsn hdM
            rw [same_self] at hsn
            refine sB Try.func12 Try.ntmps12 ?_
            repeat' (first|refine IOps_nil ?_|refine oS ?_|refine IOps_s rfl rfl ?_|refine oT ?_|refine IOps_s0 rfl ?_|refine oC (π:=[]) (hs:=by first|exact clock_awake|fail) (hx:=?_)|refine oC (π:=[]) (hs:=by first|exact hw|fail) (hx:=?_)|refine oC (π:=[]) (hs:=by first|exact hs|fail) (hx:=?_)|refine oC (π:=[]) (hs:=by first|exact hwM|fail) (hx:=?_)|refine oC (π:=[]) (hs:=by first|exact hdM|fail) (hx:=?_)|refine oC (π:=[]) (hs:=by first|exact hwo|fail) (hx:=?_)|refine oC (π:=[]) (hs:=by first|exact hwoM|fail) (hx:=?_)|refine oC (π:=[]) (hs:=by first|exact hsn|fail) (hx:=?_)|refine oZ ?_|refine oI ?_|refine thenI_n ?_|refine IWP_seq ?_|refine IWP_region ?_|refine IWP_ct rfl ?_|refine IWP_cf rfl ?_|refine IWP_skip ?_|refine IWP_ret ?_|refine IWP_block ?_|refine inB_n ?_|refine thenI_r ?_|refine thenI_e ?_|refine inB_r ?_|refine inB_hit ?_|refine inB_miss rfl ?_|refine IWP_exit ?_|refine IWP_scope ?_|refine IWP_label ?_|refine noG_n ?_|refine noG_r ?_|refine noG_e ?_|refine jmp_n ?_|refine jmp_r ?_|refine jmp_e ?_|refine jmp_g ?_|refine thenI_g ?_|refine inB_g ?_|refine IWP_goto ?_|refine Loop_n ?_|fail)
            exact pD [] ⟨rfl, rfl⟩
          · rw [hz] at hw
            refine sB Try.func12 Try.ntmps12 ?_
            repeat' (first|refine IOps_nil ?_|refine oS ?_|refine IOps_s rfl rfl ?_|refine oT ?_|refine IOps_s0 rfl ?_|refine oC (π:=[]) (hs:=by first|exact clock_awake|fail) (hx:=?_)|refine oC (π:=[]) (hs:=by first|exact hw|fail) (hx:=?_)|refine oC (π:=[]) (hs:=by first|exact hs|fail) (hx:=?_)|refine oC (π:=[]) (hs:=by first|exact hwM|fail) (hx:=?_)|refine oC (π:=[]) (hs:=by first|exact hdM|fail) (hx:=?_)|refine oC (π:=[]) (hs:=by first|exact hwo|fail) (hx:=?_)|refine oC (π:=[]) (hs:=by first|exact hwoM|fail) (hx:=?_)|refine oZ ?_|refine oI ?_|refine thenI_n ?_|refine IWP_seq ?_|refine IWP_region ?_|refine IWP_ct rfl ?_|refine IWP_cf rfl ?_|refine IWP_skip ?_|refine IWP_ret ?_|refine IWP_block ?_|refine inB_n ?_|refine thenI_r ?_|refine thenI_e ?_|refine inB_r ?_|refine inB_hit ?_|refine inB_miss rfl ?_|refine IWP_exit ?_|refine IWP_scope ?_|refine IWP_label ?_|refine noG_n ?_|refine noG_r ?_|refine noG_e ?_|refine jmp_n ?_|refine jmp_r ?_|refine jmp_e ?_|refine jmp_g ?_|refine thenI_g ?_|refine inB_g ?_|refine IWP_goto ?_|refine Loop_n ?_|fail)
            exact pD [] ⟨rfl, rfl⟩
  · refine sB Try.func12 Try.ntmps12 ?_
    repeat' (first|refine IOps_nil ?_|refine oS ?_|refine IOps_s rfl rfl ?_|refine oT ?_|refine IOps_s0 rfl ?_|refine oC (π:=[]) (hs:=by first|exact clock_awake|fail) (hx:=?_)|refine oZ ?_|refine oI ?_|refine thenI_n ?_|refine IWP_seq ?_|refine IWP_region ?_|refine IWP_ct rfl ?_|refine IWP_cf rfl ?_|refine IWP_skip ?_|refine IWP_ret ?_|refine IWP_block ?_|refine inB_n ?_|refine thenI_r ?_|refine thenI_e ?_|refine inB_r ?_|refine inB_hit ?_|refine inB_miss rfl ?_|refine IWP_exit ?_|refine IWP_scope ?_|refine IWP_label ?_|refine noG_n ?_|refine noG_r ?_|refine noG_e ?_|refine jmp_n ?_|refine jmp_r ?_|refine jmp_e ?_|refine jmp_g ?_|refine thenI_g ?_|refine inB_g ?_|refine IWP_goto ?_|refine Loop_n ?_|fail)
    exact pD [] ⟨rfl, rfl⟩
end Go.Proofs.Ytnlelckfhlcbgaa

namespace Go.Proofs.Ytnlelckfhlcbgaa
open Go Go.Idl
set_option linter.unusedSimpArgs false
set_option linter.unusedVariables false
set_option maxRecDepth 100000
set_option maxHeartbeats 4000000
theorem tick_no {now : Int} {l : List Du} (h : chkC now l = false) (b : Int) : tickV now l b = ((now, l), [], 120) := by unfold tickV; rw [h]; rfl
theorem tick_bad {now : Int} {l : List Du} (h : OkC now l) {b : Int} (k : b < 0 ∨ MaxT - now < b) : tickV now l b = ((now, l), [], 170) := by unfold tickV; rw [chk_of h, if_neg (by decide), if_pos k]
theorem tick_ok {now : Int} {l : List Du} (h : OkC now l) {b : Int} (k : ¬ (b < 0 ∨ MaxT - now < b)) : tickV now l b = ((now + b, goD (now + b) l), outsV (now + b) l, 0) := by unfold tickV; rw [chk_of h, if_neg (by decide), if_neg k]
theorem goD_len (t : Int) (l : List Du) : (goD t l).length ≤ l.length := List.length_filter_le _ _
theorem outs_len2 (t : Int) (l : List Du) : (outsV t l).length ≤ l.length := by
  unfold outsV outsI
  rw [List.length_map]
  refine Nat.le_trans (List.length_filter_le _ _) ?_
  rw [(srt_perm _).length_eq, List.length_map]
  exact Nat.le_refl _
attribute [local irreducible] Go.Idl.IWP Go.Idl.IOps Go.Idl.Obl Go.Idl.OpG Go.Idl.thenI Go.Idl.inBlockI Go.Idl.LoopU Go.Idl.noGotoI Go.Idl.jumpI
attribute [local go_sem] List.length_set splice2 splice3 splice_dues
end Go.Proofs.Ytnlelckfhlcbgaa

namespace Go.Proofs.Ytnlelckfhlcbgaa
open Go Go.Idl
set_option linter.unusedSimpArgs false
set_option linter.unusedVariables false
set_option maxRecDepth 100000
set_option maxHeartbeats 8000000
theorem cnt_le (id : Int) (l : List Int) (k : Nat) : cntV id (l.take k) ≤ k := Nat.le_trans (List.length_filter_le _ _) (by rw [List.length_take]; omega)
theorem cnt_nil (id : Int) : cntV id [] = 0 := rfl
theorem when_pos {now : Int} {l : List Du} (h : OkC now l) {id : Int} (k : (whenV l id).2 = true) : now < (whenV l id).1 := by
  rcases when_or h.asc id with ⟨d, h1, rfl, h3⟩ | ⟨h1, h3⟩
  · rw [h3]; exact (h.mem h1).2.1
  · rw [h3] at k; cases k
structure Once (now : Int) (D : List Du) (s : Stp) (id a : Int) (now' : Int) (D' : List Du) (outs : List Int) (e : Int) (a' : Int) : Prop where
  ok : OkC now' D'
  cnt : cntV id outs = if 0 < a ∧ a ≤ now' then 1 else 0
  len : outs.length ≤ 64
  when' : whenV D' id = (a', decide (0 < a'))
  not0 : (0 < a ∧ a ≤ now') → s.kind ≠ 0
  at0 : e = 0 → s.kind = 0 → s.id = id → a' = now + s.n ∧ 0 < now + s.n ∧ now + s.n ≤ 1099511627776
  atd : (0 < a ∧ a ≤ now') → a' = 0
  at1 : e = 0 → s.kind = 1 → s.id = id → a' = 0
  atn : ¬ (0 < a ∧ a ≤ now') → ¬ (e = 0 ∧ s.kind = 0 ∧ s.id = id) → ¬ (e = 0 ∧ s.kind = 1 ∧ s.id = id) → a' = a
  ty0 : 0 ≤ a' ∧ a' ≤ 1099511627776
attribute [local irreducible] Go.Idl.IWP Go.Idl.IOps Go.Idl.Obl Go.Idl.OpG Go.Idl.thenI Go.Idl.inBlockI Go.Idl.LoopU Go.Idl.noGotoI Go.Idl.jumpI
attribute [local go_sem] List.length_set splice2 splice3 splice_dues
end Go.Proofs.Ytnlelckfhlcbgaa
