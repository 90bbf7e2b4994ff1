/-
  A clock: whether it may be, and what is due.
-/
import Derived.Test.YtnlelckfhlcbgaaHeT
import Derived.Test.YtnlelckfhlcbgaaIdlDt
import Derived.Test.YtnlelckfhlcbgaaDuM
import Derived.Test.YtnlelckfhlcbgaaIdlFa
import Derived.Test.YtnlelckfhlcbgaaIdlTr
import Derived.Test.YtnlelckfhlcbgaaDueK
namespace Go.Proofs.Ytnlelckfhlcbgaa
open Go Go.Idl
set_option linter.unusedSimpArgs false
set_option linter.unusedVariables false
set_option maxRecDepth 100000
set_option maxHeartbeats 4000000
attribute [local irreducible] Go.Idl.IWP Go.Idl.IOps Go.Idl.Obl Go.Idl.OpG Go.Idl.thenI Go.Idl.inBlockI Go.Idl.LoopU Go.Idl.noGotoI Go.Idl.jumpI
attribute [local go_sem] List.length_set
theorem splice2 {a b c d : IV} : splice [a, b] 0 [c, d] = [c, d] := rfl
theorem splice3 {a b c d e f : IV} : splice [a, b, c] 0 [d, e, f] = [d, e, f] := rfl
theorem splice_dues (L : List Du) : splice (dues (List.replicate L.length default)) 0 (dues L) = dues L := by
  simp [splice, dues_length]
attribute [local go_sem] splice2 splice3 splice_dues
abbrev MaxT : Int := 1099511627776
theorem dcopied_spec (now : Int) (l : List Du) (hL : l.length ≤ 1000000) : Idl.Spec Try.prog 51 [.agg [.i64 now, .fz false (dues l) l.length]] []
    (Only (.agg [.i64 now, .sl 0 0 l.length l.length 2]) [.arr true (dues l)]) := by
  refine sB Try.func51 Try.ntmps51 ?_
  repeat' (first|refine IOps_nil ?_|refine oS ?_|refine IOps_s rfl rfl ?_|refine oT ?_|refine IOps_s0 rfl ?_|refine oZ ?_|refine oI ?_|refine thenI_n ?_|refine IWP_seq ?_|refine IWP_region ?_|refine IWP_ct rfl ?_|refine IWP_cf rfl ?_|refine IWP_skip ?_|refine IWP_ret ?_|refine IWP_block ?_|refine inB_n ?_|refine thenI_r ?_|refine thenI_e ?_|refine inB_r ?_|refine inB_hit ?_|refine inB_miss rfl ?_|refine IWP_exit ?_|refine IWP_scope ?_|refine IWP_label ?_|refine noG_n ?_|refine noG_r ?_|refine noG_e ?_|refine jmp_n ?_|refine jmp_r ?_|refine jmp_e ?_|refine jmp_g ?_|refine thenI_g ?_|refine inB_g ?_|refine IWP_goto ?_|refine Loop_n ?_|refine oDt (id:=1) [[], [0], [], [2], [3, 2], [4, 3, 2], [1, 0, 5, 4, 3, 2], [], [7, 6, 1, 0, 5, 4, 3, 2]] [5, 7, 8] [[], [5], [7], [5, 7], [7, 5], [5, 7, 8], [7, 5, 8]] [(5, [], [false, false, false, false, false, true, true, false, true]), (7, [], [false, false, false, false, false, false, false, true, true]), (7, [5], [false, false, false, false, false, false, false, true, true]), (5, [7], [false, false, false, false, false, true, true, false, true]), (8, [5, 7], [false, false, false, false, false, false, false, false, true]), (8, [7, 5], [false, false, false, false, false, false, false, false, true])] [[5, 7, 8], [7, 5, 8]] [(false, 0, []), (false, 1, []), (false, 2, []), (false, 3, []), (false, 4, []), (true, 5, []), (true, 7, []), (false, 0, [5]), (false, 1, [5]), (false, 6, [5]), (true, 7, [5]), (false, 0, [7]), (false, 1, [7]), (false, 2, [7]), (false, 3, [7]), (false, 4, [7]), (true, 5, [7]), (false, 0, [5, 7]), (false, 1, [5, 7]), (false, 6, [5, 7]), (true, 8, [5, 7]), (false, 0, [7, 5]), (false, 1, [7, 5]), (false, 6, [7, 5]), (true, 8, [7, 5])] [([], [_,_,_,_,_, .any, .any, .any, .any],_), ([5], [_,_,_,_,_,_,_, .any, .any],_), ([7], [_,_,_,_,_, .any, .any,_, .any],_), ([5, 7], [_,_,_,_,_,_,_,_, .any],_), ([7, 5], [_,_,_,_,_,_,_,_, .any],_), ([5, 7, 8], [_,_,_,_,_,_,_,_,_],_), ([7, 5, 8], [_,_,_,_,_,_,_,_,_],_)] [(false, 0, [], [_,_,_,_,_, .any, .any, .any, .any],_, []), (false, 1, [], [_,_,_,_,_, .any, .any, .any, .any],_, []), (false, 2, [], [_,_,_,_,_, .any, .any, .any, .any],_, []), (false, 3, [], [_,_,_,_,_, .any, .any, .any, .any],_, []), (false, 4, [], [_,_,_,_,_, .any, .any, .any, .any],_, []), (true, 5, [], [_,_,_,_,_,_,_, .any, .any],_,_), (true, 7, [], [_,_,_,_,_, .any, .any,_, .any],_,_), (false, 0, [5], [_,_,_,_,_,_,_, .any, .any],_, []), (false, 1, [5], [_,_,_,_,_,_,_, .any, .any],_, []), (false, 6, [5], [_,_,_,_,_,_,_, .any, .any],_, []), (true, 7, [5], [_,_,_,_,_,_,_,_, .any],_,_), (false, 0, [7], [_,_,_,_,_, .any, .any,_, .any],_, []), (false, 1, [7], [_,_,_,_,_, .any, .any,_, .any],_, []), (false, 2, [7], [_,_,_,_,_, .any, .any,_, .any],_, []), (false, 3, [7], [_,_,_,_,_, .any, .any,_, .any],_, []), (false, 4, [7], [_,_,_,_,_, .any, .any,_, .any],_, []), (true, 5, [7], [_,_,_,_,_,_,_,_, .any],_,_), (false, 0, [5, 7], [_,_,_,_,_,_,_,_, .any],_, []), (false, 1, [5, 7], [_,_,_,_,_,_,_,_, .any],_, []), (false, 6, [5, 7], [_,_,_,_,_,_,_,_, .any],_, []), (true, 8, [5, 7], [_,_,_,_,_,_,_,_,_],_,_), (false, 0, [7, 5], [_,_,_,_,_,_,_,_, .any],_, []), (false, 1, [7, 5], [_,_,_,_,_,_,_,_, .any],_, []), (false, 6, [7, 5], [_,_,_,_,_,_,_,_, .any],_, []), (true, 8, [7, 5], [_,_,_,_,_,_,_,_,_],_,_)] [(5, [], [false, false, false, false, false, true, true, false, true], [_,_,_,_,_,_,_, .any, .any],_, [_,_,_,_,_, .any, .any, .any, .any],_), (7, [], [false, false, false, false, false, false, false, true, true], [_,_,_,_,_, .any, .any,_, .any],_, [_,_,_,_,_, .any, .any, .any, .any],_), (7, [5], [false, false, false, false, false, false, false, true, true], [_,_,_,_,_,_,_,_, .any],_, [_,_,_,_,_,_,_, .any, .any],_), (5, [7], [false, false, false, false, false, true, true, false, true], [_,_,_,_,_,_,_,_, .any],_, [_,_,_,_,_, .any, .any,_, .any],_), (8, [5, 7], [false, false, false, false, false, false, false, false, true], [_,_,_,_,_,_,_,_,_],_, [_,_,_,_,_,_,_,_, .any],_), (8, [7, 5], [false, false, false, false, false, false, false, false, true], [_,_,_,_,_,_,_,_,_],_, [_,_,_,_,_,_,_,_, .any],_)] rfl rfl rfl (by repeat' (first|exact trivial|rfl|refine And.intro ?_ ?_)) (by repeat' (first|exact trivial|rfl|refine And.intro ?_ ?_)) (by repeat' (first|exact trivial|refine And.intro ?_ ?_|exact bS|exact bX|exact bZ|exact bI|fail)) ?_|refine eF_c ?_ ?_|exact eF_n|refine eF_e ?_|fail)
  · exact pD [2] ⟨rfl, rfl⟩
  · exact pD [3] ⟨rfl, rfl⟩
theorem dnamed_spec (id : Int) : Idl.Spec Try.prog 50 [.i64 id] [] (Only (.sc (.bool (decide (0 ≤ id ∧ id < 64)))) []) := by
  by_cases h : 0 ≤ id
  · by_cases h' : id < 64
    · rw [show decide (0 ≤ id ∧ id < 64) = true by simp; omega]
      refine sB Try.func50 Try.ntmps50 ?_
      repeat' (first|refine IOps_nil ?_|refine oS ?_|refine IOps_s rfl rfl ?_|refine oT ?_|refine IOps_s0 rfl ?_|refine oZ ?_|refine oI ?_|refine thenI_n ?_|refine IWP_seq ?_|refine IWP_region ?_|refine IWP_ct rfl ?_|refine IWP_cf rfl ?_|refine IWP_skip ?_|refine IWP_ret ?_|refine IWP_block ?_|refine inB_n ?_|refine thenI_r ?_|refine thenI_e ?_|refine inB_r ?_|refine inB_hit ?_|refine inB_miss rfl ?_|refine IWP_exit ?_|refine IWP_scope ?_|refine IWP_label ?_|refine noG_n ?_|refine noG_r ?_|refine noG_e ?_|refine jmp_n ?_|refine jmp_r ?_|refine jmp_e ?_|refine jmp_g ?_|refine thenI_g ?_|refine inB_g ?_|refine IWP_goto ?_|refine Loop_n ?_|fail)
      exact pD [] ⟨rfl, rfl⟩
    · rw [show decide (0 ≤ id ∧ id < 64) = false by simp; omega]
      refine sB Try.func50 Try.ntmps50 ?_
      repeat' (first|refine IOps_nil ?_|refine oS ?_|refine IOps_s rfl rfl ?_|refine oT ?_|refine IOps_s0 rfl ?_|refine oZ ?_|refine oI ?_|refine thenI_n ?_|refine IWP_seq ?_|refine IWP_region ?_|refine IWP_ct rfl ?_|refine IWP_cf rfl ?_|refine IWP_skip ?_|refine IWP_ret ?_|refine IWP_block ?_|refine inB_n ?_|refine thenI_r ?_|refine thenI_e ?_|refine inB_r ?_|refine inB_hit ?_|refine inB_miss rfl ?_|refine IWP_exit ?_|refine IWP_scope ?_|refine IWP_label ?_|refine noG_n ?_|refine noG_r ?_|refine noG_e ?_|refine jmp_n ?_|refine jmp_r ?_|refine jmp_e ?_|refine jmp_g ?_|refine thenI_g ?_|refine inB_g ?_|refine IWP_goto ?_|refine Loop_n ?_|fail)
      exact pD [] ⟨rfl, rfl⟩
  · rw [show decide (0 ≤ id ∧ id < 64) = false by simp; omega]
    refine sB Try.func50 Try.ntmps50 ?_
    repeat' (first|refine IOps_nil ?_|refine oS ?_|refine IOps_s rfl rfl ?_|refine oT ?_|refine IOps_s0 rfl ?_|refine oZ ?_|refine oI ?_|refine thenI_n ?_|refine IWP_seq ?_|refine IWP_region ?_|refine IWP_ct rfl ?_|refine IWP_cf rfl ?_|refine IWP_skip ?_|refine IWP_ret ?_|refine IWP_block ?_|refine inB_n ?_|refine thenI_r ?_|refine thenI_e ?_|refine inB_r ?_|refine inB_hit ?_|refine inB_miss rfl ?_|refine IWP_exit ?_|refine IWP_scope ?_|refine IWP_label ?_|refine noG_n ?_|refine noG_r ?_|refine noG_e ?_|refine jmp_n ?_|refine jmp_r ?_|refine jmp_e ?_|refine jmp_g ?_|refine thenI_g ?_|refine inB_g ?_|refine IWP_goto ?_|refine Loop_n ?_|fail)
    exact pD [] ⟨rfl, rfl⟩
def okD (now : Int) (l : List Du) (i : Nat) : Prop := (0 ≤ (gd l i).id ∧ (gd l i).id < 64) ∧ (0 < i → (gd l (i - 1)).id < (gd l i).id) ∧ now < (gd l i).due ∧ (gd l i).due ≤ MaxT
instance (now : Int) (l : List Du) (i : Nat) : Decidable (okD now l i) := by unfold okD; infer_instance
def OkC (now : Int) (l : List Du) : Prop := (0 ≤ now ∧ now ≤ MaxT) ∧ ∀ i, i < l.length → okD now l i
instance (now : Int) (l : List Du) : Decidable (OkC now l) := by unfold OkC; infer_instance
def chkC (now : Int) (l : List Du) : Bool := decide (OkC now l)
theorem dcheck_spec (now : Int) (l : List Du) (hL : l.length ≤ 1000000) : Idl.Spec Try.prog 34 [.agg [.i64 now, .fz false (dues l) l.length]] [] (Only (.sc (.bool (chkC now l))) []) := by
  by_cases h0 : 0 ≤ now
  · by_cases h1 : now ≤ 1099511627776
    · refine sB Try.func34 Try.ntmps34 ?_
      repeat' (first|refine IOps_nil ?_|refine oS ?_|refine IOps_s rfl rfl ?_|refine oT ?_|refine IOps_s0 rfl ?_|refine oZ ?_|refine oI ?_|refine thenI_n ?_|refine IWP_seq ?_|refine IWP_region ?_|refine IWP_ct rfl ?_|refine IWP_cf rfl ?_|refine IWP_skip ?_|refine IWP_ret ?_|refine IWP_block ?_|refine inB_n ?_|refine thenI_r ?_|refine thenI_e ?_|refine inB_r ?_|refine inB_hit ?_|refine inB_miss rfl ?_|refine IWP_exit ?_|refine IWP_scope ?_|refine IWP_label ?_|refine noG_n ?_|refine noG_r ?_|refine noG_e ?_|refine jmp_n ?_|refine jmp_r ?_|refine jmp_e ?_|refine jmp_g ?_|refine thenI_g ?_|refine inB_g ?_|refine IWP_goto ?_|refine Loop_n ?_|refine oD (id:=6) W34_6 [] O34_6 [_,_,_,_,_,_,_,_,_,_,_,_,_,_,_,_,_,_,_,_] [_] rfl (by repeat' (first|exact trivial|refine And.intro ?_ ?_|exact bS|exact bX|exact bZ|exact bI|fail)) ?_|fail)
      refine IWP_loop (fun i : Nat => ⟨52, [(1, .ptr 0 0), (2, .sc (.bool false)), (14, .fz false (dues l) l.length), (15, .i64 l.length), (16, .i64 i)], [.box [.i64 now, .fz false (dues l) l.length]]⟩) (fun i => i ≤ l.length ∧ ∀ j, j < i → okD now l j) (fun i => l.length - i) 0 (lP [0]) ⟨Nat.zero_le _, fun j h => by omega⟩ ?_
      rintro i ⟨hi, hok⟩
      by_cases hi2 : i < l.length
      · have hnm := dnamed_spec (l.getD i default).id
        by_cases hn : 0 ≤ (l.getD i default).id ∧ (l.getD i default).id < 64
        · rw [decide_eq_true hn] at hnm
          by_cases hi0 : 0 < i
          · by_cases hp : (l.getD (i - 1) default).id < (l.getD i default).id
            · by_cases hb : now < (l.getD i default).due
              · by_cases hc : (l.getD i default).due ≤ 1099511627776
                · repeat' (first|refine IOps_nil ?_|refine oS ?_|refine IOps_s rfl rfl ?_|refine oT ?_|refine IOps_s0 rfl ?_|refine oC (π:=[]) (hs:=by first|exact hnm|fail) (hx:=?_)|refine oZ ?_|refine oI ?_|refine thenI_n ?_|refine IWP_seq ?_|refine IWP_region ?_|refine IWP_ct rfl ?_|refine IWP_cf rfl ?_|refine IWP_skip ?_|refine IWP_ret ?_|refine IWP_block ?_|refine inB_n ?_|refine thenI_r ?_|refine thenI_e ?_|refine inB_r ?_|refine inB_hit ?_|refine inB_miss rfl ?_|refine IWP_exit ?_|refine IWP_scope ?_|refine IWP_label ?_|refine noG_n ?_|refine noG_r ?_|refine noG_e ?_|refine jmp_n ?_|refine jmp_r ?_|refine jmp_e ?_|refine jmp_g ?_|refine thenI_g ?_|refine inB_g ?_|refine IWP_goto ?_|refine Loop_n ?_|refine oD (id:=6) W34_6 [] O34_6 [_,_,_,_,_,_,_,_,_,_,_,_,_,_,_,_,_,_,_,_] [_] rfl (by repeat' (first|exact trivial|refine And.intro ?_ ?_|exact bS|exact bX|exact bZ|exact bI|exact bC (π:=[]) (hs:=by first|exact hnm|fail)|fail)) ?_|fail)
                  exact ⟨i + 1, ⟨hi2, fun j hj => by
                    rcases Nat.lt_succ_iff_lt_or_eq.1 hj with h | rfl
                    · exact hok j h
                    · exact ⟨⟨hn.1, hn.2⟩, fun _ => hp, hb, hc⟩⟩, by omega, lP [0]⟩
                · rw [show chkC now l = false from decide_eq_false fun h => hc (h.2 i hi2).2.2.2]
                  repeat' (first|refine IOps_nil ?_|refine oS ?_|refine IOps_s rfl rfl ?_|refine oT ?_|refine IOps_s0 rfl ?_|refine oC (π:=[]) (hs:=by first|exact hnm|fail) (hx:=?_)|refine oZ ?_|refine oI ?_|refine thenI_n ?_|refine IWP_seq ?_|refine IWP_region ?_|refine IWP_ct rfl ?_|refine IWP_cf rfl ?_|refine IWP_skip ?_|refine IWP_ret ?_|refine IWP_block ?_|refine inB_n ?_|refine thenI_r ?_|refine thenI_e ?_|refine inB_r ?_|refine inB_hit ?_|refine inB_miss rfl ?_|refine IWP_exit ?_|refine IWP_scope ?_|refine IWP_label ?_|refine noG_n ?_|refine noG_r ?_|refine noG_e ?_|refine jmp_n ?_|refine jmp_r ?_|refine jmp_e ?_|refine jmp_g ?_|refine thenI_g ?_|refine inB_g ?_|refine IWP_goto ?_|refine Loop_n ?_|refine oD (id:=6) W34_6 [] O34_6 [_,_,_,_,_,_,_,_,_,_,_,_,_,_,_,_,_,_,_,_] [_] rfl (by repeat' (first|exact trivial|refine And.intro ?_ ?_|exact bS|exact bX|exact bZ|exact bI|exact bC (π:=[]) (hs:=by first|exact hnm|fail)|fail)) ?_|fail)
                  exact pD [] ⟨rfl, rfl⟩
              · rw [show chkC now l = false from decide_eq_false fun h => hb (h.2 i hi2).2.2.1]
                repeat' (first|refine IOps_nil ?_|refine oS ?_|refine IOps_s rfl rfl ?_|refine oT ?_|refine IOps_s0 rfl ?_|refine oC (π:=[]) (hs:=by first|exact hnm|fail) (hx:=?_)|refine oZ ?_|refine oI ?_|refine thenI_n ?_|refine IWP_seq ?_|refine IWP_region ?_|refine IWP_ct rfl ?_|refine IWP_cf rfl ?_|refine IWP_skip ?_|refine IWP_ret ?_|refine IWP_block ?_|refine inB_n ?_|refine thenI_r ?_|refine thenI_e ?_|refine inB_r ?_|refine inB_hit ?_|refine inB_miss rfl ?_|refine IWP_exit ?_|refine IWP_scope ?_|refine IWP_label ?_|refine noG_n ?_|refine noG_r ?_|refine noG_e ?_|refine jmp_n ?_|refine jmp_r ?_|refine jmp_e ?_|refine jmp_g ?_|refine thenI_g ?_|refine inB_g ?_|refine IWP_goto ?_|refine Loop_n ?_|refine oD (id:=6) W34_6 [] O34_6 [_,_,_,_,_,_,_,_,_,_,_,_,_,_,_,_,_,_,_,_] [_] rfl (by repeat' (first|exact trivial|refine And.intro ?_ ?_|exact bS|exact bX|exact bZ|exact bI|exact bC (π:=[]) (hs:=by first|exact hnm|fail)|fail)) ?_|fail)
                exact pD [] ⟨rfl, rfl⟩
            · rw [show chkC now l = false from decide_eq_false fun h => hp ((h.2 i hi2).2.1 hi0)]
              repeat' (first|refine IOps_nil ?_|refine oS ?_|refine IOps_s rfl rfl ?_|refine oT ?_|refine IOps_s0 rfl ?_|refine oC (π:=[]) (hs:=by first|exact hnm|fail) (hx:=?_)|refine oZ ?_|refine oI ?_|refine thenI_n ?_|refine IWP_seq ?_|refine IWP_region ?_|refine IWP_ct rfl ?_|refine IWP_cf rfl ?_|refine IWP_skip ?_|refine IWP_ret ?_|refine IWP_block ?_|refine inB_n ?_|refine thenI_r ?_|refine thenI_e ?_|refine inB_r ?_|refine inB_hit ?_|refine inB_miss rfl ?_|refine IWP_exit ?_|refine IWP_scope ?_|refine IWP_label ?_|refine noG_n ?_|refine noG_r ?_|refine noG_e ?_|refine jmp_n ?_|refine jmp_r ?_|refine jmp_e ?_|refine jmp_g ?_|refine thenI_g ?_|refine inB_g ?_|refine IWP_goto ?_|refine Loop_n ?_|refine oD (id:=6) W34_6 [] O34_6 [_,_,_,_,_,_,_,_,_,_,_,_,_,_,_,_,_,_,_,_] [_] rfl (by repeat' (first|exact trivial|refine And.intro ?_ ?_|exact bS|exact bX|exact bZ|exact bI|exact bC (π:=[]) (hs:=by first|exact hnm|fail)|fail)) ?_|fail)
              exact pD [] ⟨rfl, rfl⟩
          · by_cases hb : now < (l.getD i default).due
            · by_cases hc : (l.getD i default).due ≤ 1099511627776
              · repeat' (first|refine IOps_nil ?_|refine oS ?_|refine IOps_s rfl rfl ?_|refine oT ?_|refine IOps_s0 rfl ?_|refine oC (π:=[]) (hs:=by first|exact hnm|fail) (hx:=?_)|refine oZ ?_|refine oI ?_|refine thenI_n ?_|refine IWP_seq ?_|refine IWP_region ?_|refine IWP_ct rfl ?_|refine IWP_cf rfl ?_|refine IWP_skip ?_|refine IWP_ret ?_|refine IWP_block ?_|refine inB_n ?_|refine thenI_r ?_|refine thenI_e ?_|refine inB_r ?_|refine inB_hit ?_|refine inB_miss rfl ?_|refine IWP_exit ?_|refine IWP_scope ?_|refine IWP_label ?_|refine noG_n ?_|refine noG_r ?_|refine noG_e ?_|refine jmp_n ?_|refine jmp_r ?_|refine jmp_e ?_|refine jmp_g ?_|refine thenI_g ?_|refine inB_g ?_|refine IWP_goto ?_|refine Loop_n ?_|refine oD (id:=6) W34_6 [] O34_6 [_,_,_,_,_,_,_,_,_,_,_,_,_,_,_,_,_,_,_,_] [_] rfl (by repeat' (first|exact trivial|refine And.intro ?_ ?_|exact bS|exact bX|exact bZ|exact bI|exact bC (π:=[]) (hs:=by first|exact hnm|fail)|fail)) ?_|fail)
                exact ⟨i + 1, ⟨hi2, fun j hj => by
                  rcases Nat.lt_succ_iff_lt_or_eq.1 hj with h | rfl
                  · exact hok j h
                  · exact ⟨⟨hn.1, hn.2⟩, fun h => absurd h hi0, hb, hc⟩⟩, by omega, lP [0]⟩
              · rw [show chkC now l = false from decide_eq_false fun h => hc (h.2 i hi2).2.2.2]
                repeat' (first|refine IOps_nil ?_|refine oS ?_|refine IOps_s rfl rfl ?_|refine oT ?_|refine IOps_s0 rfl ?_|refine oC (π:=[]) (hs:=by first|exact hnm|fail) (hx:=?_)|refine oZ ?_|refine oI ?_|refine thenI_n ?_|refine IWP_seq ?_|refine IWP_region ?_|refine IWP_ct rfl ?_|refine IWP_cf rfl ?_|refine IWP_skip ?_|refine IWP_ret ?_|refine IWP_block ?_|refine inB_n ?_|refine thenI_r ?_|refine thenI_e ?_|refine inB_r ?_|refine inB_hit ?_|refine inB_miss rfl ?_|refine IWP_exit ?_|refine IWP_scope ?_|refine IWP_label ?_|refine noG_n ?_|refine noG_r ?_|refine noG_e ?_|refine jmp_n ?_|refine jmp_r ?_|refine jmp_e ?_|refine jmp_g ?_|refine thenI_g ?_|refine inB_g ?_|refine IWP_goto ?_|refine Loop_n ?_|refine oD (id:=6) W34_6 [] O34_6 [_,_,_,_,_,_,_,_,_,_,_,_,_,_,_,_,_,_,_,_] [_] rfl (by repeat' (first|exact trivial|refine And.intro ?_ ?_|exact bS|exact bX|exact bZ|exact bI|exact bC (π:=[]) (hs:=by first|exact hnm|fail)|fail)) ?_|fail)
                exact pD [] ⟨rfl, rfl⟩
            · rw [show chkC now l = false from decide_eq_false fun h => hb (h.2 i hi2).2.2.1]
              repeat' (first|refine IOps_nil ?_|refine oS ?_|refine IOps_s rfl rfl ?_|refine oT ?_|refine IOps_s0 rfl ?_|refine oC (π:=[]) (hs:=by first|exact hnm|fail) (hx:=?_)|refine oZ ?_|refine oI ?_|refine thenI_n ?_|refine IWP_seq ?_|refine IWP_region ?_|refine IWP_ct rfl ?_|refine IWP_cf rfl ?_|refine IWP_skip ?_|refine IWP_ret ?_|refine IWP_block ?_|refine inB_n ?_|refine thenI_r ?_|refine thenI_e ?_|refine inB_r ?_|refine inB_hit ?_|refine inB_miss rfl ?_|refine IWP_exit ?_|refine IWP_scope ?_|refine IWP_label ?_|refine noG_n ?_|refine noG_r ?_|refine noG_e ?_|refine jmp_n ?_|refine jmp_r ?_|refine jmp_e ?_|refine jmp_g ?_|refine thenI_g ?_|refine inB_g ?_|refine IWP_goto ?_|refine Loop_n ?_|refine oD (id:=6) W34_6 [] O34_6 [_,_,_,_,_,_,_,_,_,_,_,_,_,_,_,_,_,_,_,_] [_] rfl (by repeat' (first|exact trivial|refine And.intro ?_ ?_|exact bS|exact bX|exact bZ|exact bI|exact bC (π:=[]) (hs:=by first|exact hnm|fail)|fail)) ?_|fail)
              exact pD [] ⟨rfl, rfl⟩
        · rw [decide_eq_false hn] at hnm
          rw [show chkC now l = false from decide_eq_false fun h => hn (h.2 i hi2).1]
          repeat' (first|refine IOps_nil ?_|refine oS ?_|refine IOps_s rfl rfl ?_|refine oT ?_|refine IOps_s0 rfl ?_|refine oC (π:=[]) (hs:=by first|exact hnm|fail) (hx:=?_)|refine oZ ?_|refine oI ?_|refine thenI_n ?_|refine IWP_seq ?_|refine IWP_region ?_|refine IWP_ct rfl ?_|refine IWP_cf rfl ?_|refine IWP_skip ?_|refine IWP_ret ?_|refine IWP_block ?_|refine inB_n ?_|refine thenI_r ?_|refine thenI_e ?_|refine inB_r ?_|refine inB_hit ?_|refine inB_miss rfl ?_|refine IWP_exit ?_|refine IWP_scope ?_|refine IWP_label ?_|refine noG_n ?_|refine noG_r ?_|refine noG_e ?_|refine jmp_n ?_|refine jmp_r ?_|refine jmp_e ?_|refine jmp_g ?_|refine thenI_g ?_|refine inB_g ?_|refine IWP_goto ?_|refine Loop_n ?_|refine oD (id:=6) W34_6 [] O34_6 [_,_,_,_,_,_,_,_,_,_,_,_,_,_,_,_,_,_,_,_] [_] rfl (by repeat' (first|exact trivial|refine And.intro ?_ ?_|exact bS|exact bX|exact bZ|exact bI|exact bC (π:=[]) (hs:=by first|exact hnm|fail)|fail)) ?_|fail)
          exact pD [] ⟨rfl, rfl⟩
      · rw [show chkC now l = true from decide_eq_true ⟨⟨h0, h1⟩, fun j hj => hok j (by omega)⟩]
        repeat' (first|refine IOps_nil ?_|refine oS ?_|refine IOps_s rfl rfl ?_|refine oT ?_|refine IOps_s0 rfl ?_|refine oZ ?_|refine oI ?_|refine thenI_n ?_|refine IWP_seq ?_|refine IWP_region ?_|refine IWP_ct rfl ?_|refine IWP_cf rfl ?_|refine IWP_skip ?_|refine IWP_ret ?_|refine IWP_block ?_|refine inB_n ?_|refine thenI_r ?_|refine thenI_e ?_|refine inB_r ?_|refine inB_hit ?_|refine inB_miss rfl ?_|refine IWP_exit ?_|refine IWP_scope ?_|refine IWP_label ?_|refine noG_n ?_|refine noG_r ?_|refine noG_e ?_|refine jmp_n ?_|refine jmp_r ?_|refine jmp_e ?_|refine jmp_g ?_|refine thenI_g ?_|refine inB_g ?_|refine IWP_goto ?_|refine Loop_n ?_|refine oD (id:=6) W34_6 [] O34_6 [_,_,_,_,_,_,_,_,_,_,_,_,_,_,_,_,_,_,_,_] [_] rfl (by repeat' (first|exact trivial|refine And.intro ?_ ?_|exact bS|exact bX|exact bZ|exact bI|fail)) ?_|fail)
        exact pD [] ⟨rfl, rfl⟩
    · rw [show chkC now l = false from decide_eq_false fun h => h1 h.1.2]
      refine sB Try.func34 Try.ntmps34 ?_
      repeat' (first|refine IOps_nil ?_|refine oS ?_|refine IOps_s rfl rfl ?_|refine oT ?_|refine IOps_s0 rfl ?_|refine oZ ?_|refine oI ?_|refine thenI_n ?_|refine IWP_seq ?_|refine IWP_region ?_|refine IWP_ct rfl ?_|refine IWP_cf rfl ?_|refine IWP_skip ?_|refine IWP_ret ?_|refine IWP_block ?_|refine inB_n ?_|refine thenI_r ?_|refine thenI_e ?_|refine inB_r ?_|refine inB_hit ?_|refine inB_miss rfl ?_|refine IWP_exit ?_|refine IWP_scope ?_|refine IWP_label ?_|refine noG_n ?_|refine noG_r ?_|refine noG_e ?_|refine jmp_n ?_|refine jmp_r ?_|refine jmp_e ?_|refine jmp_g ?_|refine thenI_g ?_|refine inB_g ?_|refine IWP_goto ?_|refine Loop_n ?_|refine oD (id:=6) W34_6 [] O34_6 [_,_,_,_,_,_,_,_,_,_,_,_,_,_,_,_,_,_,_,_] [_] rfl (by repeat' (first|exact trivial|refine And.intro ?_ ?_|exact bS|exact bX|exact bZ|exact bI|fail)) ?_|fail)
      exact pD [] ⟨rfl, rfl⟩
  · rw [show chkC now l = false from decide_eq_false fun h => h0 h.1.1]
    refine sB Try.func34 Try.ntmps34 ?_
    repeat' (first|refine IOps_nil ?_|refine oS ?_|refine IOps_s rfl rfl ?_|refine oT ?_|refine IOps_s0 rfl ?_|refine oZ ?_|refine oI ?_|refine thenI_n ?_|refine IWP_seq ?_|refine IWP_region ?_|refine IWP_ct rfl ?_|refine IWP_cf rfl ?_|refine IWP_skip ?_|refine IWP_ret ?_|refine IWP_block ?_|refine inB_n ?_|refine thenI_r ?_|refine thenI_e ?_|refine inB_r ?_|refine inB_hit ?_|refine inB_miss rfl ?_|refine IWP_exit ?_|refine IWP_scope ?_|refine IWP_label ?_|refine noG_n ?_|refine noG_r ?_|refine noG_e ?_|refine jmp_n ?_|refine jmp_r ?_|refine jmp_e ?_|refine jmp_g ?_|refine thenI_g ?_|refine inB_g ?_|refine IWP_goto ?_|refine Loop_n ?_|refine oD (id:=6) W34_6 [] O34_6 [_,_,_,_,_,_,_,_,_,_,_,_,_,_,_,_,_,_,_,_] [_] rfl (by repeat' (first|exact trivial|refine And.intro ?_ ?_|exact bS|exact bX|exact bZ|exact bI|fail)) ?_|fail)
    exact pD [] ⟨rfl, rfl⟩
theorem at_none (x : It) : Idl.Spec Try.prog 48 [itV x, .sc (.bool false)] [] (Only (.tup [.i64 0, .sc (.bool false)]) []) := by
  refine sB Try.func48 Try.ntmps48 ?_
  repeat' (first|refine IOps_nil ?_|refine oS ?_|refine IOps_s rfl rfl ?_|refine oT ?_|refine IOps_s0 rfl ?_|refine oZ ?_|refine oI ?_|refine thenI_n ?_|refine IWP_seq ?_|refine IWP_region ?_|refine IWP_ct rfl ?_|refine IWP_cf rfl ?_|refine IWP_skip ?_|refine IWP_ret ?_|refine IWP_block ?_|refine inB_n ?_|refine thenI_r ?_|refine thenI_e ?_|refine inB_r ?_|refine inB_hit ?_|refine inB_miss rfl ?_|refine IWP_exit ?_|refine IWP_scope ?_|refine IWP_label ?_|refine noG_n ?_|refine noG_r ?_|refine noG_e ?_|refine jmp_n ?_|refine jmp_r ?_|refine jmp_e ?_|refine jmp_g ?_|refine thenI_g ?_|refine inB_g ?_|refine IWP_goto ?_|refine Loop_n ?_|fail)
  exact pD [] ⟨rfl, rfl⟩
theorem at_some (x : It) (h0 : 0 < x.pri) (h1 : x.pri ≤ 1099511627776) : Idl.Spec Try.prog 48 [itV x, .sc (.bool true)] [] (Only (.tup [.i64 x.pri, .sc (.bool true)]) []) := by
  by_cases hi : x.id = 0
  · refine sB Try.func48 Try.ntmps48 ?_
    repeat' (first|refine IOps_nil ?_|refine oS ?_|refine IOps_s rfl rfl ?_|refine oT ?_|refine IOps_s0 rfl ?_|refine oZ ?_|refine oI ?_|refine thenI_n ?_|refine IWP_seq ?_|refine IWP_region ?_|refine IWP_ct rfl ?_|refine IWP_cf rfl ?_|refine IWP_skip ?_|refine IWP_ret ?_|refine IWP_block ?_|refine inB_n ?_|refine thenI_r ?_|refine thenI_e ?_|refine inB_r ?_|refine inB_hit ?_|refine inB_miss rfl ?_|refine IWP_exit ?_|refine IWP_scope ?_|refine IWP_label ?_|refine noG_n ?_|refine noG_r ?_|refine noG_e ?_|refine jmp_n ?_|refine jmp_r ?_|refine jmp_e ?_|refine jmp_g ?_|refine thenI_g ?_|refine inB_g ?_|refine IWP_goto ?_|refine Loop_n ?_|fail)
    exact pD [] ⟨rfl, rfl⟩
  · refine sB Try.func48 Try.ntmps48 ?_
    repeat' (first|refine IOps_nil ?_|refine oS ?_|refine IOps_s rfl rfl ?_|refine oT ?_|refine IOps_s0 rfl ?_|refine oZ ?_|refine oI ?_|refine thenI_n ?_|refine IWP_seq ?_|refine IWP_region ?_|refine IWP_ct rfl ?_|refine IWP_cf rfl ?_|refine IWP_skip ?_|refine IWP_ret ?_|refine IWP_block ?_|refine inB_n ?_|refine thenI_r ?_|refine thenI_e ?_|refine inB_r ?_|refine inB_hit ?_|refine inB_miss rfl ?_|refine IWP_exit ?_|refine IWP_scope ?_|refine IWP_label ?_|refine noG_n ?_|refine noG_r ?_|refine noG_e ?_|refine jmp_n ?_|refine jmp_r ?_|refine jmp_e ?_|refine jmp_g ?_|refine thenI_g ?_|refine inB_g ?_|refine IWP_goto ?_|refine Loop_n ?_|fail)
    exact pD [] ⟨rfl, rfl⟩
end Go.Proofs.Ytnlelckfhlcbgaa

namespace Go.Proofs.Ytnlelckfhlcbgaa
open Go Go.Idl
set_option linter.unusedSimpArgs false
set_option linter.unusedVariables false
def rk (d : Du) : It := ⟨d.id, d.due, 0⟩
def Asc (l : List Du) : Prop := l.Pairwise fun a b => a.id < b.id
theorem mem_gd {l : List Du} {d : Du} (h : d ∈ l) : ∃ i, i < l.length ∧ gd l i = d := by
  obtain ⟨i, hi, rfl⟩ := List.getElem_of_mem h
  exact ⟨i, hi, gd_eq hi⟩
theorem OkC.gap {now : Int} {l : List Du} (h : OkC now l) : ∀ j i, i < j → j < l.length → (gd l i).id < (gd l j).id := by
  intro j
  induction j with
  | zero => intro i hi; omega
  | succ j ih =>
    intro i hi hj
    have h1 := (h.2 (j + 1) hj).2.1 (by omega)
    rw [Nat.add_sub_cancel] at h1
    rcases Nat.lt_succ_iff_lt_or_eq.1 hi with h2 | rfl
    · have := ih i h2 (by omega); omega
    · exact h1
theorem OkC.asc {now : Int} {l : List Du} (h : OkC now l) : Asc l := by
  unfold Asc
  rw [List.pairwise_iff_getElem]
  intro i j hi hj hij
  have := h.gap j i hij hj
  rwa [gd_eq hi, gd_eq hj] at this
theorem OkC.mem {now : Int} {l : List Du} (h : OkC now l) {d : Du} (hd : d ∈ l) : (0 ≤ d.id ∧ d.id < 64) ∧ now < d.due ∧ d.due ≤ MaxT := by
  obtain ⟨i, hi, rfl⟩ := mem_gd hd
  have := h.2 i hi
  exact ⟨this.1, this.2.2⟩
theorem OkC.of {now : Int} {l : List Du} (h0 : 0 ≤ now ∧ now ≤ MaxT) (ha : Asc l) (hm : ∀ d, d ∈ l → (0 ≤ d.id ∧ d.id < 64) ∧ now < d.due ∧ d.due ≤ MaxT) : OkC now l := by
  refine ⟨h0, fun i hi => ?_⟩
  have hmi := hm (gd l i) (by rw [gd_eq hi]; exact List.getElem_mem hi)
  refine ⟨hmi.1, fun h => ?_, hmi.2⟩
  unfold Asc at ha
  rw [List.pairwise_iff_getElem] at ha
  rw [gd_eq hi, gd_eq (by omega)]
  exact ha (i - 1) i (by omega) hi (by omega)
theorem OkC.idn {now : Int} {l : List Du} (h : OkC now l) : Idn (l.map rk) := by
  refine ⟨fun y hy => ?_, ?_⟩
  · obtain ⟨d, hd, rfl⟩ := List.mem_map.1 hy
    exact (h.mem hd).1
  · rw [List.pairwise_map]
    exact h.asc.imp fun {a b} hab => by show a.id ≠ b.id; omega
theorem OkC.len {now : Int} {l : List Du} (h : OkC now l) : l.length ≤ 64 := by
  have := h.idn.len
  rwa [List.length_map] at this
theorem Asc.inj {l : List Du} (h : Asc l) {d e : Du} (hd : d ∈ l) (he : e ∈ l) (hi : d.id = e.id) : d = e := by
  obtain ⟨i, hi1, rfl⟩ := List.getElem_of_mem hd
  obtain ⟨j, hj1, rfl⟩ := List.getElem_of_mem he
  unfold Asc at h
  rw [List.pairwise_iff_getElem] at h
  rcases Nat.lt_trichotomy i j with hij | rfl | hij
  · have := h i j hi1 hj1 hij; omega
  · rfl
  · have := h j i hj1 hi1 hij; omega
/-! ### When, next, who is told -/
def whenV (l : List Du) (id : Int) : Int × Bool :=
  match l.find? fun d => decide (d.id = id) with
  | some d => (d.due, true)
  | none => (0, false)
theorem when_non {l : List Du} {id : Int} (h : ∀ d, d ∈ l → d.id ≠ id) : whenV l id = (0, false) := by
  unfold whenV
  rw [List.find?_eq_none.2 (fun d hd => by simpa using h d hd)]
theorem when_mem {l : List Du} (ha : Asc l) {d : Du} (hd : d ∈ l) : whenV l d.id = (d.due, true) := by
  unfold whenV
  cases h : l.find? fun e => decide (e.id = d.id) with
  | none => exact absurd (decide_eq_true (rfl : d.id = d.id)) (List.find?_eq_none.1 h d hd)
  | some e =>
    have h1 := List.mem_of_find?_eq_some h
    have h2 : e.id = d.id := by simpa using List.find?_some h
    rw [ha.inj h1 hd h2]
theorem when_or {l : List Du} (ha : Asc l) (id : Int) : (∃ d, d ∈ l ∧ d.id = id ∧ whenV l id = (d.due, true)) ∨ ((∀ d, d ∈ l → d.id ≠ id) ∧ whenV l id = (0, false)) := by
  by_cases h : ∃ d, d ∈ l ∧ d.id = id
  · obtain ⟨d, hd, rfl⟩ := h
    exact .inl ⟨d, hd, rfl, when_mem ha hd⟩
  · have hn : ∀ d, d ∈ l → d.id ≠ id := fun d hd he => h ⟨d, hd, he⟩
    exact .inr ⟨hn, when_non hn⟩
def whenC (now : Int) (l : List Du) (id : Int) : Int × Bool := if chkC now l then whenV l id else (0, false)
def nextV (l : List Du) : Int × Bool :=
  match srtI (l.map rk) with
  | [] => (0, false)
  | x :: _ => (x.pri, true)
def nextC (now : Int) (l : List Du) : Int × Bool := if chkC now l then nextV l else (0, false)
def outsI (now : Int) (h : List It) : List Int := (h.filter fun x => decide (x.pri ≤ now)).map It.id
def outsV (now : Int) (l : List Du) : List Int := outsI now (srtI (l.map rk))
def woD (id : Int) (l : List Du) : List Du := l.filter fun d => !decide (d.id = id)
def insD (x : Du) (l : List Du) : List Du := (l.filter fun d => decide (d.id < x.id)) ++ x :: l.filter fun d => decide (x.id < d.id)
def goD (now : Int) (l : List Du) : List Du := l.filter fun d => !decide (d.due ≤ now)
def setV (now : Int) (l : List Du) (id after : Int) : List Du × Int :=
  if chkC now l = false then (l, 120) else if ¬ (0 ≤ id ∧ id < 64) then (l, 110) else if after < 1 ∨ MaxT - now < after then (l, 170) else (insD ⟨id, now + after⟩ l, 0)
def dropV (now : Int) (l : List Du) (id : Int) : List Du × Int := if (whenC now l id).2 then (woD id l, 0) else (l, 120)
def tickV (now : Int) (l : List Du) (by' : Int) : (Int × List Du) × List Int × Int :=
  if chkC now l = false then ((now, l), [], 120) else if by' < 0 ∨ MaxT - now < by' then ((now, l), [], 170) else ((now + by', goD (now + by') l), outsV (now + by') l, 0)
/-! ### Ranked -/
theorem rank_step {now : Int} {l : List Du} (h : OkC now l) {i : Nat} (hi : i < l.length) {M N : List It} (hM : M.Perm ((l.take i).map rk)) (hN : N.Perm (upI (rk (gd l i)) M)) : N.Perm ((l.take (i + 1)).map rk) := by
  have hw : woI (rk (gd l i)).id M = M := by
    unfold woI
    rw [List.filter_eq_self]
    intro y hy
    obtain ⟨d, hd, rfl⟩ := List.mem_map.1 (hM.subset hy)
    obtain ⟨j, hj, rfl⟩ := List.getElem_of_mem hd
    rw [List.length_take] at hj
    have := h.gap i j (by omega) hi
    rw [gd_eq (by omega)] at this
    have e : ((l.take i)[j]'(by rw [List.length_take]; exact hj)) = l[j] := List.getElem_take
    rw [e]
    try rw [e]
    exact decide_eq_true (show l[j].id ≠ (gd l i).id by omega)
  unfold upI at hN
  rw [hw] at hN
  rw [List.take_succ_eq_append_getElem hi, List.map_append, ← gd_eq hi]
  exact hN.trans ((List.Perm.cons _ hM).trans (List.perm_append_comm (l₁ := [rk (gd l i)])))
theorem rank_when {now : Int} {l : List Du} (h : OkC now l) {M : List It} (hM : M.Perm (l.map rk)) (id : Int) :
    (∃ x, findV M id = (x, true) ∧ 0 < x.pri ∧ x.pri ≤ MaxT ∧ whenV l id = (x.pri, true)) ∨ (findV M id = (default, false) ∧ whenV l id = (0, false)) := by
  rcases when_or h.asc id with ⟨d, hd, rfl, hw⟩ | ⟨hn, hw⟩
  · have hm := h.mem hd
    refine .inl ⟨rk d, findV_mem (h.idn.perm hM) (hM.symm.subset (List.mem_map_of_mem hd)), ?_, hm.2.2, hw⟩
    show 0 < d.due
    have := h.1.1; omega
  · refine .inr ⟨findV_non fun y hy => ?_, hw⟩
    obtain ⟨d, hd, rfl⟩ := List.mem_map.1 (hM.subset hy)
    exact hn d hd
theorem rank_next {now : Int} {l : List Du} (h : OkC now l) {M : List It} (hc : chk M = true) (hM : M.Perm (l.map rk)) :
    (∃ x, minV M = (x, true) ∧ 0 < x.pri ∧ x.pri ≤ MaxT ∧ nextV l = (x.pri, true)) ∨ (minV M = (default, false) ∧ nextV l = (0, false)) := by
  have hs := srt_of_perm hM
  unfold nextV
  cases e : srtI (l.map rk) with
  | nil =>
    refine .inr ⟨?_, rfl⟩
    have : M = [] := by
      have := (srt_perm (l.map rk)).length_eq
      rw [e] at this
      exact List.length_eq_zero_iff.1 (by rw [hM.length_eq, ← this]; rfl)
    subst this; rfl
  | cons x t =>
    have hx : x ∈ l.map rk := (srt_perm _).subset (by rw [e]; exact List.mem_cons_self)
    obtain ⟨d, hd, rfl⟩ := List.mem_map.1 hx
    have hm := h.mem hd
    refine .inl ⟨rk d, minV_srt hc (by rw [hs, e]), ?_, hm.2.2, rfl⟩
    show 0 < d.due
    have := h.1.1; omega
/-! ### Set in its place -/
theorem split_perm (k : Int) : ∀ l : List Du, ((l.filter fun d => decide (d.id < k)) ++ l.filter fun d => decide (k < d.id)).Perm (woD k l)
  | [] => .refl _
  | a :: l => by
    have ih := split_perm k l
    unfold woD at ih ⊢
    rcases Int.lt_trichotomy a.id k with h | h | h
    · rw [List.filter_cons_of_pos (by simpa using h), List.filter_cons_of_neg (by simp; omega), List.filter_cons_of_pos (by simp; omega)]
      exact ih.cons a
    · rw [List.filter_cons_of_neg (by simp; omega), List.filter_cons_of_neg (by simp; omega), List.filter_cons_of_neg (by simp; omega)]
      exact ih
    · rw [List.filter_cons_of_neg (by simp; omega), List.filter_cons_of_pos (by simpa using h), List.filter_cons_of_pos (by simp; omega)]
      exact List.perm_middle.trans (ih.cons a)
theorem ins_permD (x : Du) (l : List Du) : (insD x l).Perm (woD x.id l ++ [x]) := by
  unfold insD
  exact List.perm_middle.trans (((split_perm x.id l).cons x).trans (List.perm_append_comm (l₁ := [x])))
theorem Asc.filter {l : List Du} (h : Asc l) (p : Du → Bool) : Asc (l.filter p) := List.Pairwise.sublist List.filter_sublist h
theorem Asc.ins {l : List Du} (h : Asc l) (x : Du) : Asc (insD x l) := by
  unfold insD Asc
  rw [List.pairwise_append]
  refine ⟨h.filter _, ?_, ?_⟩
  · rw [List.pairwise_cons]
    exact ⟨fun a ha => by simpa using (List.mem_filter.1 ha).2, h.filter _⟩
  · intro a ha b hb
    have h1 : a.id < x.id := by simpa using (List.mem_filter.1 ha).2
    rcases List.mem_cons.1 hb with rfl | hb
    · exact h1
    · have : x.id < b.id := by simpa using (List.mem_filter.1 hb).2
      omega
theorem Asc.ne {l : List Du} (h : Asc l) : l.Pairwise fun a b => a.id ≠ b.id := h.imp fun hab => by omega
theorem asc_uniq {l m : List Du} (hp : m.Perm l) (hl : Asc l) (hm : m.Pairwise fun a b => ¬ b.id < a.id) : m = l := by
  have h1 : m.Pairwise fun a b => a.id ≠ b.id := (hp.pairwise_iff fun {a b} h => Ne.symm h).2 hl.ne
  have h2 : Asc m := by
    have := hm.and h1
    exact this.imp fun {a b} h => by have := h.1; have := h.2; omega
  let lt : Du → Du → Bool := fun x y => decide (x.id < y.id ∨ (x.id = y.id ∧ x.due < y.due))
  refine SS.unique (lt := lt) (fun x y h1 h2 => ?_) hp (h2.imp fun {a b} h => ?_) (hl.imp fun {a b} h => ?_)
  · simp only [lt, decide_eq_false_iff_not] at h1 h2
    obtain ⟨a, b⟩ := x; obtain ⟨c, d⟩ := y
    simp only [Du.mk.injEq] at h1 h2 ⊢
    omega
  · simp only [lt, decide_eq_false_iff_not]; omega
  · simp only [lt, decide_eq_false_iff_not]; omega
end Go.Proofs.Ytnlelckfhlcbgaa

namespace Go.Proofs.Ytnlelckfhlcbgaa
open Go Go.Idl
set_option linter.unusedSimpArgs false
set_option linter.unusedVariables false
theorem mem_ins {x : Du} {l : List Du} {d : Du} : d ∈ insD x l ↔ d = x ∨ (d ∈ l ∧ d.id ≠ x.id) := by
  unfold insD
  simp only [List.mem_append, List.mem_cons, List.mem_filter, decide_eq_true_eq]
  constructor
  · rintro (⟨h, k⟩ | h | ⟨h, k⟩)
    · exact .inr ⟨h, by omega⟩
    · exact .inl h
    · exact .inr ⟨h, by omega⟩
  · rintro (h | ⟨h, k⟩)
    · exact .inr (.inl h)
    · rcases Int.lt_or_gt_of_ne k with k | k
      · exact .inl ⟨h, k⟩
      · exact .inr (.inr ⟨h, k⟩)
theorem mem_wo {id : Int} {l : List Du} {d : Du} : d ∈ woD id l ↔ d ∈ l ∧ d.id ≠ id := by
  unfold woD; simp
theorem mem_go {t : Int} {l : List Du} {d : Du} : d ∈ goD t l ↔ d ∈ l ∧ t < d.due := by
  unfold goD; simp
theorem when_ext {l m : List Du} (hl : Asc l) (hm : Asc m) {id : Int} (h : ∀ d : Du, d.id = id → (d ∈ l ↔ d ∈ m)) : whenV l id = whenV m id := by
  rcases when_or hl id with ⟨d, h1, h2, h3⟩ | ⟨h1, h3⟩
  · have := (h d h2).1 h1
    rw [h3, ← h2, when_mem hm this]
  · rw [h3, when_non]
    exact fun d hd he => h1 d ((h d he).2 hd) he
theorem when_ins_self {l : List Du} (hl : Asc l) (x : Du) : whenV (insD x l) x.id = (x.due, true) := when_mem (hl.ins x) (mem_ins.2 (.inl rfl))
theorem when_ins_ne {l : List Du} (hl : Asc l) (x : Du) {id : Int} (h : id ≠ x.id) : whenV (insD x l) id = whenV l id :=
  when_ext (hl.ins x) hl fun d hd => ⟨fun k => (mem_ins.1 k).elim (fun e => absurd (by rw [← hd, e]) h) (·.1), fun k => mem_ins.2 (.inr ⟨k, by rw [hd]; exact h⟩)⟩
theorem when_wo_self {l : List Du} (id : Int) : whenV (woD id l) id = (0, false) := when_non fun d hd => (mem_wo.1 hd).2
theorem when_wo_ne {l : List Du} (hl : Asc l) {id k : Int} (h : id ≠ k) : whenV (woD k l) id = whenV l id :=
  when_ext (hl.filter _) hl fun d hd => ⟨fun z => (mem_wo.1 z).1, fun z => mem_wo.2 ⟨z, by rw [hd]; exact h⟩⟩
theorem when_go {l : List Du} (hl : Asc l) (t id : Int) : whenV (goD t l) id = if (whenV l id).2 = true ∧ (whenV l id).1 ≤ t then (0, false) else whenV l id := by
  rcases when_or hl id with ⟨d, h1, rfl, h3⟩ | ⟨h1, h3⟩
  · rw [h3]
    by_cases h : d.due ≤ t
    · rw [if_pos ⟨rfl, h⟩]
      refine when_non fun e he hi => ?_
      obtain ⟨k1, k2⟩ := mem_go.1 he
      rw [hl.inj k1 h1 hi] at k2
      omega
    · rw [if_neg (fun k => h k.2)]
      exact when_mem (hl.filter _) (mem_go.2 ⟨h1, by omega⟩)
  · rw [h3, if_neg (fun k => by cases k.1)]
    exact when_non fun e he => h1 e (mem_go.1 he).1
theorem OkC.ins {now : Int} {l : List Du} (h : OkC now l) {id after : Int} (h1 : 0 ≤ id ∧ id < 64) (h2 : ¬ after < 1) (h3 : ¬ MaxT - now < after) : OkC now (insD ⟨id, now + after⟩ l) :=
  .of h.1 (h.asc.ins _) fun d hd => (mem_ins.1 hd).elim (fun e => by subst e; exact ⟨h1, by show now < now + after; omega, by show now + after ≤ MaxT; omega⟩) fun k => h.mem k.1
theorem OkC.wo {now : Int} {l : List Du} (h : OkC now l) (id : Int) : OkC now (woD id l) := .of h.1 (h.asc.filter _) fun d hd => h.mem (mem_wo.1 hd).1
theorem OkC.go {now : Int} {l : List Du} (h : OkC now l) {b : Int} (h1 : ¬ b < 0) (h2 : ¬ MaxT - now < b) : OkC (now + b) (goD (now + b) l) :=
  .of ⟨by have := h.1.1; omega, by omega⟩ (h.asc.filter _) fun d hd => ⟨(h.mem (mem_go.1 hd).1).1, (mem_go.1 hd).2, (h.mem (mem_go.1 hd).1).2.2⟩
theorem asc_ext : ∀ {l m : List Du}, Asc l → Asc m → (∀ d, d ∈ l ↔ d ∈ m) → l = m
  | [], [], _, _, _ => rfl
  | [], b :: m, _, _, h => absurd ((h b).2 List.mem_cons_self) (by simp)
  | a :: l, [], _, _, h => absurd ((h a).1 List.mem_cons_self) (by simp)
  | a :: l, b :: m, hl, hm, h => by
    obtain ⟨hl1, hl2⟩ := List.pairwise_cons.1 hl
    obtain ⟨hm1, hm2⟩ := List.pairwise_cons.1 hm
    have e : a = b := by
      rcases List.mem_cons.1 ((h a).1 List.mem_cons_self) with e | e
      · exact e
      · rcases List.mem_cons.1 ((h b).2 List.mem_cons_self) with e2 | e2
        · exact e2.symm
        · have := hl1 b e2; have := hm1 a e; omega
    subst e
    congr 1
    refine asc_ext hl2 hm2 fun d => ⟨fun hd => ?_, fun hd => ?_⟩
    · rcases List.mem_cons.1 ((h d).1 (List.mem_cons_of_mem _ hd)) with e | e
      · have := hl1 d hd; rw [e] at this; omega
      · exact e
    · rcases List.mem_cons.1 ((h d).2 (List.mem_cons_of_mem _ hd)) with e | e
      · have := hm1 d hd; rw [e] at this; omega
      · exact e
theorem wo_ins {l : List Du} (hl : Asc l) (x : Du) (h : ∀ d, d ∈ l → d.id ≠ x.id) : woD x.id (insD x l) = l :=
  asc_ext ((hl.ins x).filter _) hl fun d => by
    rw [mem_wo, mem_ins]
    exact ⟨fun ⟨k1, k2⟩ => k1.elim (fun e => absurd (by rw [e]) k2) (·.1), fun k => ⟨.inr ⟨k, h d k⟩, h d k⟩⟩
theorem ins_ins {l : List Du} (hl : Asc l) (x y : Du) (h : x.id ≠ y.id) : insD x (insD y l) = insD y (insD x l) :=
  asc_ext ((hl.ins y).ins x) ((hl.ins x).ins y) fun d => by
    simp only [mem_ins]
    constructor
    · rintro (rfl | ⟨rfl | ⟨k1, k2⟩, k3⟩)
      · exact .inr ⟨.inl rfl, h⟩
      · exact .inl rfl
      · exact .inr ⟨.inr ⟨k1, k3⟩, k2⟩
    · rintro (rfl | ⟨rfl | ⟨k1, k2⟩, k3⟩)
      · exact .inr ⟨.inl rfl, h.symm⟩
      · exact .inl rfl
      · exact .inr ⟨.inr ⟨k1, k3⟩, k2⟩
/-! ### Who is told -/
theorem mem_outs {t : Int} {l : List Du} {id : Int} : id ∈ outsV t l ↔ ∃ d, d ∈ l ∧ d.id = id ∧ d.due ≤ t := by
  unfold outsV outsI
  rw [List.mem_map]
  constructor
  · rintro ⟨x, hx, rfl⟩
    obtain ⟨h1, h2⟩ := List.mem_filter.1 hx
    obtain ⟨d, hd, rfl⟩ := List.mem_map.1 ((srt_perm _).subset h1)
    exact ⟨d, hd, rfl, of_decide_eq_true h2⟩
  · rintro ⟨d, hd, rfl, h⟩
    exact ⟨rk d, List.mem_filter.2 ⟨(srt_perm _).symm.subset (List.mem_map_of_mem hd), decide_eq_true h⟩, rfl⟩
theorem outs_nodup {now t : Int} {l : List Du} (h : OkC now l) : (outsV t l).Pairwise fun a b => a ≠ b := by
  unfold outsV outsI
  rw [List.pairwise_map]
  exact ((h.idn.perm (srt_perm _)).2.sublist List.filter_sublist)
def cntV (id : Int) (l : List Int) : Nat := (l.filter fun x => decide (x = id)).length
theorem cnt_nodup {id : Int} : ∀ {l : List Int}, (l.Pairwise fun a b => a ≠ b) → cntV id l = if id ∈ l then 1 else 0
  | [], _ => rfl
  | a :: l, h => by
    obtain ⟨h1, h2⟩ := List.pairwise_cons.1 h
    have ih := cnt_nodup (id := id) h2
    unfold cntV at ih ⊢
    by_cases e : a = id
    · subst e
      rw [List.filter_cons_of_pos (by simp), List.length_cons, ih, if_neg (fun k => h1 a k rfl), if_pos List.mem_cons_self]
    · rw [List.filter_cons_of_neg (by simpa using e), ih]
      by_cases k : id ∈ l
      · rw [if_pos k, if_pos (List.mem_cons_of_mem _ k)]
      · rw [if_neg k, if_neg (fun z => (List.mem_cons.1 z).elim (fun z => e z.symm) k)]
theorem cnt_step {id : Int} {l : List Int} {k : Nat} (h : k < l.length) : cntV id (l.take (k + 1)) = cntV id (l.take k) + if l.getD k default = id then 1 else 0 := by
  unfold cntV
  rw [List.take_succ_eq_append_getElem h, List.filter_append, List.length_append, List.getD_eq_getElem?_getD, List.getElem?_eq_getElem h]
  congr 1
  by_cases e : l[k] = id
  · simp [e]
  · simp [e]
theorem outs_cnt {now t : Int} {l : List Du} (h : OkC now l) (id : Int) : cntV id (outsV t l) = if (whenV l id).2 = true ∧ (whenV l id).1 ≤ t then 1 else 0 := by
  rw [cnt_nodup (outs_nodup h)]
  rcases when_or h.asc id with ⟨d, h1, rfl, h3⟩ | ⟨h1, h3⟩
  · rw [h3]
    by_cases k : d.due ≤ t
    · rw [if_pos (mem_outs.2 ⟨d, h1, rfl, k⟩), if_pos ⟨rfl, k⟩]
    · rw [if_neg (fun z => ?_), if_neg (fun z => k z.2)]
      obtain ⟨e, e1, e2, e3⟩ := mem_outs.1 z
      rw [h.asc.inj e1 h1 e2] at e3
      exact k e3
  · rw [h3, if_neg (fun z => ?_), if_neg (fun z => by cases z.1)]
    obtain ⟨e, e1, e2, e3⟩ := mem_outs.1 z
    exact h1 e e1 e2
/-! ### Two ticks -/
theorem go_go {l : List Du} {s t : Int} (h : s ≤ t) : goD t (goD s l) = goD t l := by
  unfold goD
  rw [List.filter_filter]
  congr 1
  funext d
  by_cases k : d.due ≤ t
  · simp [k]
  · simp [k]; omega
theorem srt_go (t : Int) (l : List Du) : srtI ((goD t l).map rk) = (srtI (l.map rk)).filter fun x => !decide (x.pri ≤ t) := by
  refine Srt.eq (srt_srt _) (List.Pairwise.sublist List.filter_sublist (srt_srt _)) ((srt_perm _).trans ?_)
  refine List.Perm.trans ?_ ((srt_perm _).symm.filter _)
  unfold goD
  rw [List.filter_map]
  exact .refl _
theorem outs_split {s t : Int} (h : s ≤ t) : ∀ {S : List It}, Srt S → outsI s S ++ outsI t (S.filter fun x => !decide (x.pri ≤ s)) = outsI t S
  | [], _ => rfl
  | x :: S, hs => by
    obtain ⟨h1, h2⟩ := List.pairwise_cons.1 hs
    have ih := outs_split h h2
    by_cases k : x.pri ≤ s
    · unfold outsI at ih ⊢
      rw [List.filter_cons_of_pos (by simpa using k), List.filter_cons_of_neg (by simpa using k), List.filter_cons_of_pos (by simp; omega)]
      rw [List.map_cons, List.map_cons, List.cons_append, ih]
    · have hall : ∀ y, y ∈ x :: S → ¬ y.pri ≤ s := fun y hy => by
        rcases List.mem_cons.1 hy with rfl | hy
        · exact k
        · have := h1 y hy
          unfold lessI at this
          simp only [decide_eq_false_iff_not] at this
          omega
      unfold outsI
      rw [List.filter_eq_nil_iff.2 (fun y hy => by simpa using hall y hy), show ((x :: S).filter fun x => !decide (x.pri ≤ s)) = x :: S from List.filter_eq_self.2 (fun y hy => by simpa using hall y hy)]
      rfl
theorem outs_two {s t : Int} (h : s ≤ t) (l : List Du) : outsV s l ++ outsV t (goD s l) = outsV t l := by
  unfold outsV
  rw [srt_go]
  exact outs_split h (srt_srt _)
/-! ### The next -/
theorem next_some {now t : Int} {l : List Du} (h : OkC now l) (hn : nextV l = (t, true)) : (now < t ∧ t ≤ MaxT) ∧ (∀ d, d ∈ l → t ≤ d.due) ∧ (∃ d, d ∈ l ∧ d.due = t) ∧ (outsV t l).Pairwise fun a b => a < b := by
  have hsort := srt_srt (l.map rk)
  have hall : ∀ y, y ∈ srtI (l.map rk) → ∃ d, d ∈ l ∧ rk d = y := fun y hy => List.mem_map.1 ((srt_perm _).subset hy)
  unfold nextV at hn
  cases e : srtI (l.map rk) with
  | nil => rw [e] at hn; simp at hn
  | cons x S =>
    rw [e] at hn hsort
    have hx : x.pri = t := by simpa using congrArg Prod.fst hn
    obtain ⟨d, hd, hdx⟩ := hall x (by rw [e]; exact List.mem_cons_self)
    have hdt : d.due = t := by rw [← hx, ← hdx]; rfl
    have hm := h.mem hd
    have hge : ∀ y, y ∈ x :: S → t ≤ y.pri := fun y hy => by
      rcases List.mem_cons.1 hy with rfl | hy
      · omega
      · have := (List.pairwise_cons.1 hsort).1 y hy
        unfold lessI at this
        simp only [decide_eq_false_iff_not] at this
        omega
    refine ⟨by rw [← hdt]; exact hm.2, fun d' hd' => ?_, ⟨d, hd, hdt⟩, ?_⟩
    · have : rk d' ∈ srtI (l.map rk) := (srt_perm _).symm.subset (List.mem_map_of_mem hd')
      rw [e] at this
      exact hge _ this
    · have hid := (h.idn.perm (srt_perm (l.map rk))).2
      unfold outsV outsI
      rw [e] at hid ⊢
      rw [List.pairwise_map]
      have hp := (hsort.and hid).sublist (List.filter_sublist (p := fun x : It => decide (x.pri ≤ t)))
      refine hp.imp_of_mem fun {a b} ha hb hab => ?_
      obtain ⟨ha1, ha2⟩ := List.mem_filter.1 ha
      obtain ⟨hb1, hb2⟩ := List.mem_filter.1 hb
      have h1 := hge a ha1; have h2 := hge b hb1
      rw [← e] at ha1 hb1
      obtain ⟨da, _, rfl⟩ := hall a ha1
      obtain ⟨db, _, rfl⟩ := hall b hb1
      have k1 := hab.1; have k2 := hab.2
      unfold lessI at k1
      simp only [decide_eq_false_iff_not, decide_eq_true_eq] at k1 ha2 hb2
      have a1 : (rk da).id = da.id := rfl
      have a2 : (rk da).pri = da.due := rfl
      have a3 : (rk da).seq = 0 := rfl
      have b1 : (rk db).id = db.id := rfl
      have b2 : (rk db).pri = db.due := rfl
      have b3 : (rk db).seq = 0 := rfl
      omega
theorem next_none {l : List Du} (hn : nextV l = (0, false)) : l = [] := by
  unfold nextV at hn
  cases e : srtI (l.map rk) with
  | nil =>
    have := (srt_perm (l.map rk)).length_eq
    rw [e, List.length_map] at this
    exact List.length_eq_zero_iff.1 this.symm
  | cons x S => rw [e] at hn; simp at hn
theorem next_or (l : List Du) : (∃ t, nextV l = (t, true)) ∨ nextV l = (0, false) := by
  unfold nextV
  cases srtI (l.map rk) with
  | nil => exact .inr rfl
  | cons x S => exact .inl ⟨_, rfl⟩
theorem outs_before {t : Int} {l : List Du} (h : ∀ d, d ∈ l → t ≤ d.due) : outsV (t - 1) l = [] := by
  rw [List.eq_nil_iff_forall_not_mem]
  intro id hid
  obtain ⟨d, hd, _, k⟩ := mem_outs.1 hid
  have := h d hd; omega
theorem go_before {t : Int} {l : List Du} (h : ∀ d, d ∈ l → t ≤ d.due) : goD (t - 1) l = l := by
  unfold goD
  rw [List.filter_eq_self]
  intro d hd
  have := h d hd
  simp; omega
theorem outs_at {t : Int} {l : List Du} (ha : Asc l) (h : ∀ d, d ∈ l → t ≤ d.due) {id : Int} (hid : id ∈ outsV t l) : whenV l id = (t, true) := by
  obtain ⟨d, hd, rfl, k⟩ := mem_outs.1 hid
  have := h d hd
  rw [when_mem ha hd, show d.due = t by omega]
end Go.Proofs.Ytnlelckfhlcbgaa

namespace Go.Proofs.Ytnlelckfhlcbgaa
open Go Go.Idl
set_option linter.unusedSimpArgs false
set_option linter.unusedVariables false
set_option maxRecDepth 100000
set_option maxHeartbeats 4000000
attribute [local irreducible] Go.Idl.IWP Go.Idl.IOps Go.Idl.Obl Go.Idl.OpG Go.Idl.thenI Go.Idl.inBlockI Go.Idl.LoopU Go.Idl.noGotoI Go.Idl.jumpI
attribute [local go_sem] List.length_set
def dixV (p : Du → Bool) (L : List Du) : Int := if L.findIdx p < L.length then (L.findIdx p : Int) else -1
theorem dix_hit {p : Du → Bool} {L : List Du} {i : Nat} (h : i < L.length) (he : p (gd L i) = true) (hn : ∀ j, j < i → p (gd L j) = false) : dixV p L = i := by
  have : L.findIdx p = i := by
    rw [List.findIdx_eq h]
    refine ⟨by rw [← gd_eq h]; simpa using he, fun j hj => ?_⟩
    have := hn j hj
    rw [gd_eq (by omega)] at this
    simpa using this
  unfold dixV; rw [this, if_pos h]
theorem dix_miss {p : Du → Bool} {L : List Du} (hn : ∀ j, j < L.length → p (gd L j) = false) : dixV p L = -1 := by
  have : L.findIdx p = L.length := by
    rw [List.findIdx_eq_length]
    intro x hx
    obtain ⟨j, hj, rfl⟩ := List.getElem_of_mem hx
    have := hn j hj
    rw [gd_eq hj] at this
    simpa using this
  unfold dixV; rw [this, if_neg (Nat.lt_irrefl _)]
theorem dix_or (p : Du → Bool) (L : List Du) : (∃ i, i < L.length ∧ p (gd L i) = true ∧ (∀ j, j < i → p (gd L j) = false) ∧ dixV p L = i) ∨ ((∀ j, j < L.length → p (gd L j) = false) ∧ dixV p L = -1) := by
  by_cases h : L.findIdx p < L.length
  · refine .inl ⟨L.findIdx p, h, ?_, fun j hj => ?_, ?_⟩
    · rw [gd_eq h]; exact List.findIdx_getElem
    · rw [gd_eq (by omega)]; simpa using List.not_of_lt_findIdx hj
    · unfold dixV; rw [if_pos h]
  · have hn : ∀ j, j < L.length → p (gd L j) = false := fun j hj => by
      rw [gd_eq hj]; simpa using List.not_of_lt_findIdx (p := p) (xs := L) (i := j) (by omega)
    exact .inr ⟨hn, dix_miss hn⟩
/-- Those kept so far stand at the head, those to come where they stood. -/
structure DI (p : Du → Bool) (L N : List Du) (i j : Nat) : Prop where
  len : N.length = L.length
  ij : i ≤ j
  head : N.take i = (L.take j).filter fun x => !p x
  tail : ∀ q, j ≤ q → gd N q = gd L q
theorem take_snoc {L : List Du} {j : Nat} (h : j < L.length) : L.take (j + 1) = L.take j ++ [gd L j] := by
  rw [gd_eq h]; exact List.take_succ_eq_append_getElem h
theorem DI.skip {p : Du → Bool} {L N : List Du} {i j : Nat} (h : DI p L N i j) (hj : j < L.length) (hp : p (gd L j) = true) : DI p L N i (j + 1) :=
  ⟨h.len, Nat.le_succ_of_le h.ij, by rw [take_snoc hj, List.filter_append, h.head, List.filter_cons_of_neg (by rw [hp]; decide)]; simp, fun q hq => h.tail q (by omega)⟩
theorem DI.keep {p : Du → Bool} {L N : List Du} {i j : Nat} (h : DI p L N i j) (hj : j < L.length) (hp : p (gd L j) = false) : DI p L (N.set i (gd L j)) (i + 1) (j + 1) where
  len := by rw [List.length_set, h.len]
  ij := Nat.succ_le_succ h.ij
  head := by
    have h1 := h.len; have h2 := h.ij
    have hi : i < (N.set i (gd L j)).length := by rw [List.length_set]; omega
    rw [take_snoc hi, gd_eq hi, List.getElem_set_self, List.take_set_of_le (Nat.le_refl i), h.head, take_snoc hj, List.filter_append, List.filter_cons_of_pos (by rw [hp]; rfl)]
    simp
  tail := fun q hq => by
    have h2 := h.ij
    rw [← h.tail q (by omega)]
    unfold gd
    simp only [List.getD_eq_getElem?_getD]
    rw [List.getElem?_set_ne (by omega)]
theorem DI.start {p : Du → Bool} {L : List Du} {i : Nat} (h : i < L.length) (he : p (gd L i) = true) (hn : ∀ j, j < i → p (gd L j) = false) : DI p L L i (i + 1) where
  len := rfl
  ij := Nat.le_succ _
  head := by
    rw [take_snoc h, List.filter_append]
    have : (L.take i).filter (fun x => !p x) = L.take i := by
      rw [List.filter_eq_self]
      intro x hx
      obtain ⟨j, hj, rfl⟩ := List.getElem_of_mem hx
      rw [List.length_take] at hj
      have := hn j (by omega)
      rw [gd_eq (by omega)] at this
      simpa using this
    rw [this, List.filter_cons_of_neg (by rw [he]; decide)]; simp
  tail := fun _ _ => rfl
theorem DI.stop {p : Du → Bool} {L N : List Du} {i : Nat} (h : DI p L N i L.length) : N.take i = L.filter fun x => !p x := by rw [h.head, List.take_length]
section
variable {p : Du → Bool} {kf : FuncId} {v : Int} (hp : ∀ x : Du, Idl.Spec Try.prog kf [.agg [.sc (.int .i64 x.id), .sc (.int .i64 x.due)], .ptr 0 0] [.box [.i64 v]] (Only (.sc (.bool (p x))) [.box [.i64 v]]))
include hp
theorem dindex_spec (L : List Du) (hL : L.length ≤ 1000000) : Idl.Spec Try.prog 78 [.sl 0 0 L.length L.length 2, .fn (.func kf) [] [.ptr 1 0]] [.arr false (dues L), .box [.i64 v]] (Only (.i64 (dixV p L)) [.arr false (dues L), .box [.i64 v]]) := by
  refine sB Try.func78 Try.ntmps78 ?_
  repeat' (first|refine IOps_nil ?_|refine oS ?_|refine IOps_s rfl rfl ?_|refine oT ?_|refine IOps_s0 rfl ?_|refine oZ ?_|refine oI ?_|refine thenI_n ?_|refine IWP_seq ?_|refine IWP_region ?_|refine IWP_ct rfl ?_|refine IWP_cf rfl ?_|refine IWP_skip ?_|refine IWP_ret ?_|refine IWP_block ?_|refine inB_n ?_|refine thenI_r ?_|refine thenI_e ?_|refine inB_r ?_|refine inB_hit ?_|refine inB_miss rfl ?_|refine IWP_exit ?_|refine IWP_scope ?_|refine IWP_label ?_|refine noG_n ?_|refine noG_r ?_|refine noG_e ?_|refine jmp_n ?_|refine jmp_r ?_|refine jmp_e ?_|refine jmp_g ?_|refine thenI_g ?_|refine inB_g ?_|refine IWP_goto ?_|refine Loop_n ?_|fail)
  refine IWP_loop (fun i : Nat => ⟨19, [(0, .sl 0 0 L.length L.length 2), (1, .fn (.func kf) [] [.ptr 1 0]), (6, .sl 0 0 L.length L.length 2), (7, .i64 L.length), (8, .i64 i)], [.arr false (dues L), .box [.i64 v]]⟩) (fun i => i ≤ L.length ∧ ∀ j, j < i → p (gd L j) = false) (fun i => L.length - i) 0 (lP [0, 1]) ⟨Nat.zero_le _, fun j h => by omega⟩ ?_
  rintro i ⟨hi, hn⟩
  by_cases h : i < L.length
  · have hpx := hp (gd L i)
    cases he : p (gd L i)
    · rw [he] at hpx
      repeat' (first|refine IOps_nil ?_|refine oS ?_|refine IOps_s rfl rfl ?_|refine oT ?_|refine IOps_s0 rfl ?_|refine oC (π:=[1]) (hs:=by first|exact hpx|fail) (hx:=?_)|refine oC0 (π:=[1]) (hs:=by first|exact hpx|fail) (hx:=?_)|refine oZ ?_|refine oI ?_|refine thenI_n ?_|refine IWP_seq ?_|refine IWP_region ?_|refine IWP_ct rfl ?_|refine IWP_cf rfl ?_|refine IWP_skip ?_|refine IWP_ret ?_|refine IWP_block ?_|refine inB_n ?_|refine thenI_r ?_|refine thenI_e ?_|refine inB_r ?_|refine inB_hit ?_|refine inB_miss rfl ?_|refine IWP_exit ?_|refine IWP_scope ?_|refine IWP_label ?_|refine noG_n ?_|refine noG_r ?_|refine noG_e ?_|refine jmp_n ?_|refine jmp_r ?_|refine jmp_e ?_|refine jmp_g ?_|refine thenI_g ?_|refine inB_g ?_|refine IWP_goto ?_|refine Loop_n ?_|fail)
      exact ⟨i + 1, ⟨h, fun j hj => by
        by_cases e : j = i
        · subst e; exact he
        · exact hn j (by omega)⟩, by omega, lP [0, 1]⟩
    · rw [he] at hpx
      rw [dix_hit h he hn]
      repeat' (first|refine IOps_nil ?_|refine oS ?_|refine IOps_s rfl rfl ?_|refine oT ?_|refine IOps_s0 rfl ?_|refine oC (π:=[1]) (hs:=by first|exact hpx|fail) (hx:=?_)|refine oC0 (π:=[1]) (hs:=by first|exact hpx|fail) (hx:=?_)|refine oZ ?_|refine oI ?_|refine thenI_n ?_|refine IWP_seq ?_|refine IWP_region ?_|refine IWP_ct rfl ?_|refine IWP_cf rfl ?_|refine IWP_skip ?_|refine IWP_ret ?_|refine IWP_block ?_|refine inB_n ?_|refine thenI_r ?_|refine thenI_e ?_|refine inB_r ?_|refine inB_hit ?_|refine inB_miss rfl ?_|refine IWP_exit ?_|refine IWP_scope ?_|refine IWP_label ?_|refine noG_n ?_|refine noG_r ?_|refine noG_e ?_|refine jmp_n ?_|refine jmp_r ?_|refine jmp_e ?_|refine jmp_g ?_|refine thenI_g ?_|refine inB_g ?_|refine IWP_goto ?_|refine Loop_n ?_|fail)
      exact pD [0, 1] ⟨rfl, rfl⟩
  · rw [dix_miss fun j hj => hn j (by omega)]
    repeat' (first|refine IOps_nil ?_|refine oS ?_|refine IOps_s rfl rfl ?_|refine oT ?_|refine IOps_s0 rfl ?_|refine oC (π:=[1]) (hs:=by first|exact hp _|fail) (hx:=?_)|refine oC0 (π:=[1]) (hs:=by first|exact hp _|fail) (hx:=?_)|refine oZ ?_|refine oI ?_|refine thenI_n ?_|refine IWP_seq ?_|refine IWP_region ?_|refine IWP_ct rfl ?_|refine IWP_cf rfl ?_|refine IWP_skip ?_|refine IWP_ret ?_|refine IWP_block ?_|refine inB_n ?_|refine thenI_r ?_|refine thenI_e ?_|refine inB_r ?_|refine inB_hit ?_|refine inB_miss rfl ?_|refine IWP_exit ?_|refine IWP_scope ?_|refine IWP_label ?_|refine noG_n ?_|refine noG_r ?_|refine noG_e ?_|refine jmp_n ?_|refine jmp_r ?_|refine jmp_e ?_|refine jmp_g ?_|refine thenI_g ?_|refine inB_g ?_|refine IWP_goto ?_|refine Loop_n ?_|fail)
    exact pD [0, 1] ⟨rfl, rfl⟩
theorem ddel_spec (L : List Du) (hL : L.length ≤ 1000000) : Idl.Spec Try.prog 65 [.sl 0 0 L.length L.length 2, .fn (.func kf) [] [.ptr 1 0]] [.arr false (dues L), .box [.i64 v]]
    (Only (.sl 0 0 (L.filter fun x => !p x).length L.length 2) [.arr false (dues (L.filter fun x => !p x)), .box [.i64 v]]) := by
  have hix := dindex_spec hp L hL
  rcases dix_or p L with ⟨i, h1, h2, h3, h4⟩ | ⟨h3, h4⟩
  · rw [h4] at hix
    refine sB Try.func65 Try.ntmps65 ?_
    repeat' (first|refine IOps_nil ?_|refine oS ?_|refine IOps_s rfl rfl ?_|refine oT ?_|refine IOps_s0 rfl ?_|refine oC (π:=[0, 1]) (hs:=by first|exact hix|fail) (hx:=?_)|refine oC0 (π:=[0, 1]) (hs:=by first|exact hix|fail) (hx:=?_)|refine oZ ?_|refine oI ?_|refine thenI_n ?_|refine IWP_seq ?_|refine IWP_region ?_|refine IWP_ct rfl ?_|refine IWP_cf rfl ?_|refine IWP_skip ?_|refine IWP_ret ?_|refine IWP_block ?_|refine inB_n ?_|refine thenI_r ?_|refine thenI_e ?_|refine inB_r ?_|refine inB_hit ?_|refine inB_miss rfl ?_|refine IWP_exit ?_|refine IWP_scope ?_|refine IWP_label ?_|refine noG_n ?_|refine noG_r ?_|refine noG_e ?_|refine jmp_n ?_|refine jmp_r ?_|refine jmp_e ?_|refine jmp_g ?_|refine thenI_g ?_|refine inB_g ?_|refine IWP_goto ?_|refine Loop_n ?_|fail)
    refine IWP_loop (fun x : List Du × Nat × Nat => ⟨42, [(0, .sl 0 0 L.length L.length 2), (1, .fn (.func kf) [] [.ptr 1 0]), (5, .i64 x.2.1), (6, .i64 x.2.2)], [.arr false (dues x.1), .box [.i64 v]]⟩) (fun x => x.2.2 ≤ L.length ∧ DI p L x.1 x.2.1 x.2.2) (fun x => L.length - x.2.2) (L, i, i + 1) (lP [0, 1]) ⟨h1, .start h1 h2 h3⟩ ?_
    rintro ⟨N, i, j⟩ ⟨hj, hD⟩
    have hlen := hD.len; have hij := hD.ij
    simp only at hj hlen hij ⊢
    by_cases h : j < L.length
    · have hg : N.getD j default = gd L j := hD.tail j (Nat.le_refl j)
      have hpx := hp (gd L j)
      cases he : p (gd L j)
      · rw [he, ← hg] at hpx
        repeat' (first|refine IOps_nil ?_|refine oS ?_|refine IOps_s rfl rfl ?_|refine oT ?_|refine IOps_s0 rfl ?_|refine oC (π:=[1]) (hs:=by first|exact hpx|fail) (hx:=?_)|refine oC0 (π:=[1]) (hs:=by first|exact hpx|fail) (hx:=?_)|refine oZ ?_|refine oI ?_|refine thenI_n ?_|refine IWP_seq ?_|refine IWP_region ?_|refine IWP_ct rfl ?_|refine IWP_cf rfl ?_|refine IWP_skip ?_|refine IWP_ret ?_|refine IWP_block ?_|refine inB_n ?_|refine thenI_r ?_|refine thenI_e ?_|refine inB_r ?_|refine inB_hit ?_|refine inB_miss rfl ?_|refine IWP_exit ?_|refine IWP_scope ?_|refine IWP_label ?_|refine noG_n ?_|refine noG_r ?_|refine noG_e ?_|refine jmp_n ?_|refine jmp_r ?_|refine jmp_e ?_|refine jmp_g ?_|refine thenI_g ?_|refine inB_g ?_|refine IWP_goto ?_|refine Loop_n ?_|fail)
        rw [hg] at *
        exact ⟨(N.set i (gd L j), i + 1, j + 1), ⟨h, hD.keep h he⟩, by simp only; omega, lP [0, 1]⟩
      · rw [he, ← hg] at hpx
        repeat' (first|refine IOps_nil ?_|refine oS ?_|refine IOps_s rfl rfl ?_|refine oT ?_|refine IOps_s0 rfl ?_|refine oC (π:=[1]) (hs:=by first|exact hpx|fail) (hx:=?_)|refine oC0 (π:=[1]) (hs:=by first|exact hpx|fail) (hx:=?_)|refine oZ ?_|refine oI ?_|refine thenI_n ?_|refine IWP_seq ?_|refine IWP_region ?_|refine IWP_ct rfl ?_|refine IWP_cf rfl ?_|refine IWP_skip ?_|refine IWP_ret ?_|refine IWP_block ?_|refine inB_n ?_|refine thenI_r ?_|refine thenI_e ?_|refine inB_r ?_|refine inB_hit ?_|refine inB_miss rfl ?_|refine IWP_exit ?_|refine IWP_scope ?_|refine IWP_label ?_|refine noG_n ?_|refine noG_r ?_|refine noG_e ?_|refine jmp_n ?_|refine jmp_r ?_|refine jmp_e ?_|refine jmp_g ?_|refine thenI_g ?_|refine inB_g ?_|refine IWP_goto ?_|refine Loop_n ?_|fail)
        exact ⟨(N, i, j + 1), ⟨h, hD.skip h he⟩, by simp only; omega, lP [0, 1]⟩
    · obtain rfl : j = L.length := by omega
      repeat' (first|refine IOps_nil ?_|refine oS ?_|refine IOps_s rfl rfl ?_|refine oT ?_|refine IOps_s0 rfl ?_|refine oC (π:=[1]) (hs:=by first|exact hp _|fail) (hx:=?_)|refine oC0 (π:=[1]) (hs:=by first|exact hp _|fail) (hx:=?_)|refine oZ ?_|refine oI ?_|refine thenI_n ?_|refine IWP_seq ?_|refine IWP_region ?_|refine IWP_ct rfl ?_|refine IWP_cf rfl ?_|refine IWP_skip ?_|refine IWP_block ?_|refine inB_n ?_|refine thenI_r ?_|refine thenI_e ?_|refine inB_r ?_|refine inB_hit ?_|refine inB_miss rfl ?_|refine IWP_exit ?_|refine IWP_scope ?_|refine IWP_label ?_|refine noG_n ?_|refine noG_r ?_|refine noG_e ?_|refine jmp_n ?_|refine jmp_r ?_|refine jmp_e ?_|refine jmp_g ?_|refine thenI_g ?_|refine inB_g ?_|refine IWP_goto ?_|refine Loop_n ?_|fail)
      replace hD : DI p L N i L.length := hD
      have hst := hD.stop
      have hfl : (L.filter fun x => !p x).length = i := by rw [← hst, List.length_take]; omega
      have hcc : (splice (dues N) (i * 2) (dues (List.replicate (L.length - i) default))).take (i * 2) = dues (L.filter fun x => !p x) := by
        rw [← hst, ← dues_take]
        unfold splice
        rw [List.take_append_of_le_length (by rw [List.length_take, dues_length]; omega), List.take_take, Nat.min_self]
      refine wT 0 (i * 2) (hc := hcc) ?_
      rw [hfl]
      repeat' (first|refine IOps_nil ?_|refine oS ?_|refine IOps_s rfl rfl ?_|refine oT ?_|refine IOps_s0 rfl ?_|refine oZ ?_|refine oI ?_|refine thenI_n ?_|refine IWP_seq ?_|refine IWP_region ?_|refine IWP_ct rfl ?_|refine IWP_cf rfl ?_|refine IWP_skip ?_|refine IWP_ret ?_|refine IWP_block ?_|refine inB_n ?_|refine thenI_r ?_|refine thenI_e ?_|refine inB_r ?_|refine inB_hit ?_|refine inB_miss rfl ?_|refine IWP_exit ?_|refine IWP_scope ?_|refine IWP_label ?_|refine noG_n ?_|refine noG_r ?_|refine noG_e ?_|refine jmp_n ?_|refine jmp_r ?_|refine jmp_e ?_|refine jmp_g ?_|refine thenI_g ?_|refine inB_g ?_|refine IWP_goto ?_|refine Loop_n ?_|fail)
      exact pD [0, 1] ⟨rfl, rfl⟩
  · rw [h4] at hix
    rw [List.filter_eq_self.2 (fun x hx => by
      obtain ⟨j, hj, rfl⟩ := List.getElem_of_mem hx
      have := h3 j hj
      rw [gd_eq hj] at this
      simpa using this)]
    refine sB Try.func65 Try.ntmps65 ?_
    repeat' (first|refine IOps_nil ?_|refine oS ?_|refine IOps_s rfl rfl ?_|refine oT ?_|refine IOps_s0 rfl ?_|refine oC (π:=[0, 1]) (hs:=by first|exact hix|fail) (hx:=?_)|refine oC0 (π:=[0, 1]) (hs:=by first|exact hix|fail) (hx:=?_)|refine oZ ?_|refine oI ?_|refine thenI_n ?_|refine IWP_seq ?_|refine IWP_region ?_|refine IWP_ct rfl ?_|refine IWP_cf rfl ?_|refine IWP_skip ?_|refine IWP_ret ?_|refine IWP_block ?_|refine inB_n ?_|refine thenI_r ?_|refine thenI_e ?_|refine inB_r ?_|refine inB_hit ?_|refine inB_miss rfl ?_|refine IWP_exit ?_|refine IWP_scope ?_|refine IWP_label ?_|refine noG_n ?_|refine noG_r ?_|refine noG_e ?_|refine jmp_n ?_|refine jmp_r ?_|refine jmp_e ?_|refine jmp_g ?_|refine thenI_g ?_|refine inB_g ?_|refine IWP_goto ?_|refine Loop_n ?_|fail)
    exact pD [0, 1] ⟨rfl, rfl⟩
end
end Go.Proofs.Ytnlelckfhlcbgaa

namespace Go.Proofs.Ytnlelckfhlcbgaa
open Go Go.Idl
set_option linter.unusedSimpArgs false
set_option linter.unusedVariables false
set_option maxRecDepth 100000
set_option maxHeartbeats 4000000
theorem Spec.weak {P : Program} {f : FuncId} {xs : List IV} {h H : List HO} {Y Z : IV} (s : Idl.Spec P f xs h (Only Y H)) (hw : ∀ F v, R F Y v → R F Z v) (hf : Z.fresh = true) : Idl.Spec P f xs h (Only Z H) :=
  ⟨s.call, by rintro y h' ⟨rfl, rfl⟩; exact ⟨hf, (s.fresh _ _ ⟨rfl, rfl⟩).2⟩, fun F w vs a b c => (s.runs F w vs a b c).mono fun _ _ ⟨v, G, y, h', h1, h2, h3, h4⟩ => ⟨v, G, Z, H, h1, ⟨rfl, rfl⟩, h2.2 ▸ h3, hw _ _ (h2.1 ▸ h4)⟩⟩
theorem Spec.mid0 {P : Program} {f : FuncId} {xs : List IV} {h H : List HO} {a e : IV} (s : Idl.Spec P f xs h (Only (.tup [a, .sc (.slice none 0 0), e]) H)) : Idl.Spec P f xs h (Only (.tup [a, .fz true [] 0, e]) H) := by
  refine Spec.weak s (fun F v hv => ?_) ?_
  · cases hv with
    | tup h => cases h with
      | cons h1 t => cases t with
        | cons h2 t => exact .tup (.cons h1 (.cons (by cases h2; exact .fznil) t))
  · have := (s.fresh _ _ ⟨rfl, rfl⟩).1
    simpa [IV.fresh, IV.freshL] using this
attribute [local irreducible] Go.Idl.IWP Go.Idl.IOps Go.Idl.Obl Go.Idl.OpG Go.Idl.thenI Go.Idl.inBlockI Go.Idl.LoopU Go.Idl.noGotoI Go.Idl.jumpI
attribute [local go_sem] List.length_set splice2 splice3 splice_dues
theorem set1_spec (id : Int) (x : Du) : Idl.Spec Try.prog 54 [.agg [.sc (.int .i64 x.id), .sc (.int .i64 x.due)], .ptr 0 0] [.box [.i64 id]] (Only (.sc (.bool (decide (x.id = id)))) [.box [.i64 id]]) := by
  refine sB Try.func54 Try.ntmps54 ?_
  repeat' (first|refine IOps_nil ?_|refine oS ?_|refine IOps_s rfl rfl ?_|refine oT ?_|refine IOps_s0 rfl ?_|refine oZ ?_|refine oI ?_|refine thenI_n ?_|refine IWP_seq ?_|refine IWP_region ?_|refine IWP_ct rfl ?_|refine IWP_cf rfl ?_|refine IWP_skip ?_|refine IWP_ret ?_|refine IWP_block ?_|refine inB_n ?_|refine thenI_r ?_|refine thenI_e ?_|refine inB_r ?_|refine inB_hit ?_|refine inB_miss rfl ?_|refine IWP_exit ?_|refine IWP_scope ?_|refine IWP_label ?_|refine noG_n ?_|refine noG_r ?_|refine noG_e ?_|refine jmp_n ?_|refine jmp_r ?_|refine jmp_e ?_|refine jmp_g ?_|refine thenI_g ?_|refine inB_g ?_|refine IWP_goto ?_|refine Loop_n ?_|fail)
  exact pD [0] ⟨rfl, rfl⟩
theorem drop1_spec (id : Int) (x : Du) : Idl.Spec Try.prog 58 [.agg [.sc (.int .i64 x.id), .sc (.int .i64 x.due)], .ptr 0 0] [.box [.i64 id]] (Only (.sc (.bool (decide (x.id = id)))) [.box [.i64 id]]) := by
  refine sB Try.func58 Try.ntmps58 ?_
  repeat' (first|refine IOps_nil ?_|refine oS ?_|refine IOps_s rfl rfl ?_|refine oT ?_|refine IOps_s0 rfl ?_|refine oZ ?_|refine oI ?_|refine thenI_n ?_|refine IWP_seq ?_|refine IWP_region ?_|refine IWP_ct rfl ?_|refine IWP_cf rfl ?_|refine IWP_skip ?_|refine IWP_ret ?_|refine IWP_block ?_|refine inB_n ?_|refine thenI_r ?_|refine thenI_e ?_|refine inB_r ?_|refine inB_hit ?_|refine inB_miss rfl ?_|refine IWP_exit ?_|refine IWP_scope ?_|refine IWP_label ?_|refine noG_n ?_|refine noG_r ?_|refine noG_e ?_|refine jmp_n ?_|refine jmp_r ?_|refine jmp_e ?_|refine jmp_g ?_|refine thenI_g ?_|refine inB_g ?_|refine IWP_goto ?_|refine Loop_n ?_|fail)
  exact pD [0] ⟨rfl, rfl⟩
theorem tick1_spec (now : Int) (x : Du) : Idl.Spec Try.prog 53 [.agg [.sc (.int .i64 x.id), .sc (.int .i64 x.due)], .ptr 0 0] [.box [.i64 now]] (Only (.sc (.bool (decide (x.due ≤ now)))) [.box [.i64 now]]) := by
  refine sB Try.func53 Try.ntmps53 ?_
  repeat' (first|refine IOps_nil ?_|refine oS ?_|refine IOps_s rfl rfl ?_|refine oT ?_|refine IOps_s0 rfl ?_|refine oZ ?_|refine oI ?_|refine thenI_n ?_|refine IWP_seq ?_|refine IWP_region ?_|refine IWP_ct rfl ?_|refine IWP_cf rfl ?_|refine IWP_skip ?_|refine IWP_ret ?_|refine IWP_block ?_|refine inB_n ?_|refine thenI_r ?_|refine thenI_e ?_|refine inB_r ?_|refine inB_hit ?_|refine inB_miss rfl ?_|refine IWP_exit ?_|refine IWP_scope ?_|refine IWP_label ?_|refine noG_n ?_|refine noG_r ?_|refine noG_e ?_|refine jmp_n ?_|refine jmp_r ?_|refine jmp_e ?_|refine jmp_g ?_|refine thenI_g ?_|refine inB_g ?_|refine IWP_goto ?_|refine Loop_n ?_|fail)
  exact pD [0] ⟨rfl, rfl⟩
def cmpZ (a b : Int) : Int := if a < b then -1 else if b < a then 1 else 0
theorem isnan_spec (a : Int) : Idl.Spec Try.prog 67 [.i64 a] [] (Only (.sc (.bool false)) []) := by
  refine sB Try.func67 Try.ntmps67 ?_
  repeat' (first|refine IOps_nil ?_|refine oS ?_|refine IOps_s rfl rfl ?_|refine oT ?_|refine IOps_s0 rfl ?_|refine oZ ?_|refine oI ?_|refine thenI_n ?_|refine IWP_seq ?_|refine IWP_region ?_|refine IWP_ct rfl ?_|refine IWP_cf rfl ?_|refine IWP_skip ?_|refine IWP_ret ?_|refine IWP_block ?_|refine inB_n ?_|refine thenI_r ?_|refine thenI_e ?_|refine inB_r ?_|refine inB_hit ?_|refine inB_miss rfl ?_|refine IWP_exit ?_|refine IWP_scope ?_|refine IWP_label ?_|refine noG_n ?_|refine noG_r ?_|refine noG_e ?_|refine jmp_n ?_|refine jmp_r ?_|refine jmp_e ?_|refine jmp_g ?_|refine thenI_g ?_|refine inB_g ?_|refine IWP_goto ?_|refine Loop_n ?_|fail)
  exact pD [] ⟨rfl, rfl⟩
theorem compare_spec (a b : Int) : Idl.Spec Try.prog 57 [.i64 a, .i64 b] [] (Only (.i64 (cmpZ a b)) []) := by
  by_cases h1 : a < b
  · rw [show cmpZ a b = -1 by simp [cmpZ, h1]]
    refine sB Try.func57 Try.ntmps57 ?_
    repeat' (first|refine IOps_nil ?_|refine oS ?_|refine IOps_s rfl rfl ?_|refine oT ?_|refine IOps_s0 rfl ?_|refine oC (π:=[]) (hs:=by first|exact isnan_spec _|fail) (hx:=?_)|refine oZ ?_|refine oI ?_|refine thenI_n ?_|refine IWP_seq ?_|refine IWP_region ?_|refine IWP_ct rfl ?_|refine IWP_cf rfl ?_|refine IWP_skip ?_|refine IWP_ret ?_|refine IWP_block ?_|refine inB_n ?_|refine thenI_r ?_|refine thenI_e ?_|refine inB_r ?_|refine inB_hit ?_|refine inB_miss rfl ?_|refine IWP_exit ?_|refine IWP_scope ?_|refine IWP_label ?_|refine noG_n ?_|refine noG_r ?_|refine noG_e ?_|refine jmp_n ?_|refine jmp_r ?_|refine jmp_e ?_|refine jmp_g ?_|refine thenI_g ?_|refine inB_g ?_|refine IWP_goto ?_|refine Loop_n ?_|fail)
    exact pD [] ⟨rfl, rfl⟩
  · by_cases h2 : b < a
    · rw [show cmpZ a b = 1 by simp [cmpZ, h1, h2]]
      refine sB Try.func57 Try.ntmps57 ?_
      repeat' (first|refine IOps_nil ?_|refine oS ?_|refine IOps_s rfl rfl ?_|refine oT ?_|refine IOps_s0 rfl ?_|refine oC (π:=[]) (hs:=by first|exact isnan_spec _|fail) (hx:=?_)|refine oZ ?_|refine oI ?_|refine thenI_n ?_|refine IWP_seq ?_|refine IWP_region ?_|refine IWP_ct rfl ?_|refine IWP_cf rfl ?_|refine IWP_skip ?_|refine IWP_ret ?_|refine IWP_block ?_|refine inB_n ?_|refine thenI_r ?_|refine thenI_e ?_|refine inB_r ?_|refine inB_hit ?_|refine inB_miss rfl ?_|refine IWP_exit ?_|refine IWP_scope ?_|refine IWP_label ?_|refine noG_n ?_|refine noG_r ?_|refine noG_e ?_|refine jmp_n ?_|refine jmp_r ?_|refine jmp_e ?_|refine jmp_g ?_|refine thenI_g ?_|refine inB_g ?_|refine IWP_goto ?_|refine Loop_n ?_|fail)
      exact pD [] ⟨rfl, rfl⟩
    · rw [show cmpZ a b = 0 by simp [cmpZ, h1, h2]]
      refine sB Try.func57 Try.ntmps57 ?_
      repeat' (first|refine IOps_nil ?_|refine oS ?_|refine IOps_s rfl rfl ?_|refine oT ?_|refine IOps_s0 rfl ?_|refine oC (π:=[]) (hs:=by first|exact isnan_spec _|fail) (hx:=?_)|refine oZ ?_|refine oI ?_|refine thenI_n ?_|refine IWP_seq ?_|refine IWP_region ?_|refine IWP_ct rfl ?_|refine IWP_cf rfl ?_|refine IWP_skip ?_|refine IWP_ret ?_|refine IWP_block ?_|refine inB_n ?_|refine thenI_r ?_|refine thenI_e ?_|refine inB_r ?_|refine inB_hit ?_|refine inB_miss rfl ?_|refine IWP_exit ?_|refine IWP_scope ?_|refine IWP_label ?_|refine noG_n ?_|refine noG_r ?_|refine noG_e ?_|refine jmp_n ?_|refine jmp_r ?_|refine jmp_e ?_|refine jmp_g ?_|refine thenI_g ?_|refine inB_g ?_|refine IWP_goto ?_|refine Loop_n ?_|fail)
      exact pD [] ⟨rfl, rfl⟩
theorem set2_spec (a b : Du) : Idl.Spec Try.prog 56 [.agg [.sc (.int .i64 a.id), .sc (.int .i64 a.due)], .agg [.sc (.int .i64 b.id), .sc (.int .i64 b.due)]] [] (Only (.i64 (cmpZ a.id b.id)) []) := by
  refine sB Try.func56 Try.ntmps56 ?_
  repeat' (first|refine IOps_nil ?_|refine oS ?_|refine IOps_s rfl rfl ?_|refine oT ?_|refine IOps_s0 rfl ?_|refine oC (π:=[]) (hs:=by first|exact compare_spec _ _|fail) (hx:=?_)|refine oZ ?_|refine oI ?_|refine thenI_n ?_|refine IWP_seq ?_|refine IWP_region ?_|refine IWP_ct rfl ?_|refine IWP_cf rfl ?_|refine IWP_skip ?_|refine IWP_ret ?_|refine IWP_block ?_|refine inB_n ?_|refine thenI_r ?_|refine thenI_e ?_|refine inB_r ?_|refine inB_hit ?_|refine inB_miss rfl ?_|refine IWP_exit ?_|refine IWP_scope ?_|refine IWP_label ?_|refine noG_n ?_|refine noG_r ?_|refine noG_e ?_|refine jmp_n ?_|refine jmp_r ?_|refine jmp_e ?_|refine jmp_g ?_|refine thenI_g ?_|refine inB_g ?_|refine IWP_goto ?_|refine Loop_n ?_|fail)
  exact pD [] ⟨rfl, rfl⟩
theorem cmpZ_ord : OrdL fun x y : Du => decide (cmpZ x.id y.id < 0) := by
  have e : (fun x y : Du => decide (cmpZ x.id y.id < 0)) = fun x y => decide (x.id < y.id) := by
    funext x y; unfold cmpZ; congr 1
    split
    · simp; assumption
    · split <;> simp <;> omega
  rw [e]
  exact ⟨fun x y h => by simp at h ⊢; omega, fun x y z h k => by simp at h k ⊢; omega⟩
section
variable {p : Du → Bool} {kf : FuncId} {v : Int} (hp : ∀ x : Du, Idl.Spec Try.prog kf [.agg [.sc (.int .i64 x.id), .sc (.int .i64 x.due)], .ptr 0 0] [.box [.i64 v]] (Only (.sc (.bool (p x))) [.box [.i64 v]]))
include hp
theorem dwithout_spec (now : Int) (l : List Du) (hL : l.length ≤ 1000000) : Idl.Spec Try.prog 52 [.agg [.i64 now, .fz false (dues l) l.length], .fn (.func kf) [] [.ptr 0 0]] [.box [.i64 v]]
    (Only (.agg [.i64 now, .sl 1 0 (l.filter fun x => !p x).length l.length 2]) [.box [.i64 v], .arr true (dues (l.filter fun x => !p x))]) := by
  have hd := ddel_spec hp l hL
  refine sB Try.func52 Try.ntmps52 ?_
  repeat' (first|refine IOps_nil ?_|refine oS ?_|refine IOps_s rfl rfl ?_|refine oT ?_|refine IOps_s0 rfl ?_|refine oC (π:=[]) (hs:=by first|exact dcopied_spec now l hL|fail) (hx:=?_)|refine oC (π:=[3, 0]) (hs:=by first|exact hd|fail) (hx:=?_)|refine oC0 (π:=[3, 0]) (hs:=by first|exact hd|fail) (hx:=?_)|refine oZ ?_|refine oI ?_|refine thenI_n ?_|refine IWP_seq ?_|refine IWP_region ?_|refine IWP_ct rfl ?_|refine IWP_cf rfl ?_|refine IWP_skip ?_|refine IWP_ret ?_|refine IWP_block ?_|refine inB_n ?_|refine thenI_r ?_|refine thenI_e ?_|refine inB_r ?_|refine inB_hit ?_|refine inB_miss rfl ?_|refine IWP_exit ?_|refine IWP_scope ?_|refine IWP_label ?_|refine noG_n ?_|refine noG_r ?_|refine noG_e ?_|refine jmp_n ?_|refine jmp_r ?_|refine jmp_e ?_|refine jmp_g ?_|refine thenI_g ?_|refine inB_g ?_|refine IWP_goto ?_|refine Loop_n ?_|fail)
  exact pD [0, 3] ⟨rfl, rfl⟩
end
theorem ranked_spec (now : Int) (l : List Du) (hc : OkC now l) : Idl.Spec Try.prog 49 [.agg [.i64 now, .fz false (dues l) l.length]] []
    (Ex (fun M : List It => chk M = true ∧ M.Perm (l.map rk)) (fun M => .fz true (items M) M.length) (fun _ => [])) := by
  have hl := hc.len
  refine sE Try.func49 Try.ntmps49 ?_
  repeat' (first|refine IOps_nil ?_|refine oS ?_|refine IOps_s rfl rfl ?_|refine oT ?_|refine IOps_s0 rfl ?_|refine oZ ?_|refine oI ?_|refine thenI_n ?_|refine IWP_seq ?_|refine IWP_region ?_|refine IWP_ct rfl ?_|refine IWP_cf rfl ?_|refine IWP_skip ?_|refine IWP_ret ?_|refine IWP_block ?_|refine inB_n ?_|refine thenI_r ?_|refine thenI_e ?_|refine inB_r ?_|refine inB_hit ?_|refine inB_miss rfl ?_|refine IWP_exit ?_|refine IWP_scope ?_|refine IWP_label ?_|refine noG_n ?_|refine noG_r ?_|refine noG_e ?_|refine jmp_n ?_|refine jmp_r ?_|refine jmp_e ?_|refine jmp_g ?_|refine thenI_g ?_|refine inB_g ?_|refine IWP_goto ?_|refine Loop_n ?_|fail)
  refine wN0 3 ?_
  refine IWP_loop (fun x : List It × Nat => ⟨26, [(1, .ptr 0 0), (3, .fz true (items x.1) x.1.length), (7, .fz false (dues l) l.length), (8, .i64 l.length), (9, .i64 x.2)], [.box [.i64 now, .fz false (dues l) l.length]]⟩) (fun x => x.2 ≤ l.length ∧ chk x.1 = true ∧ x.1.Perm ((l.take x.2).map rk)) (fun x => l.length - x.2) ([], 0) (lP [0]) ⟨Nat.zero_le _, by decide, .refl _⟩ ?_
  rintro ⟨M, i⟩ ⟨hi, hM, hp⟩
  simp only at hi hM hp ⊢
  have hM64 : M.length ≤ 64 := ((chk_iff M).1 hM).1.len
  by_cases h : i < l.length
  · have hm := hc.mem (d := gd l i) (by rw [gd_eq h]; exact List.getElem_mem h)
    have h00 := hc.1.1
    have hx0 : 0 ≤ (l.getD i default).due := by have := hm.2.1; show 0 ≤ (gd l i).due; omega
    have hx1 : (l.getD i default).due ≤ 1099511627776 := hm.2.2
    repeat' (first|refine IOps_nil ?_|refine oS ?_|refine IOps_s rfl rfl ?_|refine oT ?_|refine IOps_s0 rfl ?_|refine oZ ?_|refine oI ?_|refine thenI_n ?_|refine IWP_seq ?_|refine IWP_region ?_|refine IWP_ct rfl ?_|refine IWP_cf rfl ?_|refine IWP_skip ?_|refine IWP_ret ?_|refine IWP_block ?_|refine inB_n ?_|refine thenI_r ?_|refine thenI_e ?_|refine inB_r ?_|refine inB_hit ?_|refine inB_miss rfl ?_|refine IWP_exit ?_|refine IWP_scope ?_|refine IWP_label ?_|refine noG_n ?_|refine noG_r ?_|refine noG_e ?_|refine jmp_n ?_|refine jmp_r ?_|refine jmp_e ?_|refine jmp_g ?_|refine thenI_g ?_|refine inB_g ?_|refine IWP_goto ?_|refine Loop_n ?_|fail)
    refine oE [] (hs := set_c M (rk (gd l i)) hM64 hM hm.1) (hx := ?_)
    rintro N ⟨hN, hq⟩
    repeat' (first|refine IOps_nil ?_|refine oS ?_|refine IOps_s rfl rfl ?_|refine oT ?_|refine IOps_s0 rfl ?_|refine oZ ?_|refine oI ?_|refine thenI_n ?_|refine IWP_seq ?_|refine IWP_region ?_|refine IWP_ct rfl ?_|refine IWP_cf rfl ?_|refine IWP_skip ?_|refine IWP_ret ?_|refine IWP_block ?_|refine inB_n ?_|refine thenI_r ?_|refine thenI_e ?_|refine inB_r ?_|refine inB_hit ?_|refine inB_miss rfl ?_|refine IWP_exit ?_|refine IWP_scope ?_|refine IWP_label ?_|refine noG_n ?_|refine noG_r ?_|refine noG_e ?_|refine jmp_n ?_|refine jmp_r ?_|refine jmp_e ?_|refine jmp_g ?_|refine thenI_g ?_|refine inB_g ?_|refine IWP_goto ?_|refine Loop_n ?_|fail)
    exact ⟨(N, i + 1), ⟨h, hN, rank_step hc h hp hq⟩, by simp only; omega, lP [0]⟩
  · obtain rfl : i = l.length := by omega
    repeat' (first|refine IOps_nil ?_|refine oS ?_|refine IOps_s rfl rfl ?_|refine oT ?_|refine IOps_s0 rfl ?_|refine oZ ?_|refine oI ?_|refine thenI_n ?_|refine IWP_seq ?_|refine IWP_region ?_|refine IWP_ct rfl ?_|refine IWP_cf rfl ?_|refine IWP_skip ?_|refine IWP_ret ?_|refine IWP_block ?_|refine inB_n ?_|refine thenI_r ?_|refine thenI_e ?_|refine inB_r ?_|refine inB_hit ?_|refine inB_miss rfl ?_|refine IWP_exit ?_|refine IWP_scope ?_|refine IWP_label ?_|refine noG_n ?_|refine noG_r ?_|refine noG_e ?_|refine jmp_n ?_|refine jmp_r ?_|refine jmp_e ?_|refine jmp_g ?_|refine thenI_g ?_|refine inB_g ?_|refine IWP_goto ?_|refine Loop_n ?_|fail)
    exact pX [] M ⟨hM, by rwa [List.take_length] at hp⟩ rfl
theorem when_spec (now : Int) (l : List Du) (id : Int) (hL : l.length ≤ 1000000) : Idl.Spec Try.prog 33 [.agg [.i64 now, .fz false (dues l) l.length], .i64 id] [] (Only (.tup [.i64 (whenC now l id).1, .sc (.bool (whenC now l id).2)]) []) := by
  have hk := dcheck_spec now l hL
  cases hc : chkC now l
  · rw [hc] at hk
    rw [show whenC now l id = (0, false) by unfold whenC; rw [hc]; rfl]
    refine sB Try.func33 Try.ntmps33 ?_
    repeat' (first|refine IOps_nil ?_|refine oS ?_|refine IOps_s rfl rfl ?_|refine oT ?_|refine IOps_s0 rfl ?_|refine oC (π:=[]) (hs:=by first|exact hk|fail) (hx:=?_)|refine oZ ?_|refine oI ?_|refine thenI_n ?_|refine IWP_seq ?_|refine IWP_region ?_|refine IWP_ct rfl ?_|refine IWP_cf rfl ?_|refine IWP_skip ?_|refine IWP_ret ?_|refine IWP_block ?_|refine inB_n ?_|refine thenI_r ?_|refine thenI_e ?_|refine inB_r ?_|refine inB_hit ?_|refine inB_miss rfl ?_|refine IWP_exit ?_|refine IWP_scope ?_|refine IWP_label ?_|refine noG_n ?_|refine noG_r ?_|refine noG_e ?_|refine jmp_n ?_|refine jmp_r ?_|refine jmp_e ?_|refine jmp_g ?_|refine thenI_g ?_|refine inB_g ?_|refine IWP_goto ?_|refine Loop_n ?_|fail)
    exact pD [] ⟨rfl, rfl⟩
  · rw [hc] at hk
    rw [show whenC now l id = whenV l id by unfold whenC; rw [hc]; rfl]
    have ho : OkC now l := of_decide_eq_true hc
    refine sB Try.func33 Try.ntmps33 ?_
    repeat' (first|refine IOps_nil ?_|refine oS ?_|refine IOps_s rfl rfl ?_|refine oT ?_|refine IOps_s0 rfl ?_|refine oC (π:=[]) (hs:=by first|exact hk|fail) (hx:=?_)|refine oZ ?_|refine oI ?_|refine thenI_n ?_|refine IWP_seq ?_|refine IWP_region ?_|refine IWP_ct rfl ?_|refine IWP_cf rfl ?_|refine IWP_skip ?_|refine IWP_ret ?_|refine IWP_block ?_|refine inB_n ?_|refine thenI_r ?_|refine thenI_e ?_|refine inB_r ?_|refine inB_hit ?_|refine inB_miss rfl ?_|refine IWP_exit ?_|refine IWP_scope ?_|refine IWP_label ?_|refine noG_n ?_|refine noG_r ?_|refine noG_e ?_|refine jmp_n ?_|refine jmp_r ?_|refine jmp_e ?_|refine jmp_g ?_|refine thenI_g ?_|refine inB_g ?_|refine IWP_goto ?_|refine Loop_n ?_|fail)
    refine oE [] (hs := ranked_spec now l ho) (hx := ?_)
    rintro M ⟨hM, hp⟩
    have hlen : M.length ≤ 64 := ((chk_iff M).1 hM).1.len
    have hf := find_spec M id (by omega)
    rcases rank_when ho hp id with ⟨x, h1, h2, h3, h4⟩ | ⟨h1, h4⟩
    · rw [h1] at hf; rw [h4]
      repeat' (first|refine IOps_nil ?_|refine oS ?_|refine IOps_s rfl rfl ?_|refine oT ?_|refine IOps_s0 rfl ?_|refine oC (π:=[]) (hs:=by first|exact hf|fail) (hx:=?_)|refine oC (π:=[]) (hs:=by first|exact at_some x h2 h3|fail) (hx:=?_)|refine oZ ?_|refine oI ?_|refine thenI_n ?_|refine IWP_seq ?_|refine IWP_region ?_|refine IWP_ct rfl ?_|refine IWP_cf rfl ?_|refine IWP_skip ?_|refine IWP_ret ?_|refine IWP_block ?_|refine inB_n ?_|refine thenI_r ?_|refine thenI_e ?_|refine inB_r ?_|refine inB_hit ?_|refine inB_miss rfl ?_|refine IWP_exit ?_|refine IWP_scope ?_|refine IWP_label ?_|refine noG_n ?_|refine noG_r ?_|refine noG_e ?_|refine jmp_n ?_|refine jmp_r ?_|refine jmp_e ?_|refine jmp_g ?_|refine thenI_g ?_|refine inB_g ?_|refine IWP_goto ?_|refine Loop_n ?_|fail)
      exact pD [] ⟨rfl, rfl⟩
    · rw [h1] at hf; rw [h4]
      repeat' (first|refine IOps_nil ?_|refine oS ?_|refine IOps_s rfl rfl ?_|refine oT ?_|refine IOps_s0 rfl ?_|refine oC (π:=[]) (hs:=by first|exact hf|fail) (hx:=?_)|refine oC (π:=[]) (hs:=by first|exact at_none default|fail) (hx:=?_)|refine oZ ?_|refine oI ?_|refine thenI_n ?_|refine IWP_seq ?_|refine IWP_region ?_|refine IWP_ct rfl ?_|refine IWP_cf rfl ?_|refine IWP_skip ?_|refine IWP_ret ?_|refine IWP_block ?_|refine inB_n ?_|refine thenI_r ?_|refine thenI_e ?_|refine inB_r ?_|refine inB_hit ?_|refine inB_miss rfl ?_|refine IWP_exit ?_|refine IWP_scope ?_|refine IWP_label ?_|refine noG_n ?_|refine noG_r ?_|refine noG_e ?_|refine jmp_n ?_|refine jmp_r ?_|refine jmp_e ?_|refine jmp_g ?_|refine thenI_g ?_|refine inB_g ?_|refine IWP_goto ?_|refine Loop_n ?_|fail)
      exact pD [] ⟨rfl, rfl⟩
theorem dnext_spec (now : Int) (l : List Du) (hL : l.length ≤ 1000000) : Idl.Spec Try.prog 38 [.agg [.i64 now, .fz false (dues l) l.length]] [] (Only (.tup [.i64 (nextC now l).1, .sc (.bool (nextC now l).2)]) []) := by
  have hk := dcheck_spec now l hL
  cases hc : chkC now l
  · rw [hc] at hk
    rw [show nextC now l = (0, false) by unfold nextC; rw [hc]; rfl]
    refine sB Try.func38 Try.ntmps38 ?_
    repeat' (first|refine IOps_nil ?_|refine oS ?_|refine IOps_s rfl rfl ?_|refine oT ?_|refine IOps_s0 rfl ?_|refine oC (π:=[]) (hs:=by first|exact hk|fail) (hx:=?_)|refine oZ ?_|refine oI ?_|refine thenI_n ?_|refine IWP_seq ?_|refine IWP_region ?_|refine IWP_ct rfl ?_|refine IWP_cf rfl ?_|refine IWP_skip ?_|refine IWP_ret ?_|refine IWP_block ?_|refine inB_n ?_|refine thenI_r ?_|refine thenI_e ?_|refine inB_r ?_|refine inB_hit ?_|refine inB_miss rfl ?_|refine IWP_exit ?_|refine IWP_scope ?_|refine IWP_label ?_|refine noG_n ?_|refine noG_r ?_|refine noG_e ?_|refine jmp_n ?_|refine jmp_r ?_|refine jmp_e ?_|refine jmp_g ?_|refine thenI_g ?_|refine inB_g ?_|refine IWP_goto ?_|refine Loop_n ?_|fail)
    exact pD [] ⟨rfl, rfl⟩
  · rw [hc] at hk
    rw [show nextC now l = nextV l by unfold nextC; rw [hc]; rfl]
    have ho : OkC now l := of_decide_eq_true hc
    refine sB Try.func38 Try.ntmps38 ?_
    repeat' (first|refine IOps_nil ?_|refine oS ?_|refine IOps_s rfl rfl ?_|refine oT ?_|refine IOps_s0 rfl ?_|refine oC (π:=[]) (hs:=by first|exact hk|fail) (hx:=?_)|refine oZ ?_|refine oI ?_|refine thenI_n ?_|refine IWP_seq ?_|refine IWP_region ?_|refine IWP_ct rfl ?_|refine IWP_cf rfl ?_|refine IWP_skip ?_|refine IWP_ret ?_|refine IWP_block ?_|refine inB_n ?_|refine thenI_r ?_|refine thenI_e ?_|refine inB_r ?_|refine inB_hit ?_|refine inB_miss rfl ?_|refine IWP_exit ?_|refine IWP_scope ?_|refine IWP_label ?_|refine noG_n ?_|refine noG_r ?_|refine noG_e ?_|refine jmp_n ?_|refine jmp_r ?_|refine jmp_e ?_|refine jmp_g ?_|refine thenI_g ?_|refine inB_g ?_|refine IWP_goto ?_|refine Loop_n ?_|fail)
    refine oE [] (hs := ranked_spec now l ho) (hx := ?_)
    rintro M ⟨hM, hp⟩
    have hlen : M.length ≤ 64 := ((chk_iff M).1 hM).1.len
    have hf := min_spec M (by omega)
    rcases rank_next ho hM hp with ⟨x, h1, h2, h3, h4⟩ | ⟨h1, h4⟩
    · rw [h1] at hf; rw [h4]
      repeat' (first|refine IOps_nil ?_|refine oS ?_|refine IOps_s rfl rfl ?_|refine oT ?_|refine IOps_s0 rfl ?_|refine oC (π:=[]) (hs:=by first|exact hf|fail) (hx:=?_)|refine oC (π:=[]) (hs:=by first|exact at_some x h2 h3|fail) (hx:=?_)|refine oZ ?_|refine oI ?_|refine thenI_n ?_|refine IWP_seq ?_|refine IWP_region ?_|refine IWP_ct rfl ?_|refine IWP_cf rfl ?_|refine IWP_skip ?_|refine IWP_ret ?_|refine IWP_block ?_|refine inB_n ?_|refine thenI_r ?_|refine thenI_e ?_|refine inB_r ?_|refine inB_hit ?_|refine inB_miss rfl ?_|refine IWP_exit ?_|refine IWP_scope ?_|refine IWP_label ?_|refine noG_n ?_|refine noG_r ?_|refine noG_e ?_|refine jmp_n ?_|refine jmp_r ?_|refine jmp_e ?_|refine jmp_g ?_|refine thenI_g ?_|refine inB_g ?_|refine IWP_goto ?_|refine Loop_n ?_|fail)
      exact pD [] ⟨rfl, rfl⟩
    · rw [h1] at hf; rw [h4]
      repeat' (first|refine IOps_nil ?_|refine oS ?_|refine IOps_s rfl rfl ?_|refine oT ?_|refine IOps_s0 rfl ?_|refine oC (π:=[]) (hs:=by first|exact hf|fail) (hx:=?_)|refine oC (π:=[]) (hs:=by first|exact at_none default|fail) (hx:=?_)|refine oZ ?_|refine oI ?_|refine thenI_n ?_|refine IWP_seq ?_|refine IWP_region ?_|refine IWP_ct rfl ?_|refine IWP_cf rfl ?_|refine IWP_skip ?_|refine IWP_ret ?_|refine IWP_block ?_|refine inB_n ?_|refine thenI_r ?_|refine thenI_e ?_|refine inB_r ?_|refine inB_hit ?_|refine inB_miss rfl ?_|refine IWP_exit ?_|refine IWP_scope ?_|refine IWP_label ?_|refine noG_n ?_|refine noG_r ?_|refine noG_e ?_|refine jmp_n ?_|refine jmp_r ?_|refine jmp_e ?_|refine jmp_g ?_|refine thenI_g ?_|refine inB_g ?_|refine IWP_goto ?_|refine Loop_n ?_|fail)
      exact pD [] ⟨rfl, rfl⟩
end Go.Proofs.Ytnlelckfhlcbgaa

namespace Go.Proofs.Ytnlelckfhlcbgaa
open Go Go.Idl
set_option linter.unusedSimpArgs false
set_option linter.unusedVariables false
set_option maxRecDepth 100000
set_option maxHeartbeats 4000000
attribute [local irreducible] Go.Idl.IWP Go.Idl.IOps Go.Idl.Obl Go.Idl.OpG Go.Idl.thenI Go.Idl.inBlockI Go.Idl.LoopU Go.Idl.noGotoI Go.Idl.jumpI
attribute [local go_sem] List.length_set splice2 splice3 splice_dues
theorem outs_take {t : Int} {S : List It} {i : Nat} (h : i < S.length) : outsI t (S.take (i + 1)) = outsI t (S.take i) ++ if (S.getD i default).pri ≤ t then [(S.getD i default).id] else [] := by
  unfold outsI
  rw [List.take_succ_eq_append_getElem h, List.filter_append, List.map_append, List.getD_eq_getElem?_getD, List.getElem?_eq_getElem h]
  congr 1
  by_cases e : S[i].pri ≤ t
  · simp [e]
  · simp [e]
theorem outs_len {t : Int} (S : List It) (i : Nat) : (outsI t (S.take i)).length ≤ i := by
  unfold outsI
  rw [List.length_map]
  exact Nat.le_trans (List.length_filter_le _ _) (by rw [List.length_take]; omega)
theorem woD_len (id : Int) (l : List Du) : (woD id l).length ≤ l.length := List.length_filter_le _ _
theorem dset_spec (now : Int) (l : List Du) (id after : Int) (hL : l.length ≤ 1000000) : Idl.Spec Try.prog 39 [.agg [.i64 now, .fz false (dues l) l.length], .i64 id, .i64 after] []
    (Only (.tup [.agg [.i64 now, .fz true (dues (setV now l id after).1) (setV now l id after).1.length], .i64 (setV now l id after).2]) []) := by
  have hk := dcheck_spec now l hL
  cases hc : chkC now l
  · rw [hc] at hk
    rw [show setV now l id after = (l, 120) by unfold setV; rw [hc]; rfl]
    refine sB Try.func39 Try.ntmps39 ?_
    repeat' (first|refine IOps_nil ?_|refine oS ?_|refine IOps_s rfl rfl ?_|refine oT ?_|refine IOps_s0 rfl ?_|refine oC (π:=[]) (hs:=by first|exact hk|fail) (hx:=?_)|refine oC (π:=[]) (hs:=by first|exact dcopied_spec now l hL|fail) (hx:=?_)|refine oZ ?_|refine oI ?_|refine thenI_n ?_|refine IWP_seq ?_|refine IWP_region ?_|refine IWP_ct rfl ?_|refine IWP_cf rfl ?_|refine IWP_skip ?_|refine IWP_block ?_|refine inB_n ?_|refine thenI_r ?_|refine thenI_e ?_|refine inB_r ?_|refine inB_hit ?_|refine inB_miss rfl ?_|refine IWP_exit ?_|refine IWP_scope ?_|refine IWP_label ?_|refine noG_n ?_|refine noG_r ?_|refine noG_e ?_|refine jmp_n ?_|refine jmp_r ?_|refine jmp_e ?_|refine jmp_g ?_|refine thenI_g ?_|refine inB_g ?_|refine IWP_goto ?_|refine Loop_n ?_|fail)
    refine wB 2 [.i64 now] [] ?_
    repeat' (first|refine IOps_nil ?_|refine oS ?_|refine IOps_s rfl rfl ?_|refine oT ?_|refine IOps_s0 rfl ?_|refine oZ ?_|refine oI ?_|refine thenI_n ?_|refine IWP_seq ?_|refine IWP_region ?_|refine IWP_ct rfl ?_|refine IWP_cf rfl ?_|refine IWP_skip ?_|refine IWP_ret ?_|refine IWP_block ?_|refine inB_n ?_|refine thenI_r ?_|refine thenI_e ?_|refine inB_r ?_|refine inB_hit ?_|refine inB_miss rfl ?_|refine IWP_exit ?_|refine IWP_scope ?_|refine IWP_label ?_|refine noG_n ?_|refine noG_r ?_|refine noG_e ?_|refine jmp_n ?_|refine jmp_r ?_|refine jmp_e ?_|refine jmp_g ?_|refine thenI_g ?_|refine inB_g ?_|refine IWP_goto ?_|refine Loop_n ?_|fail)
    exact pD [] ⟨rfl, rfl⟩
  · rw [hc] at hk
    have hnm := dnamed_spec id
    have ho : OkC now l := of_decide_eq_true hc
    have h0 := ho.1.1; have h1 : now ≤ 1099511627776 := ho.1.2
    by_cases hn : 0 ≤ id ∧ id < 64
    · rw [decide_eq_true hn] at hnm
      by_cases ha : after < 1
      · rw [show setV now l id after = (l, 170) by unfold setV; rw [hc]; simp [hn, ha]]
        refine sB Try.func39 Try.ntmps39 ?_
        repeat' (first|refine IOps_nil ?_|refine oS ?_|refine IOps_s rfl rfl ?_|refine oT ?_|refine IOps_s0 rfl ?_|refine oC (π:=[]) (hs:=by first|exact hk|fail) (hx:=?_)|refine oC (π:=[]) (hs:=by first|exact dcopied_spec now l hL|fail) (hx:=?_)|refine oC (π:=[]) (hs:=by first|exact hnm|fail) (hx:=?_)|refine oZ ?_|refine oI ?_|refine thenI_n ?_|refine IWP_seq ?_|refine IWP_region ?_|refine IWP_ct rfl ?_|refine IWP_cf rfl ?_|refine IWP_skip ?_|refine IWP_block ?_|refine inB_n ?_|refine thenI_r ?_|refine thenI_e ?_|refine inB_r ?_|refine inB_hit ?_|refine inB_miss rfl ?_|refine IWP_exit ?_|refine IWP_scope ?_|refine IWP_label ?_|refine noG_n ?_|refine noG_r ?_|refine noG_e ?_|refine jmp_n ?_|refine jmp_r ?_|refine jmp_e ?_|refine jmp_g ?_|refine thenI_g ?_|refine inB_g ?_|refine IWP_goto ?_|refine Loop_n ?_|fail)
        refine wB 2 [.i64 now] [] ?_
        repeat' (first|refine IOps_nil ?_|refine oS ?_|refine IOps_s rfl rfl ?_|refine oT ?_|refine IOps_s0 rfl ?_|refine oZ ?_|refine oI ?_|refine thenI_n ?_|refine IWP_seq ?_|refine IWP_region ?_|refine IWP_ct rfl ?_|refine IWP_cf rfl ?_|refine IWP_skip ?_|refine IWP_ret ?_|refine IWP_block ?_|refine inB_n ?_|refine thenI_r ?_|refine thenI_e ?_|refine inB_r ?_|refine inB_hit ?_|refine inB_miss rfl ?_|refine IWP_exit ?_|refine IWP_scope ?_|refine IWP_label ?_|refine noG_n ?_|refine noG_r ?_|refine noG_e ?_|refine jmp_n ?_|refine jmp_r ?_|refine jmp_e ?_|refine jmp_g ?_|refine thenI_g ?_|refine inB_g ?_|refine IWP_goto ?_|refine Loop_n ?_|fail)
        exact pD [] ⟨rfl, rfl⟩
      · by_cases hb : 1099511627776 - now < after
        · rw [show setV now l id after = (l, 170) by unfold setV; rw [hc]; simp [hn, hb]]
          refine sB Try.func39 Try.ntmps39 ?_
          repeat' (first|refine IOps_nil ?_|refine oS ?_|refine IOps_s rfl rfl ?_|refine oT ?_|refine IOps_s0 rfl ?_|refine oC (π:=[]) (hs:=by first|exact hk|fail) (hx:=?_)|refine oC (π:=[]) (hs:=by first|exact dcopied_spec now l hL|fail) (hx:=?_)|refine oC (π:=[]) (hs:=by first|exact hnm|fail) (hx:=?_)|refine oZ ?_|refine oI ?_|refine thenI_n ?_|refine IWP_seq ?_|refine IWP_region ?_|refine IWP_ct rfl ?_|refine IWP_cf rfl ?_|refine IWP_skip ?_|refine IWP_block ?_|refine inB_n ?_|refine thenI_r ?_|refine thenI_e ?_|refine inB_r ?_|refine inB_hit ?_|refine inB_miss rfl ?_|refine IWP_exit ?_|refine IWP_scope ?_|refine IWP_label ?_|refine noG_n ?_|refine noG_r ?_|refine noG_e ?_|refine jmp_n ?_|refine jmp_r ?_|refine jmp_e ?_|refine jmp_g ?_|refine thenI_g ?_|refine inB_g ?_|refine IWP_goto ?_|refine Loop_n ?_|fail)
          refine wB 2 [.i64 now] [] ?_
          repeat' (first|refine IOps_nil ?_|refine oS ?_|refine IOps_s rfl rfl ?_|refine oT ?_|refine IOps_s0 rfl ?_|refine oZ ?_|refine oI ?_|refine thenI_n ?_|refine IWP_seq ?_|refine IWP_region ?_|refine IWP_ct rfl ?_|refine IWP_cf rfl ?_|refine IWP_skip ?_|refine IWP_ret ?_|refine IWP_block ?_|refine inB_n ?_|refine thenI_r ?_|refine thenI_e ?_|refine inB_r ?_|refine inB_hit ?_|refine inB_miss rfl ?_|refine IWP_exit ?_|refine IWP_scope ?_|refine IWP_label ?_|refine noG_n ?_|refine noG_r ?_|refine noG_e ?_|refine jmp_n ?_|refine jmp_r ?_|refine jmp_e ?_|refine jmp_g ?_|refine thenI_g ?_|refine inB_g ?_|refine IWP_goto ?_|refine Loop_n ?_|fail)
          exact pD [] ⟨rfl, rfl⟩
        · rw [show setV now l id after = (insD ⟨id, now + after⟩ l, 0) by unfold setV; rw [hc]; simp [hn, ha, hb]]
          have hw := dwithout_spec (set1_spec id) now l hL
          change Idl.Spec _ _ _ _ (Only (.agg [.i64 now, .sl 1 0 (woD id l).length l.length 2]) [.box [.i64 id], .arr true (dues (woD id l))]) at hw
          have hle := woD_len id l
          have h64 := ho.len
          refine sB Try.func39 Try.ntmps39 ?_
          repeat' (first|refine IOps_nil ?_|refine oS ?_|refine IOps_s rfl rfl ?_|refine oT ?_|refine IOps_s0 rfl ?_|refine oC (π:=[]) (hs:=by first|exact hk|fail) (hx:=?_)|refine oC (π:=[]) (hs:=by first|exact dcopied_spec now l hL|fail) (hx:=?_)|refine oC (π:=[]) (hs:=by first|exact hnm|fail) (hx:=?_)|refine oC (π:=[1]) (hs:=by first|exact hw|fail) (hx:=?_)|refine oC0 (π:=[1]) (hs:=by first|exact hw|fail) (hx:=?_)|refine oZ ?_|refine oI ?_|refine thenI_n ?_|refine IWP_seq ?_|refine IWP_region ?_|refine IWP_ct rfl ?_|refine IWP_cf rfl ?_|refine IWP_skip ?_|refine IWP_ret ?_|refine IWP_block ?_|refine inB_n ?_|refine thenI_r ?_|refine thenI_e ?_|refine inB_r ?_|refine inB_hit ?_|refine inB_miss rfl ?_|refine IWP_exit ?_|refine IWP_scope ?_|refine IWP_label ?_|refine noG_n ?_|refine noG_r ?_|refine noG_e ?_|refine jmp_n ?_|refine jmp_r ?_|refine jmp_e ?_|refine jmp_g ?_|refine thenI_g ?_|refine inB_g ?_|refine IWP_goto ?_|refine Loop_n ?_|fail)
          have hln : (woD id l ++ [(⟨id, now + after⟩ : Du)]).length = (woD id l).length + 1 := by simp
          have hsp := dsort_spec (c := fun x y => cmpZ x.id y.id) (kc := 56) set2_spec (woD id l ++ [⟨id, now + after⟩]) ((woD id l).length + 1) cmpZ_ord (by rw [hln]; omega)
          rw [hln] at hsp
          refine oE [6] (hs := hsp) (hx := ?_)
          rintro M ⟨hM1, hM2, hM3⟩
          have e : M = insD ⟨id, now + after⟩ l := asc_uniq (hM2.trans (ins_permD ⟨id, now + after⟩ l).symm) (ho.asc.ins _) (hM3.imp fun {a b} h k => h (by simp only [cmpZ]; rw [if_pos k]; decide))
          subst e
          have hil : (insD ⟨id, now + after⟩ l).length = (woD id l).length + 1 := hM1
          repeat' (first|refine IOps_nil ?_|refine oS ?_|refine IOps_s rfl rfl ?_|refine oT ?_|refine IOps_s0 rfl ?_|refine oZ ?_|refine oI ?_|refine thenI_n ?_|refine IWP_seq ?_|refine IWP_region ?_|refine IWP_ct rfl ?_|refine IWP_cf rfl ?_|refine IWP_skip ?_|refine IWP_block ?_|refine inB_n ?_|refine thenI_r ?_|refine thenI_e ?_|refine inB_r ?_|refine inB_hit ?_|refine inB_miss rfl ?_|refine IWP_exit ?_|refine IWP_scope ?_|refine IWP_label ?_|refine noG_n ?_|refine noG_r ?_|refine noG_e ?_|refine jmp_n ?_|refine jmp_r ?_|refine jmp_e ?_|refine jmp_g ?_|refine thenI_g ?_|refine inB_g ?_|refine IWP_goto ?_|refine Loop_n ?_|fail)
          refine wB 2 [.i64 now] [] ?_
          repeat' (first|refine IOps_nil ?_|refine oS ?_|refine IOps_s rfl rfl ?_|refine oT ?_|refine IOps_s0 rfl ?_|refine oZ ?_|refine oI ?_|refine thenI_n ?_|refine IWP_seq ?_|refine IWP_region ?_|refine IWP_ct rfl ?_|refine IWP_cf rfl ?_|refine IWP_skip ?_|refine IWP_ret ?_|refine IWP_block ?_|refine inB_n ?_|refine thenI_r ?_|refine thenI_e ?_|refine inB_r ?_|refine inB_hit ?_|refine inB_miss rfl ?_|refine IWP_exit ?_|refine IWP_scope ?_|refine IWP_label ?_|refine noG_n ?_|refine noG_r ?_|refine noG_e ?_|refine jmp_n ?_|refine jmp_r ?_|refine jmp_e ?_|refine jmp_g ?_|refine thenI_g ?_|refine inB_g ?_|refine IWP_goto ?_|refine Loop_n ?_|fail)
          refine pE [] ?_
          rw [hil]
    · rw [decide_eq_false hn] at hnm
      rw [show setV now l id after = (l, 110) by unfold setV; rw [hc]; simp [hn]]
      refine sB Try.func39 Try.ntmps39 ?_
      repeat' (first|refine IOps_nil ?_|refine oS ?_|refine IOps_s rfl rfl ?_|refine oT ?_|refine IOps_s0 rfl ?_|refine oC (π:=[]) (hs:=by first|exact hk|fail) (hx:=?_)|refine oC (π:=[]) (hs:=by first|exact dcopied_spec now l hL|fail) (hx:=?_)|refine oC (π:=[]) (hs:=by first|exact hnm|fail) (hx:=?_)|refine oZ ?_|refine oI ?_|refine thenI_n ?_|refine IWP_seq ?_|refine IWP_region ?_|refine IWP_ct rfl ?_|refine IWP_cf rfl ?_|refine IWP_skip ?_|refine IWP_block ?_|refine inB_n ?_|refine thenI_r ?_|refine thenI_e ?_|refine inB_r ?_|refine inB_hit ?_|refine inB_miss rfl ?_|refine IWP_exit ?_|refine IWP_scope ?_|refine IWP_label ?_|refine noG_n ?_|refine noG_r ?_|refine noG_e ?_|refine jmp_n ?_|refine jmp_r ?_|refine jmp_e ?_|refine jmp_g ?_|refine thenI_g ?_|refine inB_g ?_|refine IWP_goto ?_|refine Loop_n ?_|fail)
      refine wB 2 [.i64 now] [] ?_
      repeat' (first|refine IOps_nil ?_|refine oS ?_|refine IOps_s rfl rfl ?_|refine oT ?_|refine IOps_s0 rfl ?_|refine oZ ?_|refine oI ?_|refine thenI_n ?_|refine IWP_seq ?_|refine IWP_region ?_|refine IWP_ct rfl ?_|refine IWP_cf rfl ?_|refine IWP_skip ?_|refine IWP_ret ?_|refine IWP_block ?_|refine inB_n ?_|refine thenI_r ?_|refine thenI_e ?_|refine inB_r ?_|refine inB_hit ?_|refine inB_miss rfl ?_|refine IWP_exit ?_|refine IWP_scope ?_|refine IWP_label ?_|refine noG_n ?_|refine noG_r ?_|refine noG_e ?_|refine jmp_n ?_|refine jmp_r ?_|refine jmp_e ?_|refine jmp_g ?_|refine thenI_g ?_|refine inB_g ?_|refine IWP_goto ?_|refine Loop_n ?_|fail)
      exact pD [] ⟨rfl, rfl⟩
theorem ddrop_spec (now : Int) (l : List Du) (id : Int) (hL : l.length ≤ 1000000) : Idl.Spec Try.prog 40 [.agg [.i64 now, .fz false (dues l) l.length], .i64 id] []
    (Only (.tup [.agg [.i64 now, .fz true (dues (dropV now l id).1) (dropV now l id).1.length], .i64 (dropV now l id).2]) []) := by
  have hk := when_spec now l id hL
  cases hc : (whenC now l id).2
  · rw [hc] at hk
    rw [show dropV now l id = (l, 120) by unfold dropV; rw [hc]; rfl]
    refine sB Try.func40 Try.ntmps40 ?_
    repeat' (first|refine IOps_nil ?_|refine oS ?_|refine IOps_s rfl rfl ?_|refine oT ?_|refine IOps_s0 rfl ?_|refine oC (π:=[]) (hs:=by first|exact hk|fail) (hx:=?_)|refine oC (π:=[]) (hs:=by first|exact dcopied_spec now l hL|fail) (hx:=?_)|refine oZ ?_|refine oI ?_|refine thenI_n ?_|refine IWP_seq ?_|refine IWP_region ?_|refine IWP_ct rfl ?_|refine IWP_cf rfl ?_|refine IWP_skip ?_|refine IWP_block ?_|refine inB_n ?_|refine thenI_r ?_|refine thenI_e ?_|refine inB_r ?_|refine inB_hit ?_|refine inB_miss rfl ?_|refine IWP_exit ?_|refine IWP_scope ?_|refine IWP_label ?_|refine noG_n ?_|refine noG_r ?_|refine noG_e ?_|refine jmp_n ?_|refine jmp_r ?_|refine jmp_e ?_|refine jmp_g ?_|refine thenI_g ?_|refine inB_g ?_|refine IWP_goto ?_|refine Loop_n ?_|fail)
    refine wB 2 [.i64 now] [] ?_
    repeat' (first|refine IOps_nil ?_|refine oS ?_|refine IOps_s rfl rfl ?_|refine oT ?_|refine IOps_s0 rfl ?_|refine oZ ?_|refine oI ?_|refine thenI_n ?_|refine IWP_seq ?_|refine IWP_region ?_|refine IWP_ct rfl ?_|refine IWP_cf rfl ?_|refine IWP_skip ?_|refine IWP_ret ?_|refine IWP_block ?_|refine inB_n ?_|refine thenI_r ?_|refine thenI_e ?_|refine inB_r ?_|refine inB_hit ?_|refine inB_miss rfl ?_|refine IWP_exit ?_|refine IWP_scope ?_|refine IWP_label ?_|refine noG_n ?_|refine noG_r ?_|refine noG_e ?_|refine jmp_n ?_|refine jmp_r ?_|refine jmp_e ?_|refine jmp_g ?_|refine thenI_g ?_|refine inB_g ?_|refine IWP_goto ?_|refine Loop_n ?_|fail)
    exact pD [] ⟨rfl, rfl⟩
  · rw [hc] at hk
    rw [show dropV now l id = (woD id l, 0) by unfold dropV; rw [hc]; rfl]
    have hw := dwithout_spec (drop1_spec id) now l hL
    change Idl.Spec _ _ _ _ (Only (.agg [.i64 now, .sl 1 0 (woD id l).length l.length 2]) [.box [.i64 id], .arr true (dues (woD id l))]) at hw
    refine sB Try.func40 Try.ntmps40 ?_
    repeat' (first|refine IOps_nil ?_|refine oS ?_|refine IOps_s rfl rfl ?_|refine oT ?_|refine IOps_s0 rfl ?_|refine oC (π:=[]) (hs:=by first|exact hk|fail) (hx:=?_)|refine oC (π:=[1]) (hs:=by first|exact hw|fail) (hx:=?_)|refine oC0 (π:=[1]) (hs:=by first|exact hw|fail) (hx:=?_)|refine oZ ?_|refine oI ?_|refine thenI_n ?_|refine IWP_seq ?_|refine IWP_region ?_|refine IWP_ct rfl ?_|refine IWP_cf rfl ?_|refine IWP_skip ?_|refine IWP_block ?_|refine inB_n ?_|refine thenI_r ?_|refine thenI_e ?_|refine inB_r ?_|refine inB_hit ?_|refine inB_miss rfl ?_|refine IWP_exit ?_|refine IWP_scope ?_|refine IWP_label ?_|refine noG_n ?_|refine noG_r ?_|refine noG_e ?_|refine jmp_n ?_|refine jmp_r ?_|refine jmp_e ?_|refine jmp_g ?_|refine thenI_g ?_|refine inB_g ?_|refine IWP_goto ?_|refine Loop_n ?_|fail)
    refine wB 2 [.i64 now] [] ?_
    repeat' (first|refine IOps_nil ?_|refine oS ?_|refine IOps_s rfl rfl ?_|refine oT ?_|refine IOps_s0 rfl ?_|refine oZ ?_|refine oI ?_|refine thenI_n ?_|refine IWP_seq ?_|refine IWP_region ?_|refine IWP_ct rfl ?_|refine IWP_cf rfl ?_|refine IWP_skip ?_|refine IWP_ret ?_|refine IWP_block ?_|refine inB_n ?_|refine thenI_r ?_|refine thenI_e ?_|refine inB_r ?_|refine inB_hit ?_|refine inB_miss rfl ?_|refine IWP_exit ?_|refine IWP_scope ?_|refine IWP_label ?_|refine noG_n ?_|refine noG_r ?_|refine noG_e ?_|refine jmp_n ?_|refine jmp_r ?_|refine jmp_e ?_|refine jmp_g ?_|refine thenI_g ?_|refine inB_g ?_|refine IWP_goto ?_|refine Loop_n ?_|fail)
    exact pD [] ⟨rfl, rfl⟩
theorem dtick_spec (now : Int) (l : List Du) (by' : Int) (hL : l.length ≤ 1000000) : Idl.Spec Try.prog 35 [.agg [.i64 now, .fz false (dues l) l.length], .i64 by'] []
    (Only (.tup [.agg [.i64 (tickV now l by').1.1, .fz true (dues (tickV now l by').1.2) (tickV now l by').1.2.length], .fz true (ints (tickV now l by').2.1) (tickV now l by').2.1.length, .i64 (tickV now l by').2.2]) []) := by
  have hk := dcheck_spec now l hL
  cases hc : chkC now l
  · rw [hc] at hk
    rw [show tickV now l by' = ((now, l), [], 120) by unfold tickV; rw [hc]; rfl]
    refine Spec.mid0 ?_
    refine sB Try.func35 Try.ntmps35 ?_
    repeat' (first|refine IOps_nil ?_|refine oS ?_|refine IOps_s rfl rfl ?_|refine oT ?_|refine IOps_s0 rfl ?_|refine oC (π:=[]) (hs:=by first|exact hk|fail) (hx:=?_)|refine oC (π:=[]) (hs:=by first|exact dcopied_spec now l hL|fail) (hx:=?_)|refine oZ ?_|refine oI ?_|refine thenI_n ?_|refine IWP_seq ?_|refine IWP_region ?_|refine IWP_ct rfl ?_|refine IWP_cf rfl ?_|refine IWP_skip ?_|refine IWP_block ?_|refine inB_n ?_|refine thenI_r ?_|refine thenI_e ?_|refine inB_r ?_|refine inB_hit ?_|refine inB_miss rfl ?_|refine IWP_exit ?_|refine IWP_scope ?_|refine IWP_label ?_|refine noG_n ?_|refine noG_r ?_|refine noG_e ?_|refine jmp_n ?_|refine jmp_r ?_|refine jmp_e ?_|refine jmp_g ?_|refine thenI_g ?_|refine inB_g ?_|refine IWP_goto ?_|refine Loop_n ?_|fail)
    refine wB 1 [.i64 now] [] ?_
    repeat' (first|refine IOps_nil ?_|refine oS ?_|refine IOps_s rfl rfl ?_|refine oT ?_|refine IOps_s0 rfl ?_|refine oZ ?_|refine oI ?_|refine thenI_n ?_|refine IWP_seq ?_|refine IWP_region ?_|refine IWP_ct rfl ?_|refine IWP_cf rfl ?_|refine IWP_skip ?_|refine IWP_ret ?_|refine IWP_block ?_|refine inB_n ?_|refine thenI_r ?_|refine thenI_e ?_|refine inB_r ?_|refine inB_hit ?_|refine inB_miss rfl ?_|refine IWP_exit ?_|refine IWP_scope ?_|refine IWP_label ?_|refine noG_n ?_|refine noG_r ?_|refine noG_e ?_|refine jmp_n ?_|refine jmp_r ?_|refine jmp_e ?_|refine jmp_g ?_|refine thenI_g ?_|refine inB_g ?_|refine IWP_goto ?_|refine Loop_n ?_|fail)
    exact pD [] ⟨rfl, rfl⟩
  · rw [hc] at hk
    have ho : OkC now l := of_decide_eq_true hc
    have h0 := ho.1.1; have h1 : now ≤ 1099511627776 := ho.1.2
    by_cases ha : by' < 0
    · rw [show tickV now l by' = ((now, l), [], 170) by unfold tickV; rw [hc]; simp [ha]]
      refine Spec.mid0 ?_
      refine sB Try.func35 Try.ntmps35 ?_
      repeat' (first|refine IOps_nil ?_|refine oS ?_|refine IOps_s rfl rfl ?_|refine oT ?_|refine IOps_s0 rfl ?_|refine oC (π:=[]) (hs:=by first|exact hk|fail) (hx:=?_)|refine oC (π:=[]) (hs:=by first|exact dcopied_spec now l hL|fail) (hx:=?_)|refine oZ ?_|refine oI ?_|refine thenI_n ?_|refine IWP_seq ?_|refine IWP_region ?_|refine IWP_ct rfl ?_|refine IWP_cf rfl ?_|refine IWP_skip ?_|refine IWP_block ?_|refine inB_n ?_|refine thenI_r ?_|refine thenI_e ?_|refine inB_r ?_|refine inB_hit ?_|refine inB_miss rfl ?_|refine IWP_exit ?_|refine IWP_scope ?_|refine IWP_label ?_|refine noG_n ?_|refine noG_r ?_|refine noG_e ?_|refine jmp_n ?_|refine jmp_r ?_|refine jmp_e ?_|refine jmp_g ?_|refine thenI_g ?_|refine inB_g ?_|refine IWP_goto ?_|refine Loop_n ?_|fail)
      refine wB 1 [.i64 now] [] ?_
      repeat' (first|refine IOps_nil ?_|refine oS ?_|refine IOps_s rfl rfl ?_|refine oT ?_|refine IOps_s0 rfl ?_|refine oZ ?_|refine oI ?_|refine thenI_n ?_|refine IWP_seq ?_|refine IWP_region ?_|refine IWP_ct rfl ?_|refine IWP_cf rfl ?_|refine IWP_skip ?_|refine IWP_ret ?_|refine IWP_block ?_|refine inB_n ?_|refine thenI_r ?_|refine thenI_e ?_|refine inB_r ?_|refine inB_hit ?_|refine inB_miss rfl ?_|refine IWP_exit ?_|refine IWP_scope ?_|refine IWP_label ?_|refine noG_n ?_|refine noG_r ?_|refine noG_e ?_|refine jmp_n ?_|refine jmp_r ?_|refine jmp_e ?_|refine jmp_g ?_|refine thenI_g ?_|refine inB_g ?_|refine IWP_goto ?_|refine Loop_n ?_|fail)
      exact pD [] ⟨rfl, rfl⟩
    · by_cases hb : 1099511627776 - now < by'
      · rw [show tickV now l by' = ((now, l), [], 170) by unfold tickV; rw [hc]; simp [ha, hb]]
        refine Spec.mid0 ?_
        refine sB Try.func35 Try.ntmps35 ?_
        repeat' (first|refine IOps_nil ?_|refine oS ?_|refine IOps_s rfl rfl ?_|refine oT ?_|refine IOps_s0 rfl ?_|refine oC (π:=[]) (hs:=by first|exact hk|fail) (hx:=?_)|refine oC (π:=[]) (hs:=by first|exact dcopied_spec now l hL|fail) (hx:=?_)|refine oZ ?_|refine oI ?_|refine thenI_n ?_|refine IWP_seq ?_|refine IWP_region ?_|refine IWP_ct rfl ?_|refine IWP_cf rfl ?_|refine IWP_skip ?_|refine IWP_block ?_|refine inB_n ?_|refine thenI_r ?_|refine thenI_e ?_|refine inB_r ?_|refine inB_hit ?_|refine inB_miss rfl ?_|refine IWP_exit ?_|refine IWP_scope ?_|refine IWP_label ?_|refine noG_n ?_|refine noG_r ?_|refine noG_e ?_|refine jmp_n ?_|refine jmp_r ?_|refine jmp_e ?_|refine jmp_g ?_|refine thenI_g ?_|refine inB_g ?_|refine IWP_goto ?_|refine Loop_n ?_|fail)
        refine wB 1 [.i64 now] [] ?_
        repeat' (first|refine IOps_nil ?_|refine oS ?_|refine IOps_s rfl rfl ?_|refine oT ?_|refine IOps_s0 rfl ?_|refine oZ ?_|refine oI ?_|refine thenI_n ?_|refine IWP_seq ?_|refine IWP_region ?_|refine IWP_ct rfl ?_|refine IWP_cf rfl ?_|refine IWP_skip ?_|refine IWP_ret ?_|refine IWP_block ?_|refine inB_n ?_|refine thenI_r ?_|refine thenI_e ?_|refine inB_r ?_|refine inB_hit ?_|refine inB_miss rfl ?_|refine IWP_exit ?_|refine IWP_scope ?_|refine IWP_label ?_|refine noG_n ?_|refine noG_r ?_|refine noG_e ?_|refine jmp_n ?_|refine jmp_r ?_|refine jmp_e ?_|refine jmp_g ?_|refine thenI_g ?_|refine inB_g ?_|refine IWP_goto ?_|refine Loop_n ?_|fail)
        exact pD [] ⟨rfl, rfl⟩
      · rw [show tickV now l by' = ((now + by', goD (now + by') l), outsV (now + by') l, 0) by unfold tickV; rw [hc]; simp [ha, hb]]
        have hw := dwithout_spec (tick1_spec (now + by')) now l hL
        change Idl.Spec _ _ _ _ (Only (.agg [.i64 now, .sl 1 0 (goD (now + by') l).length l.length 2]) [.box [.i64 (now + by')], .arr true (dues (goD (now + by') l))]) at hw
        refine sB Try.func35 Try.ntmps35 ?_
        repeat' (first|refine IOps_nil ?_|refine oS ?_|refine IOps_s rfl rfl ?_|refine oT ?_|refine IOps_s0 rfl ?_|refine oC (π:=[]) (hs:=by first|exact hk|fail) (hx:=?_)|refine oZ ?_|refine oI ?_|refine thenI_n ?_|refine IWP_seq ?_|refine IWP_region ?_|refine IWP_ct rfl ?_|refine IWP_cf rfl ?_|refine IWP_skip ?_|refine IWP_ret ?_|refine IWP_block ?_|refine inB_n ?_|refine thenI_r ?_|refine thenI_e ?_|refine inB_r ?_|refine inB_hit ?_|refine inB_miss rfl ?_|refine IWP_exit ?_|refine IWP_scope ?_|refine IWP_label ?_|refine noG_n ?_|refine noG_r ?_|refine noG_e ?_|refine jmp_n ?_|refine jmp_r ?_|refine jmp_e ?_|refine jmp_g ?_|refine thenI_g ?_|refine inB_g ?_|refine IWP_goto ?_|refine Loop_n ?_|fail)
        refine oE [] (hs := ranked_spec now l ho) (hx := ?_)
        rintro M ⟨hM, hp⟩
        have hss := sorted_spec M (by have := ((chk_iff M).1 hM).1.len; omega)
        rw [show sortedV M = srtI (l.map rk) by unfold sortedV; rw [hM, if_pos rfl, srt_of_perm hp]] at hss
        have hll : (srtI (l.map rk)).length ≤ 64 := by rw [(srt_perm _).length_eq, List.length_map]; exact ho.len
        rw [show outsV (now + by') l = outsI (now + by') (srtI (l.map rk)) from rfl]
        generalize srtI (l.map rk) = S at hss hll ⊢
        repeat' (first|refine IOps_nil ?_|refine oS ?_|refine IOps_s rfl rfl ?_|refine oT ?_|refine IOps_s0 rfl ?_|refine oC (π:=[]) (hs:=by first|exact hss|fail) (hx:=?_)|refine oZ ?_|refine oI ?_|refine thenI_n ?_|refine IWP_seq ?_|refine IWP_region ?_|refine IWP_ct rfl ?_|refine IWP_cf rfl ?_|refine IWP_skip ?_|refine IWP_ret ?_|refine IWP_block ?_|refine inB_n ?_|refine thenI_r ?_|refine thenI_e ?_|refine inB_r ?_|refine inB_hit ?_|refine inB_miss rfl ?_|refine IWP_exit ?_|refine IWP_scope ?_|refine IWP_label ?_|refine noG_n ?_|refine noG_r ?_|refine noG_e ?_|refine jmp_n ?_|refine jmp_r ?_|refine jmp_e ?_|refine jmp_g ?_|refine thenI_g ?_|refine inB_g ?_|refine IWP_goto ?_|refine Loop_n ?_|fail)
        refine wV 8 1 ?_
        refine IWP_loop (fun x : List Int × Nat => ⟨58, [(2, .ptr 0 0), (4, .ptr 1 0), (7, .ptr 2 0), (8, .sl 3 0 x.1.length x.1.length 1), (34, .fz true (items S) S.length), (35, .i64 S.length), (36, .i64 x.2)], [.box [.i64 now, .fz false (dues l) l.length], .box [.i64 0, .sc (.slice none 0 0)], .box [.i64 (now + by')], .arr true (ints x.1)]⟩) (fun x => x.2 ≤ S.length ∧ x.1 = outsI (now + by') (S.take x.2)) (fun x => S.length - x.2) ([], 0) (lP [0, 1, 2, 3]) ⟨Nat.zero_le _, rfl⟩ ?_
        rintro ⟨O, i⟩ ⟨hi, hO⟩
        simp only at hi hO ⊢
        have hOl : O.length ≤ i := by rw [hO]; exact outs_len S i
        by_cases h : i < S.length
        · have hst := outs_take (t := now + by') h
          by_cases hle : (S.getD i default).pri ≤ now + by'
          · rw [if_pos hle, ← hO] at hst
            repeat' (first|refine IOps_nil ?_|refine oS ?_|refine IOps_s rfl rfl ?_|refine oT ?_|refine IOps_s0 rfl ?_|refine oZ ?_|refine oI ?_|refine thenI_n ?_|refine IWP_seq ?_|refine IWP_region ?_|refine IWP_ct rfl ?_|refine IWP_cf rfl ?_|refine IWP_skip ?_|refine IWP_ret ?_|refine IWP_block ?_|refine inB_n ?_|refine thenI_r ?_|refine thenI_e ?_|refine inB_r ?_|refine inB_hit ?_|refine inB_miss rfl ?_|refine IWP_exit ?_|refine IWP_scope ?_|refine IWP_label ?_|refine noG_n ?_|refine noG_r ?_|refine noG_e ?_|refine jmp_n ?_|refine jmp_r ?_|refine jmp_e ?_|refine jmp_g ?_|refine thenI_g ?_|refine inB_g ?_|refine IWP_goto ?_|refine Loop_n ?_|fail)
            exact ⟨(O ++ [(S.getD i default).id], i + 1), ⟨h, hst.symm⟩, by simp only; omega, lP [0, 1, 2, 6]⟩
          · rw [if_neg hle, ← hO, List.append_nil] at hst
            repeat' (first|refine IOps_nil ?_|refine oS ?_|refine IOps_s rfl rfl ?_|refine oT ?_|refine IOps_s0 rfl ?_|refine oZ ?_|refine oI ?_|refine thenI_n ?_|refine IWP_seq ?_|refine IWP_region ?_|refine IWP_ct rfl ?_|refine IWP_cf rfl ?_|refine IWP_skip ?_|refine IWP_ret ?_|refine IWP_block ?_|refine inB_n ?_|refine thenI_r ?_|refine thenI_e ?_|refine inB_r ?_|refine inB_hit ?_|refine inB_miss rfl ?_|refine IWP_exit ?_|refine IWP_scope ?_|refine IWP_label ?_|refine noG_n ?_|refine noG_r ?_|refine noG_e ?_|refine jmp_n ?_|refine jmp_r ?_|refine jmp_e ?_|refine jmp_g ?_|refine thenI_g ?_|refine inB_g ?_|refine IWP_goto ?_|refine Loop_n ?_|fail)
            exact ⟨(O, i + 1), ⟨h, hst.symm⟩, by simp only; omega, lP [0, 1, 2, 3]⟩
        · obtain rfl : i = S.length := by omega
          rw [List.take_length] at hO
          subst hO
          repeat' (first|refine IOps_nil ?_|refine oS ?_|refine IOps_s rfl rfl ?_|refine oT ?_|refine IOps_s0 rfl ?_|refine oC (π:=[2]) (hs:=by first|exact hw|fail) (hx:=?_)|refine oC0 (π:=[2]) (hs:=by first|exact hw|fail) (hx:=?_)|refine oZ ?_|refine oI ?_|refine thenI_n ?_|refine IWP_seq ?_|refine IWP_region ?_|refine IWP_ct rfl ?_|refine IWP_cf rfl ?_|refine IWP_skip ?_|refine IWP_block ?_|refine inB_n ?_|refine thenI_r ?_|refine thenI_e ?_|refine inB_r ?_|refine inB_hit ?_|refine inB_miss rfl ?_|refine IWP_exit ?_|refine IWP_scope ?_|refine IWP_label ?_|refine noG_n ?_|refine noG_r ?_|refine noG_e ?_|refine jmp_n ?_|refine jmp_r ?_|refine jmp_e ?_|refine jmp_g ?_|refine thenI_g ?_|refine inB_g ?_|refine IWP_goto ?_|refine Loop_n ?_|fail)
          refine wF 5 ?_
          refine wB 1 [.i64 (now + by')] [] ?_
          repeat' (first|refine IOps_nil ?_|refine oS ?_|refine IOps_s rfl rfl ?_|refine oT ?_|refine IOps_s0 rfl ?_|refine oZ ?_|refine oI ?_|refine thenI_n ?_|refine IWP_seq ?_|refine IWP_region ?_|refine IWP_ct rfl ?_|refine IWP_cf rfl ?_|refine IWP_skip ?_|refine IWP_ret ?_|refine IWP_block ?_|refine inB_n ?_|refine thenI_r ?_|refine thenI_e ?_|refine inB_r ?_|refine inB_hit ?_|refine inB_miss rfl ?_|refine IWP_exit ?_|refine IWP_scope ?_|refine IWP_label ?_|refine noG_n ?_|refine noG_r ?_|refine noG_e ?_|refine jmp_n ?_|refine jmp_r ?_|refine jmp_e ?_|refine jmp_g ?_|refine thenI_g ?_|refine inB_g ?_|refine IWP_goto ?_|refine Loop_n ?_|fail)
          exact pD [] ⟨rfl, rfl⟩
end Go.Proofs.Ytnlelckfhlcbgaa

namespace Go.Proofs.Ytnlelckfhlcbgaa
open Go Go.Idl
set_option linter.unusedSimpArgs false
set_option linter.unusedVariables false
set_option maxRecDepth 100000
set_option maxHeartbeats 4000000
attribute [local irreducible] Go.Idl.IWP Go.Idl.IOps Go.Idl.Obl Go.Idl.OpG Go.Idl.thenI Go.Idl.inBlockI Go.Idl.LoopU Go.Idl.noGotoI Go.Idl.jumpI
attribute [local go_sem] List.length_set splice2 splice3 splice_dues
theorem isame_spec (a b : List Int) (ha : a.length ≤ 1000000) : Idl.Spec Try.prog 37 [.fz false (ints a) a.length, .fz false (ints b) b.length] [] (Only (.sc (.bool (decide (a = b)))) []) := by
  by_cases h : a.length = b.length
  · refine sB Try.func37 Try.ntmps37 ?_
    repeat' (first|refine IOps_nil ?_|refine oS ?_|refine IOps_s rfl rfl ?_|refine oT ?_|refine IOps_s0 rfl ?_|refine oZ ?_|refine oI ?_|refine thenI_n ?_|refine IWP_seq ?_|refine IWP_region ?_|refine IWP_ct rfl ?_|refine IWP_cf rfl ?_|refine IWP_skip ?_|refine IWP_ret ?_|refine IWP_block ?_|refine inB_n ?_|refine thenI_r ?_|refine thenI_e ?_|refine inB_r ?_|refine inB_hit ?_|refine inB_miss rfl ?_|refine IWP_exit ?_|refine IWP_scope ?_|refine IWP_label ?_|refine noG_n ?_|refine noG_r ?_|refine noG_e ?_|refine jmp_n ?_|refine jmp_r ?_|refine jmp_e ?_|refine jmp_g ?_|refine thenI_g ?_|refine inB_g ?_|refine IWP_goto ?_|refine Loop_n ?_|refine oD (id:=6) W37_6 [] O37_6 [_,_,_,_,_,_,_,_,_] [_] rfl (by repeat' (first|exact trivial|refine And.intro ?_ ?_|exact bS|exact bX|exact bZ|exact bI|fail)) ?_|fail)
    refine IWP_loop (fun i : Nat => ⟨26, [(0, .fz false (ints a) a.length), (1, .fz false (ints b) b.length), (4, .sc (.bool false)), (5, .i64 i)], []⟩) (fun i => i ≤ a.length ∧ ∀ j, j < i → a.getD j 0 = b.getD j 0) (fun i => a.length - i) 0 (lP []) ⟨by omega, fun j hj => by omega⟩ ?_
    rintro i ⟨hi, hpre⟩
    by_cases hia : i < a.length
    · by_cases hn : a.getD i 0 = b.getD i 0
      · repeat' (first|refine IOps_nil ?_|refine oS ?_|refine IOps_s rfl rfl ?_|refine oT ?_|refine IOps_s0 rfl ?_|refine oZ ?_|refine oI ?_|refine thenI_n ?_|refine IWP_seq ?_|refine IWP_region ?_|refine IWP_ct rfl ?_|refine IWP_cf rfl ?_|refine IWP_skip ?_|refine IWP_ret ?_|refine IWP_block ?_|refine inB_n ?_|refine thenI_r ?_|refine thenI_e ?_|refine inB_r ?_|refine inB_hit ?_|refine inB_miss rfl ?_|refine IWP_exit ?_|refine IWP_scope ?_|refine IWP_label ?_|refine noG_n ?_|refine noG_r ?_|refine noG_e ?_|refine jmp_n ?_|refine jmp_r ?_|refine jmp_e ?_|refine jmp_g ?_|refine thenI_g ?_|refine inB_g ?_|refine IWP_goto ?_|refine Loop_n ?_|refine oD (id:=6) W37_6 [] O37_6 [_,_,_,_,_,_,_,_,_] [_] rfl (by repeat' (first|exact trivial|refine And.intro ?_ ?_|exact bS|exact bX|exact bZ|exact bI|fail)) ?_|fail)
        refine ⟨i + 1, ⟨by omega, fun j hj => ?_⟩, by omega, lP []⟩
        rcases Nat.lt_succ_iff_lt_or_eq.1 hj with h' | rfl
        · exact hpre j h'
        · exact hn
      · rw [show decide (a = b) = false from decide_eq_false (by rintro rfl; exact hn rfl)]
        repeat' (first|refine IOps_nil ?_|refine oS ?_|refine IOps_s rfl rfl ?_|refine oT ?_|refine IOps_s0 rfl ?_|refine oZ ?_|refine oI ?_|refine thenI_n ?_|refine IWP_seq ?_|refine IWP_region ?_|refine IWP_ct rfl ?_|refine IWP_cf rfl ?_|refine IWP_skip ?_|refine IWP_ret ?_|refine IWP_block ?_|refine inB_n ?_|refine thenI_r ?_|refine thenI_e ?_|refine inB_r ?_|refine inB_hit ?_|refine inB_miss rfl ?_|refine IWP_exit ?_|refine IWP_scope ?_|refine IWP_label ?_|refine noG_n ?_|refine noG_r ?_|refine noG_e ?_|refine jmp_n ?_|refine jmp_r ?_|refine jmp_e ?_|refine jmp_g ?_|refine thenI_g ?_|refine inB_g ?_|refine IWP_goto ?_|refine Loop_n ?_|refine oD (id:=6) W37_6 [] O37_6 [_,_,_,_,_,_,_,_,_] [_] rfl (by repeat' (first|exact trivial|refine And.intro ?_ ?_|exact bS|exact bX|exact bZ|exact bI|fail)) ?_|fail)
        exact pD [] ⟨rfl, rfl⟩
    · rw [show decide (a = b) = true from decide_eq_true (List.ext_getElem h fun j h1 h2 => by
        have := hpre j (by omega)
        simpa [List.getD_eq_getElem?_getD, h1, h2] using this)]
      repeat' (first|refine IOps_nil ?_|refine oS ?_|refine IOps_s rfl rfl ?_|refine oT ?_|refine IOps_s0 rfl ?_|refine oZ ?_|refine oI ?_|refine thenI_n ?_|refine IWP_seq ?_|refine IWP_region ?_|refine IWP_ct rfl ?_|refine IWP_cf rfl ?_|refine IWP_skip ?_|refine IWP_ret ?_|refine IWP_block ?_|refine inB_n ?_|refine thenI_r ?_|refine thenI_e ?_|refine inB_r ?_|refine inB_hit ?_|refine inB_miss rfl ?_|refine IWP_exit ?_|refine IWP_scope ?_|refine IWP_label ?_|refine noG_n ?_|refine noG_r ?_|refine noG_e ?_|refine jmp_n ?_|refine jmp_r ?_|refine jmp_e ?_|refine jmp_g ?_|refine thenI_g ?_|refine inB_g ?_|refine IWP_goto ?_|refine Loop_n ?_|refine oD (id:=6) W37_6 [] O37_6 [_,_,_,_,_,_,_,_,_] [_] rfl (by repeat' (first|exact trivial|refine And.intro ?_ ?_|exact bS|exact bX|exact bZ|exact bI|fail)) ?_|fail)
      exact pD [] ⟨rfl, rfl⟩
  · rw [show decide (a = b) = false from decide_eq_false (by rintro rfl; exact h rfl)]
    refine sB Try.func37 Try.ntmps37 ?_
    repeat' (first|refine IOps_nil ?_|refine oS ?_|refine IOps_s rfl rfl ?_|refine oT ?_|refine IOps_s0 rfl ?_|refine oZ ?_|refine oI ?_|refine thenI_n ?_|refine IWP_seq ?_|refine IWP_region ?_|refine IWP_ct rfl ?_|refine IWP_cf rfl ?_|refine IWP_skip ?_|refine IWP_ret ?_|refine IWP_block ?_|refine inB_n ?_|refine thenI_r ?_|refine thenI_e ?_|refine inB_r ?_|refine inB_hit ?_|refine inB_miss rfl ?_|refine IWP_exit ?_|refine IWP_scope ?_|refine IWP_label ?_|refine noG_n ?_|refine noG_r ?_|refine noG_e ?_|refine jmp_n ?_|refine jmp_r ?_|refine jmp_e ?_|refine jmp_g ?_|refine thenI_g ?_|refine inB_g ?_|refine IWP_goto ?_|refine Loop_n ?_|refine oD (id:=6) W37_6 [] O37_6 [_,_,_,_,_,_,_,_,_] [_] rfl (by repeat' (first|exact trivial|refine And.intro ?_ ?_|exact bS|exact bX|exact bZ|exact bI|fail)) ?_|fail)
    exact pD [] ⟨rfl, rfl⟩
def sameC (n m : Int) (a b : List Du) : Bool := decide (n = m ∧ a = b)
theorem dsame_spec (n m : Int) (a b : List Du) (ha : a.length ≤ 1000000) : Idl.Spec Try.prog 36 [.agg [.i64 n, .fz false (dues a) a.length], .agg [.i64 m, .fz false (dues b) b.length]] []
    (Only (.sc (.bool (sameC n m a b))) []) := by
  by_cases hn : n = m
  · by_cases hl : a.length = b.length
    · refine sB Try.func36 Try.ntmps36 ?_
      repeat' (first|refine IOps_nil ?_|refine oS ?_|refine IOps_s rfl rfl ?_|refine oT ?_|refine IOps_s0 rfl ?_|refine oZ ?_|refine oI ?_|refine thenI_n ?_|refine IWP_seq ?_|refine IWP_region ?_|refine IWP_ct rfl ?_|refine IWP_cf rfl ?_|refine IWP_skip ?_|refine IWP_ret ?_|refine IWP_block ?_|refine inB_n ?_|refine thenI_r ?_|refine thenI_e ?_|refine inB_r ?_|refine inB_hit ?_|refine inB_miss rfl ?_|refine IWP_exit ?_|refine IWP_scope ?_|refine IWP_label ?_|refine noG_n ?_|refine noG_r ?_|refine noG_e ?_|refine jmp_n ?_|refine jmp_r ?_|refine jmp_e ?_|refine jmp_g ?_|refine thenI_g ?_|refine inB_g ?_|refine IWP_goto ?_|refine Loop_n ?_|refine oD (id:=6) W36_6 [] O36_6 [_,_,_,_,_,_,_,_,_,_,_] [_] rfl (by repeat' (first|exact trivial|refine And.intro ?_ ?_|exact bS|exact bX|exact bZ|exact bI|fail)) ?_|fail)
      refine IWP_loop (fun i : Nat => ⟨38, [(2, .ptr 0 0), (3, .ptr 1 0), (4, .sc (.bool false)), (5, .i64 i)], [.box [.i64 n, .fz false (dues a) a.length], .box [.i64 m, .fz false (dues b) b.length]]⟩) (fun i => i ≤ a.length ∧ ∀ j, j < i → gd a j = gd b j) (fun i => a.length - i) 0 (lP [0, 1]) ⟨Nat.zero_le _, fun j h => by omega⟩ ?_
      rintro i ⟨hi, hpre⟩
      by_cases h1 : i < a.length
      · have hne : gd a i ≠ gd b i → sameC n m a b = false := fun h => decide_eq_false (by rintro ⟨_, rfl⟩; exact h rfl)
        have hex : (a.getD i default).id = (b.getD i default).id → (a.getD i default).due = (b.getD i default).due → gd a i = gd b i := fun h1 h2 => by
          show a.getD i default = b.getD i default
          generalize a.getD i default = x at *; generalize b.getD i default = y at *
          cases x; cases y; simp_all
        by_cases e1 : (a.getD i default).id = (b.getD i default).id
        · by_cases e2 : (a.getD i default).due = (b.getD i default).due
          · repeat' (first|refine IOps_nil ?_|refine oS ?_|refine IOps_s rfl rfl ?_|refine oT ?_|refine IOps_s0 rfl ?_|refine oZ ?_|refine oI ?_|refine thenI_n ?_|refine IWP_seq ?_|refine IWP_region ?_|refine IWP_ct rfl ?_|refine IWP_cf rfl ?_|refine IWP_skip ?_|refine IWP_ret ?_|refine IWP_block ?_|refine inB_n ?_|refine thenI_r ?_|refine thenI_e ?_|refine inB_r ?_|refine inB_hit ?_|refine inB_miss rfl ?_|refine IWP_exit ?_|refine IWP_scope ?_|refine IWP_label ?_|refine noG_n ?_|refine noG_r ?_|refine noG_e ?_|refine jmp_n ?_|refine jmp_r ?_|refine jmp_e ?_|refine jmp_g ?_|refine thenI_g ?_|refine inB_g ?_|refine IWP_goto ?_|refine Loop_n ?_|refine oD (id:=6) W36_6 [] O36_6 [_,_,_,_,_,_,_,_,_,_,_] [_] rfl (by repeat' (first|exact trivial|refine And.intro ?_ ?_|exact bS|exact bX|exact bZ|exact bI|fail)) ?_|fail)
            exact ⟨i + 1, ⟨h1, fun j hj => by
              rcases Nat.lt_succ_iff_lt_or_eq.1 hj with h | rfl
              · exact hpre j h
              · exact hex e1 e2⟩, by omega, lP [0, 1]⟩
          · rw [hne fun h => e2 (congrArg Du.due h)]
            repeat' (first|refine IOps_nil ?_|refine oS ?_|refine IOps_s rfl rfl ?_|refine oT ?_|refine IOps_s0 rfl ?_|refine oZ ?_|refine oI ?_|refine thenI_n ?_|refine IWP_seq ?_|refine IWP_region ?_|refine IWP_ct rfl ?_|refine IWP_cf rfl ?_|refine IWP_skip ?_|refine IWP_ret ?_|refine IWP_block ?_|refine inB_n ?_|refine thenI_r ?_|refine thenI_e ?_|refine inB_r ?_|refine inB_hit ?_|refine inB_miss rfl ?_|refine IWP_exit ?_|refine IWP_scope ?_|refine IWP_label ?_|refine noG_n ?_|refine noG_r ?_|refine noG_e ?_|refine jmp_n ?_|refine jmp_r ?_|refine jmp_e ?_|refine jmp_g ?_|refine thenI_g ?_|refine inB_g ?_|refine IWP_goto ?_|refine Loop_n ?_|refine oD (id:=6) W36_6 [] O36_6 [_,_,_,_,_,_,_,_,_,_,_] [_] rfl (by repeat' (first|exact trivial|refine And.intro ?_ ?_|exact bS|exact bX|exact bZ|exact bI|fail)) ?_|fail)
            exact pD [] ⟨rfl, rfl⟩
        · rw [hne fun h => e1 (congrArg Du.id h)]
          repeat' (first|refine IOps_nil ?_|refine oS ?_|refine IOps_s rfl rfl ?_|refine oT ?_|refine IOps_s0 rfl ?_|refine oZ ?_|refine oI ?_|refine thenI_n ?_|refine IWP_seq ?_|refine IWP_region ?_|refine IWP_ct rfl ?_|refine IWP_cf rfl ?_|refine IWP_skip ?_|refine IWP_ret ?_|refine IWP_block ?_|refine inB_n ?_|refine thenI_r ?_|refine thenI_e ?_|refine inB_r ?_|refine inB_hit ?_|refine inB_miss rfl ?_|refine IWP_exit ?_|refine IWP_scope ?_|refine IWP_label ?_|refine noG_n ?_|refine noG_r ?_|refine noG_e ?_|refine jmp_n ?_|refine jmp_r ?_|refine jmp_e ?_|refine jmp_g ?_|refine thenI_g ?_|refine inB_g ?_|refine IWP_goto ?_|refine Loop_n ?_|refine oD (id:=6) W36_6 [] O36_6 [_,_,_,_,_,_,_,_,_,_,_] [_] rfl (by repeat' (first|exact trivial|refine And.intro ?_ ?_|exact bS|exact bX|exact bZ|exact bI|fail)) ?_|fail)
          exact pD [] ⟨rfl, rfl⟩
      · rw [show sameC n m a b = true from decide_eq_true ⟨hn, List.ext_getElem hl fun j h1 h2 => by rw [← gd_eq h1, ← gd_eq h2]; exact hpre j (by omega)⟩]
        repeat' (first|refine IOps_nil ?_|refine oS ?_|refine IOps_s rfl rfl ?_|refine oT ?_|refine IOps_s0 rfl ?_|refine oZ ?_|refine oI ?_|refine thenI_n ?_|refine IWP_seq ?_|refine IWP_region ?_|refine IWP_ct rfl ?_|refine IWP_cf rfl ?_|refine IWP_skip ?_|refine IWP_ret ?_|refine IWP_block ?_|refine inB_n ?_|refine thenI_r ?_|refine thenI_e ?_|refine inB_r ?_|refine inB_hit ?_|refine inB_miss rfl ?_|refine IWP_exit ?_|refine IWP_scope ?_|refine IWP_label ?_|refine noG_n ?_|refine noG_r ?_|refine noG_e ?_|refine jmp_n ?_|refine jmp_r ?_|refine jmp_e ?_|refine jmp_g ?_|refine thenI_g ?_|refine inB_g ?_|refine IWP_goto ?_|refine Loop_n ?_|refine oD (id:=6) W36_6 [] O36_6 [_,_,_,_,_,_,_,_,_,_,_] [_] rfl (by repeat' (first|exact trivial|refine And.intro ?_ ?_|exact bS|exact bX|exact bZ|exact bI|fail)) ?_|fail)
        exact pD [] ⟨rfl, rfl⟩
    · rw [show sameC n m a b = false from decide_eq_false (by rintro ⟨_, rfl⟩; exact hl rfl)]
      refine sB Try.func36 Try.ntmps36 ?_
      repeat' (first|refine IOps_nil ?_|refine oS ?_|refine IOps_s rfl rfl ?_|refine oT ?_|refine IOps_s0 rfl ?_|refine oZ ?_|refine oI ?_|refine thenI_n ?_|refine IWP_seq ?_|refine IWP_region ?_|refine IWP_ct rfl ?_|refine IWP_cf rfl ?_|refine IWP_skip ?_|refine IWP_ret ?_|refine IWP_block ?_|refine inB_n ?_|refine thenI_r ?_|refine thenI_e ?_|refine inB_r ?_|refine inB_hit ?_|refine inB_miss rfl ?_|refine IWP_exit ?_|refine IWP_scope ?_|refine IWP_label ?_|refine noG_n ?_|refine noG_r ?_|refine noG_e ?_|refine jmp_n ?_|refine jmp_r ?_|refine jmp_e ?_|refine jmp_g ?_|refine thenI_g ?_|refine inB_g ?_|refine IWP_goto ?_|refine Loop_n ?_|refine oD (id:=6) W36_6 [] O36_6 [_,_,_,_,_,_,_,_,_,_,_] [_] rfl (by repeat' (first|exact trivial|refine And.intro ?_ ?_|exact bS|exact bX|exact bZ|exact bI|fail)) ?_|fail)
      exact pD [] ⟨rfl, rfl⟩
  · rw [show sameC n m a b = false from decide_eq_false (fun h => hn h.1)]
    refine sB Try.func36 Try.ntmps36 ?_
    repeat' (first|refine IOps_nil ?_|refine oS ?_|refine IOps_s rfl rfl ?_|refine oT ?_|refine IOps_s0 rfl ?_|refine oZ ?_|refine oI ?_|refine thenI_n ?_|refine IWP_seq ?_|refine IWP_region ?_|refine IWP_ct rfl ?_|refine IWP_cf rfl ?_|refine IWP_skip ?_|refine IWP_ret ?_|refine IWP_block ?_|refine inB_n ?_|refine thenI_r ?_|refine thenI_e ?_|refine inB_r ?_|refine inB_hit ?_|refine inB_miss rfl ?_|refine IWP_exit ?_|refine IWP_scope ?_|refine IWP_label ?_|refine noG_n ?_|refine noG_r ?_|refine noG_e ?_|refine jmp_n ?_|refine jmp_r ?_|refine jmp_e ?_|refine jmp_g ?_|refine thenI_g ?_|refine inB_g ?_|refine IWP_goto ?_|refine Loop_n ?_|refine oD (id:=6) W36_6 [] O36_6 [_,_,_,_,_,_,_,_,_,_,_] [_] rfl (by repeat' (first|exact trivial|refine And.intro ?_ ?_|exact bS|exact bX|exact bZ|exact bI|fail)) ?_|fail)
    exact pD [] ⟨rfl, rfl⟩
structure Stp where
  kind : Int
  id : Int
  n : Int
  deriving DecidableEq
instance : Inhabited Stp := ⟨⟨0, 0, 0⟩⟩
def stpRc : Rc Stp := ⟨fun x => [.sc (.int .i64 x.kind), .sc (.int .i64 x.id), .sc (.int .i64 x.n)], 3, fun _ => rfl⟩
def steps (l : List Stp) : List IV := fl stpRc l
section
variable {l a b : List Stp} {i n : Nat}
theorem steps_length : (steps l).length = l.length * 3 := fl_length stpRc l
theorem steps_drop : (steps l).drop (n * 3) = steps (l.drop n) := fl_drop stpRc l n
theorem steps_take : (steps l).take (n * 3) = steps (l.take n) := fl_take stpRc l n
theorem steps_app : steps a ++ steps b = steps (a ++ b) := fl_app stpRc a b
theorem steps_one {v0 : Int} {v1 : Int} {v2 : Int} : steps [⟨v0, v1, v2⟩] = [.sc (.int .i64 v0), .sc (.int .i64 v1), .sc (.int .i64 v2)] := rfl
theorem steps_nil : steps [] = [] := rfl
theorem steps_snoc {v0 : Int} {v1 : Int} {v2 : Int} : steps a ++ [.sc (.int .i64 v0), .sc (.int .i64 v1), .sc (.int .i64 v2)] = steps (a ++ [⟨v0, v1, v2⟩]) := fl_app stpRc a [⟨v0, v1, v2⟩]
theorem steps_part (h : i < l.length) : (steps (l.drop i)).take 3 = [.sc (.int .i64 (l.getD i default).kind), .sc (.int .i64 (l.getD i default).id), .sc (.int .i64 (l.getD i default).n)] := by rw [← steps_drop]; exact fl_part stpRc h
theorem steps_part0 (h : 0 < l.length) : (steps l).take 3 = [.sc (.int .i64 (l.getD 0 default).kind), .sc (.int .i64 (l.getD 0 default).id), .sc (.int .i64 (l.getD 0 default).n)] := by have := steps_part h; rwa [List.drop_zero] at this
theorem steps_get0 (h : i < l.length) : (steps l).getD (i * 3) .any = .sc (.int .i64 (l.getD i default).kind) := fl_get stpRc (j := 0) h (by decide)
theorem steps_set0 (h : i < l.length) {v : Int} : (steps l).set (i * 3) (.sc (.int .i64 v)) = steps (l.set i ⟨v, (l.getD i default).id, (l.getD i default).n⟩) := fl_set stpRc h (j := 0) (by decide) _ _ rfl
theorem steps_get1 (h : i < l.length) : (steps l).getD (i * 3 + 1) .any = .sc (.int .i64 (l.getD i default).id) := fl_get stpRc (j := 1) h (by decide)
theorem steps_set1 (h : i < l.length) {v : Int} : (steps l).set (i * 3 + 1) (.sc (.int .i64 v)) = steps (l.set i ⟨(l.getD i default).kind, v, (l.getD i default).n⟩) := fl_set stpRc h (j := 1) (by decide) _ _ rfl
theorem steps_get2 (h : i < l.length) : (steps l).getD (i * 3 + 2) .any = .sc (.int .i64 (l.getD i default).n) := fl_get stpRc (j := 2) h (by decide)
theorem steps_set2 (h : i < l.length) {v : Int} : (steps l).set (i * 3 + 2) (.sc (.int .i64 v)) = steps (l.set i ⟨(l.getD i default).kind, (l.getD i default).id, v⟩) := fl_set stpRc h (j := 2) (by decide) _ _ rfl
theorem steps_splice (h : i < l.length) {v0 : Int} {v1 : Int} {v2 : Int} : splice (steps l) (i * 3) [.sc (.int .i64 v0), .sc (.int .i64 v1), .sc (.int .i64 v2)] = steps (l.set i ⟨v0, v1, v2⟩) := fl_splice stpRc h ⟨v0, v1, v2⟩
theorem steps_zeros : zrep n [.sc (.int .i64 0), .sc (.int .i64 0), .sc (.int .i64 0)] = steps (List.replicate n default) := fl_zeros stpRc default n (by decide)
theorem steps_closed : IV.closedL (steps l) = true := fl_closed stpRc (fun _ => rfl) l
theorem steps_ones : IV.ones (steps l) = true := fl_ones stpRc (fun _ => rfl) l
theorem steps_fresh : IV.freshL (steps l) = true := fl_fresh stpRc (fun _ => rfl) l
theorem steps_relab : IV.relabL (steps l) = steps l := fl_relab stpRc (fun _ => by simp [stpRc, IV.relabL, IV.relab, IV.str]) l
theorem steps_ren {σ : Nat → Option Nat} : IV.renL σ (steps l) = steps l := fl_ren stpRc (fun _ => by simp [stpRc, IV.renL, IV.ren, IV.str]) l
end
attribute [go_sem] steps_length steps_drop steps_take steps_app steps_snoc steps_part steps_part0 steps_get0 steps_set0 steps_get1 steps_set1 steps_get2 steps_set2 steps_zeros steps_closed steps_ones steps_fresh steps_relab steps_ren
attribute [go_sem] steps_splice
def doV (now : Int) (l : List Du) (s : Stp) : (Int × List Du) × List Int × Int :=
  if s.kind = 0 then ((now, (setV now l s.id s.n).1), [], (setV now l s.id s.n).2)
  else if s.kind = 1 then ((now, (dropV now l s.id).1), [], (dropV now l s.id).2)
  else tickV now l s.n
theorem ddo_spec (now : Int) (l : List Du) (s : Stp) (hL : l.length ≤ 1000000) : Idl.Spec Try.prog 32 [.agg [.i64 now, .fz false (dues l) l.length], .agg [.sc (.int .i64 s.kind), .sc (.int .i64 s.id), .sc (.int .i64 s.n)]] []
    (Only (.tup [.agg [.i64 (doV now l s).1.1, .fz true (dues (doV now l s).1.2) (doV now l s).1.2.length], .fz true (ints (doV now l s).2.1) (doV now l s).2.1.length, .i64 (doV now l s).2.2]) []) := by
  by_cases h0 : s.kind = 0
  · have hs := dset_spec now l s.id s.n hL
    rw [show doV now l s = ((now, (setV now l s.id s.n).1), [], (setV now l s.id s.n).2) from if_pos h0]
    generalize setV now l s.id s.n = r at hs ⊢
    refine Spec.mid0 ?_
    refine sB Try.func32 Try.ntmps32 ?_
    repeat' (first|refine IOps_nil ?_|refine oS ?_|refine IOps_s rfl rfl ?_|refine oT ?_|refine IOps_s0 rfl ?_|refine oC (π:=[]) (hs:=by first|exact hs|fail) (hx:=?_)|refine oZ ?_|refine oI ?_|refine thenI_n ?_|refine IWP_seq ?_|refine IWP_region ?_|refine IWP_ct rfl ?_|refine IWP_cf rfl ?_|refine IWP_skip ?_|refine IWP_ret ?_|refine IWP_block ?_|refine inB_n ?_|refine thenI_r ?_|refine thenI_e ?_|refine inB_r ?_|refine inB_hit ?_|refine inB_miss rfl ?_|refine IWP_exit ?_|refine IWP_scope ?_|refine IWP_label ?_|refine noG_n ?_|refine noG_r ?_|refine noG_e ?_|refine jmp_n ?_|refine jmp_r ?_|refine jmp_e ?_|refine jmp_g ?_|refine thenI_g ?_|refine inB_g ?_|refine IWP_goto ?_|refine Loop_n ?_|fail)
    exact pD [] ⟨rfl, rfl⟩
  · by_cases h1 : s.kind = 1
    · have hs := ddrop_spec now l s.id hL
      rw [show doV now l s = ((now, (dropV now l s.id).1), [], (dropV now l s.id).2) by unfold doV; rw [if_neg h0, if_pos h1]]
      generalize dropV now l s.id = r at hs ⊢
      refine Spec.mid0 ?_
      refine sB Try.func32 Try.ntmps32 ?_
      repeat' (first|refine IOps_nil ?_|refine oS ?_|refine IOps_s rfl rfl ?_|refine oT ?_|refine IOps_s0 rfl ?_|refine oC (π:=[]) (hs:=by first|exact hs|fail) (hx:=?_)|refine oZ ?_|refine oI ?_|refine thenI_n ?_|refine IWP_seq ?_|refine IWP_region ?_|refine IWP_ct rfl ?_|refine IWP_cf rfl ?_|refine IWP_skip ?_|refine IWP_ret ?_|refine IWP_block ?_|refine inB_n ?_|refine thenI_r ?_|refine thenI_e ?_|refine inB_r ?_|refine inB_hit ?_|refine inB_miss rfl ?_|refine IWP_exit ?_|refine IWP_scope ?_|refine IWP_label ?_|refine noG_n ?_|refine noG_r ?_|refine noG_e ?_|refine jmp_n ?_|refine jmp_r ?_|refine jmp_e ?_|refine jmp_g ?_|refine thenI_g ?_|refine inB_g ?_|refine IWP_goto ?_|refine Loop_n ?_|fail)
      exact pD [] ⟨rfl, rfl⟩
    · have hs := dtick_spec now l s.n hL
      rw [show doV now l s = tickV now l s.n by unfold doV; rw [if_neg h0, if_neg h1]]
      generalize tickV now l s.n = r at hs ⊢
      refine sB Try.func32 Try.ntmps32 ?_
      repeat' (first|refine IOps_nil ?_|refine oS ?_|refine IOps_s rfl rfl ?_|refine oT ?_|refine IOps_s0 rfl ?_|refine oC (π:=[]) (hs:=by first|exact hs|fail) (hx:=?_)|refine oZ ?_|refine oI ?_|refine thenI_n ?_|refine IWP_seq ?_|refine IWP_region ?_|refine IWP_ct rfl ?_|refine IWP_cf rfl ?_|refine IWP_skip ?_|refine IWP_ret ?_|refine IWP_block ?_|refine inB_n ?_|refine thenI_r ?_|refine thenI_e ?_|refine inB_r ?_|refine inB_hit ?_|refine inB_miss rfl ?_|refine IWP_exit ?_|refine IWP_scope ?_|refine IWP_label ?_|refine noG_n ?_|refine noG_r ?_|refine noG_e ?_|refine jmp_n ?_|refine jmp_r ?_|refine jmp_e ?_|refine jmp_g ?_|refine thenI_g ?_|refine inB_g ?_|refine IWP_goto ?_|refine Loop_n ?_|fail)
      exact pD [] ⟨rfl, rfl⟩
end Go.Proofs.Ytnlelckfhlcbgaa

namespace Go.Proofs.Ytnlelckfhlcbgaa
open Go Go.Idl
set_option linter.unusedSimpArgs false
set_option linter.unusedVariables false
set_option maxRecDepth 100000
set_option maxHeartbeats 4000000
theorem Spec.nilC {P : Program} {f : FuncId} {a : IV} {xs : List IV} {h : List HO} {K : IV → List HO → Prop} (s : Idl.Spec P f (.agg [a, .fz false [] 0] :: xs) h K) : Idl.Spec P f (.agg [a, .sc (.slice none 0 0)] :: xs) h K :=
  ⟨s.call, s.fresh, fun F w vs h1 h2 c => s.runs F w vs h1 h2 (by
    cases c with
    | cons h t => exact .cons (by cases h with
      | agg h => cases h with
        | cons k t => cases t with
          | cons k2 t2 => exact .agg (.cons k (.cons (by cases k2; exact .fznil) t2))) t)⟩
attribute [local irreducible] Go.Idl.IWP Go.Idl.IOps Go.Idl.Obl Go.Idl.OpG Go.Idl.thenI Go.Idl.inBlockI Go.Idl.LoopU Go.Idl.noGotoI Go.Idl.jumpI
attribute [local go_sem] List.length_set splice2 splice3 splice_dues
theorem clock_awake : Idl.Spec Try.prog 31 [] [] (Only (.sc (.bool true)) []) := by
  have s1 := Spec.nilC (dset_spec 0 [] 5 3 (by simp))
  rw [show setV 0 [] 5 3 = ([⟨5, 3⟩], 0) by decide +kernel] at s1
  have s2 := dset_spec 0 [⟨5, 3⟩] 2 3 (by simp)
  rw [show setV 0 [⟨5, 3⟩] 2 3 = ([⟨2, 3⟩, ⟨5, 3⟩], 0) by decide +kernel] at s2
  have s3 := dset_spec 0 [⟨2, 3⟩, ⟨5, 3⟩] 64 1 (by simp)
  rw [show setV 0 [⟨2, 3⟩, ⟨5, 3⟩] 64 1 = ([⟨2, 3⟩, ⟨5, 3⟩], 110) by decide +kernel] at s3
  have s4 := dset_spec 0 [⟨2, 3⟩, ⟨5, 3⟩] 1 0 (by simp)
  rw [show setV 0 [⟨2, 3⟩, ⟨5, 3⟩] 1 0 = ([⟨2, 3⟩, ⟨5, 3⟩], 170) by decide +kernel] at s4
  have s5 := when_spec 0 [⟨2, 3⟩, ⟨5, 3⟩] 5 (by simp)
  rw [show whenC 0 [⟨2, 3⟩, ⟨5, 3⟩] 5 = (3, true) by decide +kernel] at s5
  have s6 := dnext_spec 0 [⟨2, 3⟩, ⟨5, 3⟩] (by simp)
  rw [show nextC 0 [⟨2, 3⟩, ⟨5, 3⟩] = (3, true) by decide +kernel] at s6
  have s7 := dtick_spec 0 [⟨2, 3⟩, ⟨5, 3⟩] 2 (by simp)
  rw [show tickV 0 [⟨2, 3⟩, ⟨5, 3⟩] 2 = ((2, [⟨2, 3⟩, ⟨5, 3⟩]), [], 0) by decide +kernel] at s7
  have s8 := dtick_spec 2 [⟨2, 3⟩, ⟨5, 3⟩] 1 (by simp)
  rw [show tickV 2 [⟨2, 3⟩, ⟨5, 3⟩] 1 = ((3, []), [2, 5], 0) by decide +kernel] at s8
  have s9 := ddrop_spec 3 [] 5 (by simp)
  rw [show dropV 3 [] 5 = ([], 120) by decide +kernel] at s9
  have s10 := ddrop_spec 2 [⟨2, 3⟩, ⟨5, 3⟩] 5 (by simp)
  rw [show dropV 2 [⟨2, 3⟩, ⟨5, 3⟩] 5 = ([⟨2, 3⟩], 0) by decide +kernel] at s10
  have s11 := dtick_spec 2 [⟨2, 3⟩, ⟨5, 3⟩] (-1) (by simp)
  rw [show tickV 2 [⟨2, 3⟩, ⟨5, 3⟩] (-1) = ((2, [⟨2, 3⟩, ⟨5, 3⟩]), [], 170) by decide +kernel] at s11
  have s12 := when_spec 3 [] 5 (by simp)
  rw [show whenC 3 [] 5 = (0, false) by decide +kernel] at s12
  have s13 := isame_spec [2, 5] [2, 5] (by simp)
  rw [show decide ([2, 5] = ([2, 5] : List Int)) = true by decide] at s13
  have s14 := dcheck_spec 2 [⟨2, 3⟩, ⟨5, 3⟩] (by simp)
  rw [show chkC 2 [⟨2, 3⟩, ⟨5, 3⟩] = true by decide +kernel] at s14
  have s15 := Spec.nilC (dcheck_spec (-1) [] (by simp))
  rw [show chkC (-1) [] = false by decide +kernel] at s15
  refine sB Try.func31 Try.ntmps31 ?_
  repeat' (first|refine IOps_nil ?_|refine oS ?_|refine IOps_s rfl rfl ?_|refine oT ?_|refine IOps_s0 rfl ?_|refine oC (π:=[]) (hs:=by first|exact s1|fail) (hx:=?_)|refine oC (π:=[]) (hs:=by first|exact s2|fail) (hx:=?_)|refine oC (π:=[]) (hs:=by first|exact s3|fail) (hx:=?_)|refine oC (π:=[]) (hs:=by first|exact s4|fail) (hx:=?_)|refine oC (π:=[]) (hs:=by first|exact s5|fail) (hx:=?_)|refine oC (π:=[]) (hs:=by first|exact s6|fail) (hx:=?_)|refine oC (π:=[]) (hs:=by first|exact s7|fail) (hx:=?_)|refine oC (π:=[]) (hs:=by first|exact s8|fail) (hx:=?_)|refine oC (π:=[]) (hs:=by first|exact s9|fail) (hx:=?_)|refine oC (π:=[]) (hs:=by first|exact s10|fail) (hx:=?_)|refine oC (π:=[]) (hs:=by first|exact s11|fail) (hx:=?_)|refine oC (π:=[]) (hs:=by first|exact s12|fail) (hx:=?_)|refine oC (π:=[]) (hs:=by first|exact s13|fail) (hx:=?_)|refine oC (π:=[]) (hs:=by first|exact s14|fail) (hx:=?_)|refine oC (π:=[]) (hs:=by first|exact s15|fail) (hx:=?_)|refine oZ ?_|refine oI ?_|refine thenI_n ?_|refine IWP_seq ?_|refine IWP_region ?_|refine IWP_ct rfl ?_|refine IWP_cf rfl ?_|refine IWP_skip ?_|refine IWP_ret ?_|refine IWP_block ?_|refine inB_n ?_|refine thenI_r ?_|refine thenI_e ?_|refine inB_r ?_|refine inB_hit ?_|refine inB_miss rfl ?_|refine IWP_exit ?_|refine IWP_scope ?_|refine IWP_label ?_|refine noG_n ?_|refine noG_r ?_|refine noG_e ?_|refine jmp_n ?_|refine jmp_r ?_|refine jmp_e ?_|refine jmp_g ?_|refine thenI_g ?_|refine inB_g ?_|refine IWP_goto ?_|refine Loop_n ?_|fail)
  exact pD [] ⟨rfl, rfl⟩
end Go.Proofs.Ytnlelckfhlcbgaa
