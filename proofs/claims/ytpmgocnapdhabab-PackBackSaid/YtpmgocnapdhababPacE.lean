/-
  Texts and lists are taken, and put.
-/
import Derived.Test.YtpmgocnapdhababPacD
namespace Go.Proofs.Ytpmgocnapdhabab
open Go Go.Idl
set_option linter.unusedSimpArgs false
set_option linter.unusedVariables false
set_option maxRecDepth 100000
set_option maxHeartbeats 1000000
attribute [local irreducible] Go.Idl.IWP Go.Idl.IOps Go.Idl.Obl Go.Idl.OpG Go.Idl.thenI Go.Idl.inBlockI Go.Idl.LoopU Go.Idl.noGotoI Go.Idl.jumpI
attribute [local go_sem] List.append_assoc
def takeTR (b : List UInt8) : IV :=
  match takeT b with
  | none => .tup [.str [], .str [], .i64 70]
  | some (t, r) => .tup [.str t, .str r, .i64 0]
theorem takeTR_fresh (b : List UInt8) : (takeTR b).fresh = true := by unfold takeTR; split <;> rfl
attribute [go_sem] takeTR_fresh

theorem takeText_spec (b : List UInt8) (hb : b.length ≤ 1000000000) : Idl.Spec Try.prog 13 [.str b] [] (Only (takeTR b) []) := by
  have hs := take_spec b hb
  unfold takeTR takeT
  unfold takeR at hs
  cases hv : takeV b with
  | none =>
    rw [hv] at hs
    refine sB Try.func13 Try.ntmps13 ?_
    repeat' (first
      | refine IOps_nil ?_
      | refine oS ?_
      | refine IOps_s rfl rfl ?_
      | refine oT ?_
      | refine IOps_s0 rfl ?_
      | refine oC (π := []) (hs := by first | exact hs | fail) (hx := ?_)
      | refine oZ ?_
      | refine oI ?_
      | refine thenI_n ?_
      | refine IWP_seq ?_
      | refine IWP_region ?_
      | refine IWP_ct rfl ?_
      | refine IWP_cf rfl ?_
      | refine IWP_skip ?_
      | refine IWP_ret ?_
      | refine IWP_block ?_
      | refine inB_n ?_
      | refine thenI_r ?_
      | refine thenI_e ?_
      | refine inB_r ?_
      | refine inB_hit ?_
      | refine inB_miss rfl ?_
      | refine IWP_exit ?_
      | refine IWP_scope ?_
      | refine IWP_label ?_
      | refine noG_n ?_
      | refine noG_r ?_
      | refine noG_e ?_
      | refine jmp_n ?_
      | refine jmp_r ?_
      | refine jmp_e ?_
      | refine jmp_g ?_
      | refine thenI_g ?_
      | refine inB_g ?_
      | refine IWP_goto ?_
      | refine Loop_n ?_
      | refine oD (id := 4) W13_4 [] O13_4 [_, _, _, _, _, _, _, _, _] [_] rfl (by repeat' (first | exact trivial | refine And.intro ?_ ?_ | exact bS | exact bX | exact bZ | exact bI | exact bC (π := []) (hs := by first | exact hs | fail) | fail)) ?_
      | fail)
    exact pD [] ⟨rfl, rfl⟩
  | some x =>
    obtain ⟨n, r⟩ := x
    obtain ⟨h1, h2, h3⟩ := takeV_own hv
    have hl := congrArg List.length h1
    simp only [List.length_append] at hl
    rw [hv] at hs
    simp only at hs ⊢
    by_cases hn : n > (r.length : Int)
    · rw [if_pos hn]
      refine sB Try.func13 Try.ntmps13 ?_
      repeat' (first
        | refine IOps_nil ?_
        | refine oS ?_
        | refine IOps_s rfl rfl ?_
        | refine oT ?_
        | refine IOps_s0 rfl ?_
        | refine oC (π := []) (hs := by first | exact hs | fail) (hx := ?_)
        | refine oZ ?_
        | refine oI ?_
        | refine thenI_n ?_
        | refine IWP_seq ?_
        | refine IWP_region ?_
        | refine IWP_ct rfl ?_
        | refine IWP_cf rfl ?_
        | refine IWP_skip ?_
        | refine IWP_ret ?_
        | refine IWP_block ?_
        | refine inB_n ?_
        | refine thenI_r ?_
        | refine thenI_e ?_
        | refine inB_r ?_
        | refine inB_hit ?_
        | refine inB_miss rfl ?_
        | refine IWP_exit ?_
        | refine IWP_scope ?_
        | refine IWP_label ?_
        | refine noG_n ?_
        | refine noG_r ?_
        | refine noG_e ?_
        | refine jmp_n ?_
        | refine jmp_r ?_
        | refine jmp_e ?_
        | refine jmp_g ?_
        | refine thenI_g ?_
        | refine inB_g ?_
        | refine IWP_goto ?_
        | refine Loop_n ?_
        | refine oD (id := 4) W13_4 [] O13_4 [_, _, _, _, _, _, _, _, _] [_] rfl (by repeat' (first | exact trivial | refine And.intro ?_ ?_ | exact bS | exact bX | exact bZ | exact bI | exact bC (π := []) (hs := by first | exact hs | fail) | fail)) ?_
        | fail)
      exact pD [] ⟨rfl, rfl⟩
    · rw [if_neg hn]
      refine sB Try.func13 Try.ntmps13 ?_
      repeat' (first
        | refine IOps_nil ?_
        | refine oS ?_
        | refine IOps_s rfl rfl ?_
        | refine oT ?_
        | refine IOps_s0 rfl ?_
        | refine oC (π := []) (hs := by first | exact hs | fail) (hx := ?_)
        | refine oZ ?_
        | refine oI ?_
        | refine thenI_n ?_
        | refine IWP_seq ?_
        | refine IWP_region ?_
        | refine IWP_ct rfl ?_
        | refine IWP_cf rfl ?_
        | refine IWP_skip ?_
        | refine IWP_ret ?_
        | refine IWP_block ?_
        | refine inB_n ?_
        | refine thenI_r ?_
        | refine thenI_e ?_
        | refine inB_r ?_
        | refine inB_hit ?_
        | refine inB_miss rfl ?_
        | refine IWP_exit ?_
        | refine IWP_scope ?_
        | refine IWP_label ?_
        | refine noG_n ?_
        | refine noG_r ?_
        | refine noG_e ?_
        | refine jmp_n ?_
        | refine jmp_r ?_
        | refine jmp_e ?_
        | refine jmp_g ?_
        | refine thenI_g ?_
        | refine inB_g ?_
        | refine IWP_goto ?_
        | refine Loop_n ?_
        | refine oD (id := 4) W13_4 [] O13_4 [_, _, _, _, _, _, _, _, _] [_] rfl (by repeat' (first | exact trivial | refine And.intro ?_ ?_ | exact bS | exact bX | exact bZ | exact bI | exact bC (π := []) (hs := by first | exact hs | fail) | fail)) ?_
        | fail)
      exact pD [] ⟨rfl, rfl⟩

theorem rtakeText_spec (b : List UInt8) (hb : b.length ≤ 1000000000) : Idl.Spec Try.prog 14 [.str b] [] (Only (takeTR b) []) := by
  have hs := rtake_spec b hb
  unfold takeTR takeT
  unfold takeR at hs
  cases hv : takeV b with
  | none =>
    rw [hv] at hs
    refine sB Try.func14 Try.ntmps14 ?_
    repeat' (first
      | refine IOps_nil ?_
      | refine oS ?_
      | refine IOps_s rfl rfl ?_
      | refine oT ?_
      | refine IOps_s0 rfl ?_
      | refine oC (π := []) (hs := by first | exact hs | fail) (hx := ?_)
      | refine oZ ?_
      | refine oI ?_
      | refine thenI_n ?_
      | refine IWP_seq ?_
      | refine IWP_region ?_
      | refine IWP_ct rfl ?_
      | refine IWP_cf rfl ?_
      | refine IWP_skip ?_
      | refine IWP_ret ?_
      | refine IWP_block ?_
      | refine inB_n ?_
      | refine thenI_r ?_
      | refine thenI_e ?_
      | refine inB_r ?_
      | refine inB_hit ?_
      | refine inB_miss rfl ?_
      | refine IWP_exit ?_
      | refine IWP_scope ?_
      | refine IWP_label ?_
      | refine noG_n ?_
      | refine noG_r ?_
      | refine noG_e ?_
      | refine jmp_n ?_
      | refine jmp_r ?_
      | refine jmp_e ?_
      | refine jmp_g ?_
      | refine thenI_g ?_
      | refine inB_g ?_
      | refine IWP_goto ?_
      | refine Loop_n ?_
      | refine oD (id := 4) W14_4 [] O14_4 [_, _, _, _, _, _, _, _, _, _, _] [_] rfl (by repeat' (first | exact trivial | refine And.intro ?_ ?_ | exact bS | exact bX | exact bZ | exact bI | exact bC (π := []) (hs := by first | exact hs | fail) | fail)) ?_
      | fail)
    exact pD [] ⟨rfl, rfl⟩
  | some x =>
    obtain ⟨n, r⟩ := x
    obtain ⟨h1, h2, h3⟩ := takeV_own hv
    have hl := congrArg List.length h1
    simp only [List.length_append] at hl
    rw [hv] at hs
    simp only at hs ⊢
    by_cases hn : n > (r.length : Int)
    · rw [if_pos hn]
      refine sB Try.func14 Try.ntmps14 ?_
      repeat' (first
        | refine IOps_nil ?_
        | refine oS ?_
        | refine IOps_s rfl rfl ?_
        | refine oT ?_
        | refine IOps_s0 rfl ?_
        | refine oC (π := []) (hs := by first | exact hs | fail) (hx := ?_)
        | refine oZ ?_
        | refine oI ?_
        | refine thenI_n ?_
        | refine IWP_seq ?_
        | refine IWP_region ?_
        | refine IWP_ct rfl ?_
        | refine IWP_cf rfl ?_
        | refine IWP_skip ?_
        | refine IWP_ret ?_
        | refine IWP_block ?_
        | refine inB_n ?_
        | refine thenI_r ?_
        | refine thenI_e ?_
        | refine inB_r ?_
        | refine inB_hit ?_
        | refine inB_miss rfl ?_
        | refine IWP_exit ?_
        | refine IWP_scope ?_
        | refine IWP_label ?_
        | refine noG_n ?_
        | refine noG_r ?_
        | refine noG_e ?_
        | refine jmp_n ?_
        | refine jmp_r ?_
        | refine jmp_e ?_
        | refine jmp_g ?_
        | refine thenI_g ?_
        | refine inB_g ?_
        | refine IWP_goto ?_
        | refine Loop_n ?_
        | refine oD (id := 4) W14_4 [] O14_4 [_, _, _, _, _, _, _, _, _, _, _] [_] rfl (by repeat' (first | exact trivial | refine And.intro ?_ ?_ | exact bS | exact bX | exact bZ | exact bI | exact bC (π := []) (hs := by first | exact hs | fail) | fail)) ?_
        | fail)
      exact pD [] ⟨rfl, rfl⟩
    · rw [if_neg hn]
      refine sB Try.func14 Try.ntmps14 ?_
      repeat' (first
        | refine IOps_nil ?_
        | refine oS ?_
        | refine IOps_s rfl rfl ?_
        | refine oT ?_
        | refine IOps_s0 rfl ?_
        | refine oC (π := []) (hs := by first | exact hs | fail) (hx := ?_)
        | refine oZ ?_
        | refine oI ?_
        | refine thenI_n ?_
        | refine IWP_seq ?_
        | refine IWP_region ?_
        | refine IWP_ct rfl ?_
        | refine IWP_cf rfl ?_
        | refine IWP_skip ?_
        | refine IWP_ret ?_
        | refine IWP_block ?_
        | refine inB_n ?_
        | refine thenI_r ?_
        | refine thenI_e ?_
        | refine inB_r ?_
        | refine inB_hit ?_
        | refine inB_miss rfl ?_
        | refine IWP_exit ?_
        | refine IWP_scope ?_
        | refine IWP_label ?_
        | refine noG_n ?_
        | refine noG_r ?_
        | refine noG_e ?_
        | refine jmp_n ?_
        | refine jmp_r ?_
        | refine jmp_e ?_
        | refine jmp_g ?_
        | refine thenI_g ?_
        | refine inB_g ?_
        | refine IWP_goto ?_
        | refine Loop_n ?_
        | refine oD (id := 4) W14_4 [] O14_4 [_, _, _, _, _, _, _, _, _, _, _] [_] rfl (by repeat' (first | exact trivial | refine And.intro ?_ ?_ | exact bS | exact bX | exact bZ | exact bI | exact bC (π := []) (hs := by first | exact hs | fail) | fail)) ?_
        | fail)
      exact pD [] ⟨rfl, rfl⟩

theorem takeM_fuel : ∀ (f g : Nat) (k : Int) (q : List UInt8), q.length < f → q.length < g → takeM f k q = takeM g k q
  | 0, _, _, _, h, _ => by omega
  | _ + 1, 0, _, _, _, h => by omega
  | f + 1, g + 1, k, q, h1, h2 => by
    unfold takeM
    split
    · rfl
    · cases ht : takeT q with
      | none => rfl
      | some x =>
        obtain ⟨t, r⟩ := x
        have := (takeT_own ht).2.2.2
        simp only
        rw [takeM_fuel f g (k - 1) r (by omega) (by omega)]
/-- k texts out of bytes. -/
def takeK (k : Int) (q : List UInt8) : Option (List (List UInt8) × List UInt8) := takeM (q.length + 1) k q
theorem takeK_zero {k : Int} {q : List UInt8} (h : k ≤ 0) : takeK k q = some ([], q) := by unfold takeK takeM; rw [if_pos h]
theorem takeK_none {k : Int} {q : List UInt8} (h : 0 < k) (ht : takeT q = none) : takeK k q = none := by unfold takeK takeM; rw [if_neg (by omega), ht]
theorem takeK_some {k : Int} {q t r : List UInt8} (h : 0 < k) (ht : takeT q = some (t, r)) : takeK k q = (takeK (k - 1) r).map fun x => (t :: x.1, x.2) := by
  have := (takeT_own ht).2.2.2
  unfold takeK
  rw [takeM, if_neg (by omega), ht]
  simp only
  rw [takeM_fuel (q.length) (r.length + 1) (k - 1) r (by omega) (by omega)]
  cases takeM (r.length + 1) (k - 1) r with
  | none => rfl
  | some x => rfl

def takeLR (b : List UInt8) : IV :=
  match takeL b with
  | none => .tup [.fz true (strs []) 0, .str [], .i64 70]
  | some (l, r) => .tup [.fz true (strs l) l.length, .str r, .i64 0]
theorem fzs_fresh (l : List (List UInt8)) (n : Nat) : (IV.fz true (strs l) n).fresh = true := by simp [IV.fresh, cl_fresh]
theorem str_fresh (l : List UInt8) : (IV.str l).fresh = true := rfl
theorem takeLR_fresh (b : List UInt8) : (takeLR b).fresh = true := by unfold takeLR; split <;> simp [IV.fresh, IV.freshL, cl_fresh, str_fresh]
attribute [go_sem] takeLR_fresh

theorem takeTexts_spec (b : List UInt8) (hb : b.length ≤ 1000000) : Idl.Spec Try.prog 15 [.str b] [] (Only (takeLR b) []) := by
  have hs := take_spec b (by omega)
  refine sB Try.func15 Try.ntmps15 ?_
  unfold takeLR takeL
  unfold takeR at hs
  cases hv : takeV b with
  | none =>
    rw [hv] at hs
    repeat' (first
      | refine IOps_nil ?_
      | refine oS ?_
      | refine IOps_s rfl rfl ?_
      | refine oT ?_
      | refine IOps_s0 rfl ?_
      | refine oC (π := []) (hs := by first | exact hs | fail) (hx := ?_)
      | refine oZ ?_
      | refine oI ?_
      | refine thenI_n ?_
      | refine IWP_seq ?_
      | refine IWP_region ?_
      | refine IWP_ct rfl ?_
      | refine IWP_cf rfl ?_
      | refine IWP_skip ?_
      | refine IWP_block ?_
      | refine inB_n ?_
      | refine thenI_r ?_
      | refine thenI_e ?_
      | refine inB_r ?_
      | refine inB_hit ?_
      | refine inB_miss rfl ?_
      | refine IWP_exit ?_
      | refine IWP_scope ?_
      | refine IWP_label ?_
      | refine noG_n ?_
      | refine noG_r ?_
      | refine noG_e ?_
      | refine jmp_n ?_
      | refine jmp_r ?_
      | refine jmp_e ?_
      | refine jmp_g ?_
      | refine thenI_g ?_
      | refine inB_g ?_
      | refine IWP_goto ?_
      | refine Loop_n ?_
      | fail)
    refine wV 2 1 ?_
    refine wF 2 ?_
    repeat' (first
      | refine IOps_nil ?_
      | refine oS ?_
      | refine IOps_s rfl rfl ?_
      | refine oT ?_
      | refine IOps_s0 rfl ?_
      | refine oZ ?_
      | refine oI ?_
      | refine thenI_n ?_
      | refine IWP_seq ?_
      | refine IWP_region ?_
      | refine IWP_ct rfl ?_
      | refine IWP_cf rfl ?_
      | refine IWP_skip ?_
      | refine IWP_ret ?_
      | refine IWP_block ?_
      | refine inB_n ?_
      | refine thenI_r ?_
      | refine thenI_e ?_
      | refine inB_r ?_
      | refine inB_hit ?_
      | refine inB_miss rfl ?_
      | refine IWP_exit ?_
      | refine IWP_scope ?_
      | refine IWP_label ?_
      | refine noG_n ?_
      | refine noG_r ?_
      | refine noG_e ?_
      | refine jmp_n ?_
      | refine jmp_r ?_
      | refine jmp_e ?_
      | refine jmp_g ?_
      | refine thenI_g ?_
      | refine inB_g ?_
      | refine IWP_goto ?_
      | refine Loop_n ?_
      | fail)
    exact pD [] ⟨rfl, rfl⟩
  | some x =>
    obtain ⟨n, r⟩ := x
    obtain ⟨h1, h2, h3⟩ := takeV_own hv
    have hl := congrArg List.length h1
    simp only [List.length_append] at hl
    rw [hv] at hs
    simp only at hs ⊢
    rw [show takeM (r.length + 1) n r = takeK n r from rfl]
    repeat' (first
      | refine IOps_nil ?_
      | refine oS ?_
      | refine IOps_s rfl rfl ?_
      | refine oT ?_
      | refine IOps_s0 rfl ?_
      | refine oC (π := []) (hs := by first | exact hs | fail) (hx := ?_)
      | refine oZ ?_
      | refine oI ?_
      | refine thenI_n ?_
      | refine IWP_seq ?_
      | refine IWP_region ?_
      | refine IWP_ct rfl ?_
      | refine IWP_cf rfl ?_
      | refine IWP_skip ?_
      | refine IWP_ret ?_
      | refine IWP_block ?_
      | refine inB_n ?_
      | refine thenI_r ?_
      | refine thenI_e ?_
      | refine inB_r ?_
      | refine inB_hit ?_
      | refine inB_miss rfl ?_
      | refine IWP_exit ?_
      | refine IWP_scope ?_
      | refine IWP_label ?_
      | refine noG_n ?_
      | refine noG_r ?_
      | refine noG_e ?_
      | refine jmp_n ?_
      | refine jmp_r ?_
      | refine jmp_e ?_
      | refine jmp_g ?_
      | refine thenI_g ?_
      | refine inB_g ?_
      | refine IWP_goto ?_
      | refine Loop_n ?_
      | fail)
    refine wV 8 1 ?_
    refine IWP_loop (fun x : Nat × List (List UInt8) × List UInt8 => ⟨39, [(6, .str x.2.2), (8, .sl 0 0 x.1 x.1 1), (20, .sc (.int .u64 n)), (21, .sc (.int .u64 x.1))], [.arr true (strs x.2.1)]⟩)
      (fun x => (x.1 : Int) ≤ n ∧ x.2.1.length = x.1 ∧ x.2.2.length + x.1 ≤ r.length ∧ (takeK (n - x.1) x.2.2).map (fun y => (x.2.1 ++ y.1, y.2)) = takeK n r)
      (fun x => x.2.2.length) (0, [], r) (lP [0]) ⟨by simp only; omega, rfl, by simp, by simp⟩ ?_
    rintro ⟨i, acc, q⟩ ⟨q0, q1, q2, q3⟩
    simp only at q0 q1 q2 q3 ⊢
    rw [← q3]
    by_cases hin : (i : Int) < n
    · have hq := takeText_spec q (by omega)
      unfold takeTR at hq
      cases ht : takeT q with
      | none =>
        rw [ht] at hq
        rw [takeK_none (by omega) ht]
        repeat' (first
          | refine IOps_nil ?_
          | refine oS ?_
          | refine IOps_s rfl rfl ?_
          | refine oT ?_
          | refine IOps_s0 rfl ?_
          | refine oC (π := []) (hs := by first | exact hq | fail) (hx := ?_)
          | refine oZ ?_
          | refine oI ?_
          | refine thenI_n ?_
          | refine IWP_seq ?_
          | refine IWP_region ?_
          | refine IWP_ct rfl ?_
          | refine IWP_cf rfl ?_
          | refine IWP_skip ?_
          | refine IWP_block ?_
          | refine inB_n ?_
          | refine thenI_r ?_
          | refine thenI_e ?_
          | refine inB_r ?_
          | refine inB_hit ?_
          | refine inB_miss rfl ?_
          | refine IWP_exit ?_
          | refine IWP_scope ?_
          | refine IWP_label ?_
          | refine noG_n ?_
          | refine noG_r ?_
          | refine noG_e ?_
          | refine jmp_n ?_
          | refine jmp_r ?_
          | refine jmp_e ?_
          | refine jmp_g ?_
          | refine thenI_g ?_
          | refine inB_g ?_
          | refine IWP_goto ?_
          | refine Loop_n ?_
          | fail)
        refine wV 2 1 ?_
        refine wF 2 ?_
        repeat' (first
          | refine IOps_nil ?_
          | refine oS ?_
          | refine IOps_s rfl rfl ?_
          | refine oT ?_
          | refine IOps_s0 rfl ?_
          | refine oZ ?_
          | refine oI ?_
          | refine thenI_n ?_
          | refine IWP_seq ?_
          | refine IWP_region ?_
          | refine IWP_ct rfl ?_
          | refine IWP_cf rfl ?_
          | refine IWP_skip ?_
          | refine IWP_ret ?_
          | refine IWP_block ?_
          | refine inB_n ?_
          | refine thenI_r ?_
          | refine thenI_e ?_
          | refine inB_r ?_
          | refine inB_hit ?_
          | refine inB_miss rfl ?_
          | refine IWP_exit ?_
          | refine IWP_scope ?_
          | refine IWP_label ?_
          | refine noG_n ?_
          | refine noG_r ?_
          | refine noG_e ?_
          | refine jmp_n ?_
          | refine jmp_r ?_
          | refine jmp_e ?_
          | refine jmp_g ?_
          | refine thenI_g ?_
          | refine inB_g ?_
          | refine IWP_goto ?_
          | refine Loop_n ?_
          | fail)
        exact pD [] ⟨rfl, rfl⟩
      | some y =>
        obtain ⟨t, r'⟩ := y
        have hlt := (takeT_own ht).2.2
        rw [ht] at hq
        repeat' (first
          | refine IOps_nil ?_
          | refine oS ?_
          | refine IOps_s rfl rfl ?_
          | refine oT ?_
          | refine IOps_s0 rfl ?_
          | refine oC (π := []) (hs := by first | exact hq | fail) (hx := ?_)
          | refine oZ ?_
          | refine oI ?_
          | refine thenI_n ?_
          | refine IWP_seq ?_
          | refine IWP_region ?_
          | refine IWP_ct rfl ?_
          | refine IWP_cf rfl ?_
          | refine IWP_skip ?_
          | refine IWP_ret ?_
          | refine IWP_block ?_
          | refine inB_n ?_
          | refine thenI_r ?_
          | refine thenI_e ?_
          | refine inB_r ?_
          | refine inB_hit ?_
          | refine inB_miss rfl ?_
          | refine IWP_exit ?_
          | refine IWP_scope ?_
          | refine IWP_label ?_
          | refine noG_n ?_
          | refine noG_r ?_
          | refine noG_e ?_
          | refine jmp_n ?_
          | refine jmp_r ?_
          | refine jmp_e ?_
          | refine jmp_g ?_
          | refine thenI_g ?_
          | refine inB_g ?_
          | refine IWP_goto ?_
          | refine Loop_n ?_
          | fail)
        refine ⟨(i + 1, acc ++ [t], r'), ⟨by simp only; omega, by simp; omega, by simp only; omega, ?_⟩, by simp only; omega, lP [2]⟩
        simp only
        rw [takeK_some (by omega) ht, show n - ((i + 1 : Nat) : Int) = n - i - 1 by omega]
        cases takeK (n - i - 1) r' <;> simp
    · rw [takeK_zero (by omega)]
      simp only [Option.map_some, List.append_nil]
      refine wF 8 ?_
      repeat' (first
        | refine IOps_nil ?_
        | refine oS ?_
        | refine IOps_s rfl rfl ?_
        | refine oT ?_
        | refine IOps_s0 rfl ?_
        | refine oZ ?_
        | refine oI ?_
        | refine thenI_n ?_
        | refine IWP_seq ?_
        | refine IWP_region ?_
        | refine IWP_ct rfl ?_
        | refine IWP_cf rfl ?_
        | refine IWP_skip ?_
        | refine IWP_ret ?_
        | refine IWP_block ?_
        | refine inB_n ?_
        | refine thenI_r ?_
        | refine thenI_e ?_
        | refine inB_r ?_
        | refine inB_hit ?_
        | refine inB_miss rfl ?_
        | refine IWP_exit ?_
        | refine IWP_scope ?_
        | refine IWP_label ?_
        | refine noG_n ?_
        | refine noG_r ?_
        | refine noG_e ?_
        | refine jmp_n ?_
        | refine jmp_r ?_
        | refine jmp_e ?_
        | refine jmp_g ?_
        | refine thenI_g ?_
        | refine inB_g ?_
        | refine IWP_goto ?_
        | refine Loop_n ?_
        | fail)
      refine pE [] ?_
      subst q1
      rfl

theorem rtakeTexts_spec (b : List UInt8) (hb : b.length ≤ 1000000) : Idl.Spec Try.prog 16 [.str b] [] (Only (takeLR b) []) := by
  have hs := rtake_spec b (by omega)
  refine sB Try.func16 Try.ntmps16 ?_
  unfold takeLR takeL
  unfold takeR at hs
  cases hv : takeV b with
  | none =>
    rw [hv] at hs
    repeat' (first
      | refine IOps_nil ?_
      | refine oS ?_
      | refine IOps_s rfl rfl ?_
      | refine oT ?_
      | refine IOps_s0 rfl ?_
      | refine oC (π := []) (hs := by first | exact hs | fail) (hx := ?_)
      | refine oZ ?_
      | refine oI ?_
      | refine thenI_n ?_
      | refine IWP_seq ?_
      | refine IWP_region ?_
      | refine IWP_ct rfl ?_
      | refine IWP_cf rfl ?_
      | refine IWP_skip ?_
      | refine IWP_block ?_
      | refine inB_n ?_
      | refine thenI_r ?_
      | refine thenI_e ?_
      | refine inB_r ?_
      | refine inB_hit ?_
      | refine inB_miss rfl ?_
      | refine IWP_exit ?_
      | refine IWP_scope ?_
      | refine IWP_label ?_
      | refine noG_n ?_
      | refine noG_r ?_
      | refine noG_e ?_
      | refine jmp_n ?_
      | refine jmp_r ?_
      | refine jmp_e ?_
      | refine jmp_g ?_
      | refine thenI_g ?_
      | refine inB_g ?_
      | refine IWP_goto ?_
      | refine Loop_n ?_
      | fail)
    refine wV 2 1 ?_
    refine wF 2 ?_
    repeat' (first
      | refine IOps_nil ?_
      | refine oS ?_
      | refine IOps_s rfl rfl ?_
      | refine oT ?_
      | refine IOps_s0 rfl ?_
      | refine oZ ?_
      | refine oI ?_
      | refine thenI_n ?_
      | refine IWP_seq ?_
      | refine IWP_region ?_
      | refine IWP_ct rfl ?_
      | refine IWP_cf rfl ?_
      | refine IWP_skip ?_
      | refine IWP_ret ?_
      | refine IWP_block ?_
      | refine inB_n ?_
      | refine thenI_r ?_
      | refine thenI_e ?_
      | refine inB_r ?_
      | refine inB_hit ?_
      | refine inB_miss rfl ?_
      | refine IWP_exit ?_
      | refine IWP_scope ?_
      | refine IWP_label ?_
      | refine noG_n ?_
      | refine noG_r ?_
      | refine noG_e ?_
      | refine jmp_n ?_
      | refine jmp_r ?_
      | refine jmp_e ?_
      | refine jmp_g ?_
      | refine thenI_g ?_
      | refine inB_g ?_
      | refine IWP_goto ?_
      | refine Loop_n ?_
      | fail)
    exact pD [] ⟨rfl, rfl⟩
  | some x =>
    obtain ⟨n, r⟩ := x
    obtain ⟨h1, h2, h3⟩ := takeV_own hv
    have hl := congrArg List.length h1
    simp only [List.length_append] at hl
    rw [hv] at hs
    simp only at hs ⊢
    rw [show takeM (r.length + 1) n r = takeK n r from rfl]
    repeat' (first
      | refine IOps_nil ?_
      | refine oS ?_
      | refine IOps_s rfl rfl ?_
      | refine oT ?_
      | refine IOps_s0 rfl ?_
      | refine oC (π := []) (hs := by first | exact hs | fail) (hx := ?_)
      | refine oZ ?_
      | refine oI ?_
      | refine thenI_n ?_
      | refine IWP_seq ?_
      | refine IWP_region ?_
      | refine IWP_ct rfl ?_
      | refine IWP_cf rfl ?_
      | refine IWP_skip ?_
      | refine IWP_ret ?_
      | refine IWP_block ?_
      | refine inB_n ?_
      | refine thenI_r ?_
      | refine thenI_e ?_
      | refine inB_r ?_
      | refine inB_hit ?_
      | refine inB_miss rfl ?_
      | refine IWP_exit ?_
      | refine IWP_scope ?_
      | refine IWP_label ?_
      | refine noG_n ?_
      | refine noG_r ?_
      | refine noG_e ?_
      | refine jmp_n ?_
      | refine jmp_r ?_
      | refine jmp_e ?_
      | refine jmp_g ?_
      | refine thenI_g ?_
      | refine inB_g ?_
      | refine IWP_goto ?_
      | refine Loop_n ?_
      | fail)
    refine wV 8 1 ?_
    refine IWP_loop (fun x : Nat × List (List UInt8) × List UInt8 => ⟨42, [(6, .str x.2.2), (8, .sl 0 0 x.1 x.1 1), (5, .sc (.int .u64 n))], [.arr true (strs x.2.1)]⟩)
      (fun x => (x.1 : Int) ≤ n ∧ x.2.1.length = x.1 ∧ x.2.2.length + x.1 ≤ r.length ∧ (takeK (n - x.1) x.2.2).map (fun y => (x.2.1 ++ y.1, y.2)) = takeK n r)
      (fun x => x.2.2.length) (0, [], r) (lP [0]) ⟨by simp only; omega, rfl, by simp, by simp⟩ ?_
    rintro ⟨i, acc, q⟩ ⟨q0, q1, q2, q3⟩
    simp only at q0 q1 q2 q3 ⊢
    rw [← q3]
    by_cases hin : (i : Int) < n
    · have hq := rtakeText_spec q (by omega)
      unfold takeTR at hq
      cases ht : takeT q with
      | none =>
        rw [ht] at hq
        rw [takeK_none (by omega) ht]
        repeat' (first
          | refine IOps_nil ?_
          | refine oS ?_
          | refine IOps_s rfl rfl ?_
          | refine oT ?_
          | refine IOps_s0 rfl ?_
          | refine oC (π := []) (hs := by first | exact hq | fail) (hx := ?_)
          | refine oZ ?_
          | refine oI ?_
          | refine thenI_n ?_
          | refine IWP_seq ?_
          | refine IWP_region ?_
          | refine IWP_ct rfl ?_
          | refine IWP_cf rfl ?_
          | refine IWP_skip ?_
          | refine IWP_block ?_
          | refine inB_n ?_
          | refine thenI_r ?_
          | refine thenI_e ?_
          | refine inB_r ?_
          | refine inB_hit ?_
          | refine inB_miss rfl ?_
          | refine IWP_exit ?_
          | refine IWP_scope ?_
          | refine IWP_label ?_
          | refine noG_n ?_
          | refine noG_r ?_
          | refine noG_e ?_
          | refine jmp_n ?_
          | refine jmp_r ?_
          | refine jmp_e ?_
          | refine jmp_g ?_
          | refine thenI_g ?_
          | refine inB_g ?_
          | refine IWP_goto ?_
          | refine Loop_n ?_
          | fail)
        refine wV 2 1 ?_
        refine wF 2 ?_
        repeat' (first
          | refine IOps_nil ?_
          | refine oS ?_
          | refine IOps_s rfl rfl ?_
          | refine oT ?_
          | refine IOps_s0 rfl ?_
          | refine oZ ?_
          | refine oI ?_
          | refine thenI_n ?_
          | refine IWP_seq ?_
          | refine IWP_region ?_
          | refine IWP_ct rfl ?_
          | refine IWP_cf rfl ?_
          | refine IWP_skip ?_
          | refine IWP_ret ?_
          | refine IWP_block ?_
          | refine inB_n ?_
          | refine thenI_r ?_
          | refine thenI_e ?_
          | refine inB_r ?_
          | refine inB_hit ?_
          | refine inB_miss rfl ?_
          | refine IWP_exit ?_
          | refine IWP_scope ?_
          | refine IWP_label ?_
          | refine noG_n ?_
          | refine noG_r ?_
          | refine noG_e ?_
          | refine jmp_n ?_
          | refine jmp_r ?_
          | refine jmp_e ?_
          | refine jmp_g ?_
          | refine thenI_g ?_
          | refine inB_g ?_
          | refine IWP_goto ?_
          | refine Loop_n ?_
          | fail)
        exact pD [] ⟨rfl, rfl⟩
      | some y =>
        obtain ⟨t, r'⟩ := y
        have hlt := (takeT_own ht).2.2
        rw [ht] at hq
        repeat' (first
          | refine IOps_nil ?_
          | refine oS ?_
          | refine IOps_s rfl rfl ?_
          | refine oT ?_
          | refine IOps_s0 rfl ?_
          | refine oC (π := []) (hs := by first | exact hq | fail) (hx := ?_)
          | refine oZ ?_
          | refine oI ?_
          | refine thenI_n ?_
          | refine IWP_seq ?_
          | refine IWP_region ?_
          | refine IWP_ct rfl ?_
          | refine IWP_cf rfl ?_
          | refine IWP_skip ?_
          | refine IWP_ret ?_
          | refine IWP_block ?_
          | refine inB_n ?_
          | refine thenI_r ?_
          | refine thenI_e ?_
          | refine inB_r ?_
          | refine inB_hit ?_
          | refine inB_miss rfl ?_
          | refine IWP_exit ?_
          | refine IWP_scope ?_
          | refine IWP_label ?_
          | refine noG_n ?_
          | refine noG_r ?_
          | refine noG_e ?_
          | refine jmp_n ?_
          | refine jmp_r ?_
          | refine jmp_e ?_
          | refine jmp_g ?_
          | refine thenI_g ?_
          | refine inB_g ?_
          | refine IWP_goto ?_
          | refine Loop_n ?_
          | fail)
        refine ⟨(i + 1, acc ++ [t], r'), ⟨by simp only; omega, by simp; omega, by simp only; omega, ?_⟩, by simp only; omega, lP [2]⟩
        simp only
        rw [takeK_some (by omega) ht, show n - ((i + 1 : Nat) : Int) = n - i - 1 by omega]
        cases takeK (n - i - 1) r' <;> simp
    · rw [takeK_zero (by omega)]
      simp only [Option.map_some, List.append_nil]
      refine wF 8 ?_
      repeat' (first
        | refine IOps_nil ?_
        | refine oS ?_
        | refine IOps_s rfl rfl ?_
        | refine oT ?_
        | refine IOps_s0 rfl ?_
        | refine oZ ?_
        | refine oI ?_
        | refine thenI_n ?_
        | refine IWP_seq ?_
        | refine IWP_region ?_
        | refine IWP_ct rfl ?_
        | refine IWP_cf rfl ?_
        | refine IWP_skip ?_
        | refine IWP_ret ?_
        | refine IWP_block ?_
        | refine inB_n ?_
        | refine thenI_r ?_
        | refine thenI_e ?_
        | refine inB_r ?_
        | refine inB_hit ?_
        | refine inB_miss rfl ?_
        | refine IWP_exit ?_
        | refine IWP_scope ?_
        | refine IWP_label ?_
        | refine noG_n ?_
        | refine noG_r ?_
        | refine noG_e ?_
        | refine jmp_n ?_
        | refine jmp_r ?_
        | refine jmp_e ?_
        | refine jmp_g ?_
        | refine thenI_g ?_
        | refine inB_g ?_
        | refine IWP_goto ?_
        | refine Loop_n ?_
        | fail)
      refine pE [] ?_
      subst q1
      rfl


/-! ### What is put -/
theorem text_spec (b t : List UInt8) (hb : b.length ≤ 20000000) (ht : t.length ≤ 10000000) : Idl.Spec Try.prog 20 [.str b, .str t] [] (Only (.str (b ++ encT t)) []) := by
  have hp := put_spec b [(t.length : Int)] (by omega) (by simp) (fun n hn => by simp at hn; omega)
  have he : encs [(t.length : Int)] = enc t.length := by simp [encs]
  have hl := enc_len t.length
  rw [he] at hp
  unfold encT
  refine sB Try.func20 Try.ntmps20 ?_
  repeat' (first
    | refine IOps_nil ?_
    | refine oS ?_
    | refine IOps_s rfl rfl ?_
    | refine oT ?_
    | refine IOps_s0 rfl ?_
    | refine oC (π := []) (hs := by first | exact hp | fail) (hx := ?_)
    | refine oZ ?_
    | refine oI ?_
    | refine thenI_n ?_
    | refine IWP_seq ?_
    | refine IWP_region ?_
    | refine IWP_ct rfl ?_
    | refine IWP_cf rfl ?_
    | refine IWP_skip ?_
    | refine IWP_ret ?_
    | refine IWP_block ?_
    | refine inB_n ?_
    | refine thenI_r ?_
    | refine thenI_e ?_
    | refine inB_r ?_
    | refine inB_hit ?_
    | refine inB_miss rfl ?_
    | refine IWP_exit ?_
    | refine IWP_scope ?_
    | refine IWP_label ?_
    | refine noG_n ?_
    | refine noG_r ?_
    | refine noG_e ?_
    | refine jmp_n ?_
    | refine jmp_r ?_
    | refine jmp_e ?_
    | refine jmp_g ?_
    | refine thenI_g ?_
    | refine inB_g ?_
    | refine IWP_goto ?_
    | refine Loop_n ?_
    | fail)
  exact pD [] ⟨rfl, rfl⟩
theorem rtext_spec (b t : List UInt8) (hb : b.length ≤ 20000000) (ht : t.length ≤ 10000000) : Idl.Spec Try.prog 21 [.str b, .str t] [] (Only (.str (b ++ encT t)) []) := by
  have hl := enc_len t.length
  unfold encT
  refine sB Try.func21 Try.ntmps21 ?_
  repeat' (first
    | refine IOps_nil ?_
    | refine oS ?_
    | refine IOps_s rfl rfl ?_
    | refine oT ?_
    | refine IOps_s0 rfl ?_
    | refine oC (π := []) (hs := by first | exact (rone_spec _ (by omega) (by omega)) | fail) (hx := ?_)
    | refine oZ ?_
    | refine oI ?_
    | refine thenI_n ?_
    | refine IWP_seq ?_
    | refine IWP_region ?_
    | refine IWP_ct rfl ?_
    | refine IWP_cf rfl ?_
    | refine IWP_skip ?_
    | refine IWP_ret ?_
    | refine IWP_block ?_
    | refine inB_n ?_
    | refine thenI_r ?_
    | refine thenI_e ?_
    | refine inB_r ?_
    | refine inB_hit ?_
    | refine inB_miss rfl ?_
    | refine IWP_exit ?_
    | refine IWP_scope ?_
    | refine IWP_label ?_
    | refine noG_n ?_
    | refine noG_r ?_
    | refine noG_e ?_
    | refine jmp_n ?_
    | refine jmp_r ?_
    | refine jmp_e ?_
    | refine jmp_g ?_
    | refine thenI_g ?_
    | refine inB_g ?_
    | refine IWP_goto ?_
    | refine Loop_n ?_
    | fail)
  exact pD [] ⟨rfl, rfl⟩

theorem encTs_len {l : List (List UInt8)} (h : ∀ t ∈ l, t.length ≤ 10000) : (encTs l).length ≤ 10010 * l.length := by
  induction l with
  | nil => simp [encTs]
  | cons t l ih =>
    have h1 := enc_len t.length
    have h2 := h t (by simp)
    have e : encTs (t :: l) = encT t ++ encTs l := rfl
    have := ih fun x hx => h x (by simp [hx])
    rw [e]; simp [encT]; omega
theorem encTs_append (a b : List (List UInt8)) : encTs (a ++ b) = encTs a ++ encTs b := by simp [encTs]
theorem encTs_take {l : List (List UInt8)} {i : Nat} (h : i < l.length) : encTs (l.take (i + 1)) = encTs (l.take i) ++ encT (l.getD i []) := by
  rw [List.take_succ_eq_append_getElem h, encTs_append, List.getD_eq_getElem?_getD, List.getElem?_eq_getElem h, Option.getD_some]
  simp [encTs]
theorem mem_getD {α : Type} {l : List α} {i : Nat} {z : α} (h : i < l.length) : l.getD i z ∈ l := by
  rw [List.getD_eq_getElem?_getD, List.getElem?_eq_getElem h]; exact List.getElem_mem _

theorem rtexts_spec (b : List UInt8) (l : List (List UInt8)) (hb : b.length ≤ 100000) (hl : l.length ≤ 1000) (ht : ∀ t ∈ l, t.length ≤ 10000) : Idl.Spec Try.prog 23 [.str b, .fz false (strs l) l.length] [] (Only (.str (b ++ encL l)) []) := by
  have hlen := enc_len l.length
  unfold encL
  refine sB Try.func23 Try.ntmps23 ?_
  repeat' (first
    | refine IOps_nil ?_
    | refine oS ?_
    | refine IOps_s rfl rfl ?_
    | refine oT ?_
    | refine IOps_s0 rfl ?_
    | refine oC (π := []) (hs := by first | exact (rone_spec _ (by omega) (by omega)) | fail) (hx := ?_)
    | refine oZ ?_
    | refine oI ?_
    | refine thenI_n ?_
    | refine IWP_seq ?_
    | refine IWP_region ?_
    | refine IWP_ct rfl ?_
    | refine IWP_cf rfl ?_
    | refine IWP_skip ?_
    | refine IWP_ret ?_
    | refine IWP_block ?_
    | refine inB_n ?_
    | refine thenI_r ?_
    | refine thenI_e ?_
    | refine inB_r ?_
    | refine inB_hit ?_
    | refine inB_miss rfl ?_
    | refine IWP_exit ?_
    | refine IWP_scope ?_
    | refine IWP_label ?_
    | refine noG_n ?_
    | refine noG_r ?_
    | refine noG_e ?_
    | refine jmp_n ?_
    | refine jmp_r ?_
    | refine jmp_e ?_
    | refine jmp_g ?_
    | refine thenI_g ?_
    | refine inB_g ?_
    | refine IWP_goto ?_
    | refine Loop_n ?_
    | fail)
  refine IWP_loop (fun i : Nat => ⟨25, [(0, .str (b ++ (enc l.length ++ encTs (l.take i)))), (1, .fz false (strs l) l.length), (5, .i64 i)], []⟩) (fun i => i ≤ l.length) (fun i => l.length - i) 0
    (lP [] (h2 := by simp [encTs]; exact ⟨rfl, rfl, rfl, trivial⟩)) (Nat.zero_le _) ?_
  intro i hi
  by_cases hil : i < l.length
  · have hg := ht _ (mem_getD (z := []) hil)
    have hln := encTs_len (l := l.take i) fun t h => ht t (List.mem_of_mem_take h)
    simp only [List.length_take] at hln
    repeat' (first
      | refine IOps_nil ?_
      | refine oS ?_
      | refine IOps_s rfl rfl ?_
      | refine oT ?_
      | refine IOps_s0 rfl ?_
      | refine oC (π := []) (hs := by first | exact (rtext_spec _ _ (by simp; omega) (by omega)) | fail) (hx := ?_)
      | refine oZ ?_
      | refine oI ?_
      | refine thenI_n ?_
      | refine IWP_seq ?_
      | refine IWP_region ?_
      | refine IWP_ct rfl ?_
      | refine IWP_cf rfl ?_
      | refine IWP_skip ?_
      | refine IWP_ret ?_
      | refine IWP_block ?_
      | refine inB_n ?_
      | refine thenI_r ?_
      | refine thenI_e ?_
      | refine inB_r ?_
      | refine inB_hit ?_
      | refine inB_miss rfl ?_
      | refine IWP_exit ?_
      | refine IWP_scope ?_
      | refine IWP_label ?_
      | refine noG_n ?_
      | refine noG_r ?_
      | refine noG_e ?_
      | refine jmp_n ?_
      | refine jmp_r ?_
      | refine jmp_e ?_
      | refine jmp_g ?_
      | refine thenI_g ?_
      | refine inB_g ?_
      | refine IWP_goto ?_
      | refine Loop_n ?_
      | fail)
    exact ⟨i + 1, hil, by omega, lP [] (h2 := by rw [encTs_take hil]; simp only [List.append_assoc]; exact ⟨rfl, rfl, rfl, trivial⟩)⟩
  · obtain rfl : i = l.length := by omega
    repeat' (first
      | refine IOps_nil ?_
      | refine oS ?_
      | refine IOps_s rfl rfl ?_
      | refine oT ?_
      | refine IOps_s0 rfl ?_
      | refine oZ ?_
      | refine oI ?_
      | refine thenI_n ?_
      | refine IWP_seq ?_
      | refine IWP_region ?_
      | refine IWP_ct rfl ?_
      | refine IWP_cf rfl ?_
      | refine IWP_skip ?_
      | refine IWP_ret ?_
      | refine IWP_block ?_
      | refine inB_n ?_
      | refine thenI_r ?_
      | refine thenI_e ?_
      | refine inB_r ?_
      | refine inB_hit ?_
      | refine inB_miss rfl ?_
      | refine IWP_exit ?_
      | refine IWP_scope ?_
      | refine IWP_label ?_
      | refine noG_n ?_
      | refine noG_r ?_
      | refine noG_e ?_
      | refine jmp_n ?_
      | refine jmp_r ?_
      | refine jmp_e ?_
      | refine jmp_g ?_
      | refine thenI_g ?_
      | refine inB_g ?_
      | refine IWP_goto ?_
      | refine Loop_n ?_
      | fail)
    exact pD [] ⟨rfl, rfl⟩

theorem texts_spec (b : List UInt8) (l : List (List UInt8)) (hb : b.length ≤ 100000) (hl : l.length ≤ 1000) (ht : ∀ t ∈ l, t.length ≤ 10000) : Idl.Spec Try.prog 22 [.str b, .fz false (strs l) l.length] [] (Only (.str (b ++ encL l)) []) := by
  have hlen := enc_len l.length
  have hs := lay_spec b l.length (by omega) (by omega) (by omega)
  unfold encL
  refine sB Try.func22 Try.ntmps22 ?_
  repeat' (first
    | refine IOps_nil ?_
    | refine oS ?_
    | refine IOps_s rfl rfl ?_
    | refine oT ?_
    | refine IOps_s0 rfl ?_
    | refine oC (π := [0]) (hs := by first | exact hs | fail) (hx := ?_)
    | refine oZ ?_
    | refine oI ?_
    | refine thenI_n ?_
    | refine IWP_seq ?_
    | refine IWP_region ?_
    | refine IWP_ct rfl ?_
    | refine IWP_cf rfl ?_
    | refine IWP_skip ?_
    | refine IWP_ret ?_
    | refine IWP_block ?_
    | refine inB_n ?_
    | refine thenI_r ?_
    | refine thenI_e ?_
    | refine inB_r ?_
    | refine inB_hit ?_
    | refine inB_miss rfl ?_
    | refine IWP_exit ?_
    | refine IWP_scope ?_
    | refine IWP_label ?_
    | refine noG_n ?_
    | refine noG_r ?_
    | refine noG_e ?_
    | refine jmp_n ?_
    | refine jmp_r ?_
    | refine jmp_e ?_
    | refine jmp_g ?_
    | refine thenI_g ?_
    | refine inB_g ?_
    | refine IWP_goto ?_
    | refine Loop_n ?_
    | fail)
  refine IWP_loop (fun i : Nat => ⟨31, [(5, .sl 0 0 (b ++ (enc l.length ++ encTs (l.take i))).length (b ++ (enc l.length ++ encTs (l.take i))).length 1), (14, .fz false (strs l) l.length), (15, .i64 l.length), (16, .i64 i)], [.arr false (u8s (b ++ (enc l.length ++ encTs (l.take i))))]⟩)
    (fun i => i ≤ l.length) (fun i => l.length - i) 0 (lP [1] (h2 := by simp [encTs]; exact ⟨rfl, rfl, rfl, rfl, trivial⟩) (h3 := by simp [encTs]; rfl)) (Nat.zero_le _) ?_
  intro i hi
  by_cases hil : i < l.length
  · have hg := ht _ (mem_getD (z := []) hil)
    have hln := encTs_len (l := l.take i) fun t h => ht t (List.mem_of_mem_take h)
    simp only [List.length_take] at hln
    have hX : b ++ (enc l.length ++ encTs (l.take (i + 1))) = b ++ (enc l.length ++ encTs (l.take i)) ++ (enc ((l.getD i []).length) ++ l.getD i []) := by rw [encTs_take hil]; simp [encT]
    have hXl : (b ++ (enc l.length ++ encTs (l.take i))).length ≤ 20000000 := by simp; omega
    generalize b ++ (enc l.length ++ encTs (l.take i)) = X at hX hXl
    have he := enc_len (l.getD i []).length
    have hs := lay_spec X (l.getD i []).length (by omega) (by omega) (by omega)
    repeat' (first
      | refine IOps_nil ?_
      | refine oS ?_
      | refine IOps_s rfl rfl ?_
      | refine oT ?_
      | refine IOps_s0 rfl ?_
      | refine oC (π := [0]) (hs := by first | exact hs | fail) (hx := ?_)
      | refine oZ ?_
      | refine oI ?_
      | refine thenI_n ?_
      | refine IWP_seq ?_
      | refine IWP_region ?_
      | refine IWP_ct rfl ?_
      | refine IWP_cf rfl ?_
      | refine IWP_skip ?_
      | refine IWP_ret ?_
      | refine IWP_block ?_
      | refine inB_n ?_
      | refine thenI_r ?_
      | refine thenI_e ?_
      | refine inB_r ?_
      | refine inB_hit ?_
      | refine inB_miss rfl ?_
      | refine IWP_exit ?_
      | refine IWP_scope ?_
      | refine IWP_label ?_
      | refine noG_n ?_
      | refine noG_r ?_
      | refine noG_e ?_
      | refine jmp_n ?_
      | refine jmp_r ?_
      | refine jmp_e ?_
      | refine jmp_g ?_
      | refine thenI_g ?_
      | refine inB_g ?_
      | refine IWP_goto ?_
      | refine Loop_n ?_
      | fail)
    exact ⟨i + 1, hil, by omega, lP [2] (h2 := by rw [hX, List.length_append, List.length_append, ← Nat.add_assoc]; exact ⟨rfl, rfl, rfl, rfl, trivial⟩) (h3 := by rw [hX, ← List.append_assoc]; rfl)⟩
  · obtain rfl : i = l.length := by omega
    repeat' (first
      | refine IOps_nil ?_
      | refine oS ?_
      | refine IOps_s rfl rfl ?_
      | refine oT ?_
      | refine IOps_s0 rfl ?_
      | refine oZ ?_
      | refine oI ?_
      | refine thenI_n ?_
      | refine IWP_seq ?_
      | refine IWP_region ?_
      | refine IWP_ct rfl ?_
      | refine IWP_cf rfl ?_
      | refine IWP_skip ?_
      | refine IWP_ret ?_
      | refine IWP_block ?_
      | refine inB_n ?_
      | refine thenI_r ?_
      | refine thenI_e ?_
      | refine inB_r ?_
      | refine inB_hit ?_
      | refine inB_miss rfl ?_
      | refine IWP_exit ?_
      | refine IWP_scope ?_
      | refine IWP_label ?_
      | refine noG_n ?_
      | refine noG_r ?_
      | refine noG_e ?_
      | refine jmp_n ?_
      | refine jmp_r ?_
      | refine jmp_e ?_
      | refine jmp_g ?_
      | refine thenI_g ?_
      | refine inB_g ?_
      | refine IWP_goto ?_
      | refine Loop_n ?_
      | fail)
    refine pE [] ?_
    rfl
end Go.Proofs.Ytpmgocnapdhabab
