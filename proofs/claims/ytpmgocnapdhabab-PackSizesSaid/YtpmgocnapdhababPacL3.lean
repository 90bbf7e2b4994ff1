/-
  The laws PackCuts, PackSizes and PackLists.
-/
import Derived.Test.YtpmgocnapdhababPacL2
namespace Go.Proofs.Ytpmgocnapdhabab
open Go Go.Idl
set_option linter.unusedSimpArgs false
set_option linter.unusedVariables false
set_option maxRecDepth 100000
set_option maxHeartbeats 1000000
attribute [local irreducible] Go.Idl.IWP Go.Idl.IOps Go.Idl.Obl Go.Idl.OpG Go.Idl.thenI Go.Idl.inBlockI Go.Idl.LoopU Go.Idl.noGotoI Go.Idl.jumpI
attribute [local go_sem] List.append_assoc
theorem cutV {n : Int} (h0 : 0 ≤ n) (h1 : n < 18446744073709551616) {k : Nat} (hk : k < (enc n).length) : takeV ((enc n).take k) = none :=
  cut_none (P := takeV) (E := enc) (ok := fun n => 0 ≤ n ∧ n < 18446744073709551616) (fun v r h => takeV_enc h.1 h.2 r) (fun b v r h => by obtain ⟨h1, h2⟩ := takeV_own h; exact ⟨h1, h2⟩) ⟨h0, h1⟩ hk
theorem cutT {t : List UInt8} (h : t.length < 18446744073709551616) {k : Nat} (hk : k < (encT t).length) : takeT ((encT t).take k) = none :=
  cut_none (P := takeT) (E := encT) (ok := fun t => t.length < 18446744073709551616) (fun v r h => takeT_enc v r h) (fun b v r h => by obtain ⟨h1, h2, _⟩ := takeT_own h; exact ⟨h1, h2⟩) h hk
theorem encTs_ge (l : List (List UInt8)) : l.length ≤ (encTs l).length := by
  induction l with
  | nil => simp
  | cons t l ih =>
    have h1 := enc_len t.length
    have e : encTs (t :: l) = encT t ++ encTs l := rfl
    rw [e]; simp [encT]; omega
/-- Lists that have bytes as many as may be told. -/
def okL (l : List (List UInt8)) : Prop := l.length < 18446744073709551616 ∧ ∀ t ∈ l, t.length < 18446744073709551616
theorem takeL_ok {b r : List UInt8} {l : List (List UInt8)} (h : takeL b = some (l, r)) : b = encL l ++ r ∧ okL l := by
  have h0 := h
  unfold takeL at h
  split at h
  · cases h
  · rename_i n q hq
    obtain ⟨h1, h2, h3⟩ := takeV_own hq
    obtain ⟨k1, k2, k3, k4⟩ := takeM_own _ n q l r h2 h
    exact ⟨(takeL_own h0).1, by omega, k3⟩
theorem cutL {l : List (List UInt8)} (h : okL l) {k : Nat} (hk : k < (encL l).length) : takeL ((encL l).take k) = none :=
  cut_none (P := takeL) (E := encL) (ok := okL) (fun v r h => takeL_enc v r h.1 h.2) (fun b v r h => takeL_ok h) h hk

theorem cuts_spec (n : Int) (t : List (List UInt8)) (c : Int) (h0 : 0 ≤ n) (h1 : n < 18446744073709551616) (ht : t.length ≤ 9223372036854775807) (ht2 : ∀ x ∈ t, x.length ≤ 9223372036854775807) (hc0 : 0 ≤ c) (hc1 : c ≤ 65535) :
    Idl.Spec Try.prog 6 [.sc (.int .u64 n), .fz false (strs t) t.length, .sc (.int .u16 c)] [] (Only (.sc (.bool true)) []) := by
  have hf := few_spec t 100 ht ht2
  refine sB Try.func6 Try.ntmps6 ?_
  cases hfw : few t 100 with
  | false =>
    rw [hfw] at hf
    repeat' (first
      | refine IOps_nil ?_
      | refine oS ?_
      | refine IOps_s rfl rfl ?_
      | refine oT ?_
      | refine IOps_s0 rfl ?_
      | refine oC (π := []) (hs := by first | exact awake_spec | fail) (hx := ?_)
      | refine oC (π := []) (hs := by first | exact hf | fail) (hx := ?_)
      | refine oZ ?_
      | refine oI ?_
      | refine thenI_n ?_
      | refine IWP_seq ?_
      | refine IWP_region ?_
      | refine IWP_ct rfl ?_
      | refine IWP_cf rfl ?_
      | refine IWP_skip ?_
      | refine IWP_ret ?_
      | refine IWP_block ?_
      | refine inB_n ?_
      | refine thenI_r ?_
      | refine thenI_e ?_
      | refine inB_r ?_
      | refine inB_hit ?_
      | refine inB_miss rfl ?_
      | refine IWP_exit ?_
      | refine IWP_scope ?_
      | refine IWP_label ?_
      | refine noG_n ?_
      | refine noG_r ?_
      | refine noG_e ?_
      | refine jmp_n ?_
      | refine jmp_r ?_
      | refine jmp_e ?_
      | refine jmp_g ?_
      | refine thenI_g ?_
      | refine inB_g ?_
      | refine IWP_goto ?_
      | refine Loop_n ?_
      | fail)
    trace_state
    exact pD [] ⟨rfl, rfl⟩
  | true =>
    rw [hfw] at hf
    obtain ⟨f1, f2⟩ := few_true hfw
    have hLl := encL_len f1 f2
    have hp := put_spec [] [n] (by simp) (by simp) (fun m hm => by simp at hm; omega)
    rw [show [] ++ encs [n] = enc n by simp [encs]] at hp
    have hx := text_spec [] [97, 98, 99] (by decide) (by decide)
    rw [List.nil_append] at hx
    have hts := own_texts t (by omega) f2
    have hn1 := enc_len n
    have hn2 : 1 ≤ (encT [97, 98, 99]).length := by decide
    have hn3 : 1 ≤ (encL t).length := by have := enc_len t.length; unfold encL; simp; omega
    have e1 : ¬ enc n = [] := fun h => by rw [h] at hn1; simp at hn1
    have e2 : ¬ encT [97, 98, 99] = [] := by decide
    have e3 : ¬ encL t = [] := fun h => by rw [h] at hn3; simp at hn3
    have hn4 : (encT [97, 98, 99]).length ≤ 100 := by decide
    have m1 := take_spec ((enc n).take (c % (enc n).length).toNat) (by simp; omega)
    have m2 := takeText_spec ((encT [97, 98, 99]).take (c % (encT [97, 98, 99]).length).toNat) (by rw [List.length_take]; omega)
    have m3 := takeTexts_spec ((encL t).take (c % (encL t).length).toNat) (by simp; omega)
    unfold takeR at m1
    unfold takeTR at m2
    unfold takeLR at m3
    rw [cutV h0 h1 (by have := Int.emod_lt_of_pos c (b := ((enc n).length : Int)) (by omega); have := Int.emod_nonneg c (b := ((enc n).length : Int)) (by omega); omega)] at m1
    rw [cutT (by decide) (by have := Int.emod_lt_of_pos c (b := ((encT [97, 98, 99]).length : Int)) (by omega); have := Int.emod_nonneg c (b := ((encT [97, 98, 99]).length : Int)) (by omega); omega)] at m2
    rw [cutL ⟨by omega, fun t h => by have := f2 t h; omega⟩ (by have := Int.emod_lt_of_pos c (b := ((encL t).length : Int)) (by omega); have := Int.emod_nonneg c (b := ((encL t).length : Int)) (by omega); omega)] at m3
    have g1 := Int.emod_nonneg c (b := ((enc n).length : Int)) (by omega)
    have g2 := Int.emod_lt_of_pos c (b := ((enc n).length : Int)) (by omega)
    have g3 := Int.emod_nonneg c (b := ((encT [97, 98, 99]).length : Int)) (by omega)
    have g4 := Int.emod_lt_of_pos c (b := ((encT [97, 98, 99]).length : Int)) (by omega)
    have g5 := Int.emod_nonneg c (b := ((encL t).length : Int)) (by omega)
    have g6 := Int.emod_lt_of_pos c (b := ((encL t).length : Int)) (by omega)
    generalize encT [97, 98, 99] = Z at *
    generalize encL t = Y at *
    generalize enc n = X at *
    repeat' (first
      | refine IOps_nil ?_
      | refine oS ?_
      | refine IOps_s rfl rfl ?_
      | refine oT ?_
      | refine IOps_s0 rfl ?_
      | refine oC (π := []) (hs := by first | exact awake_spec | fail) (hx := ?_)
      | refine oC (π := []) (hs := by first | exact hf | fail) (hx := ?_)
      | refine oC (π := []) (hs := by first | exact hp | fail) (hx := ?_)
      | refine oC (π := []) (hs := by first | exact hx | fail) (hx := ?_)
      | refine oC (π := []) (hs := by first | exact hts | fail) (hx := ?_)
      | refine oC (π := []) (hs := by first | exact m1 | fail) (hx := ?_)
      | refine oC (π := []) (hs := by first | exact m2 | fail) (hx := ?_)
      | refine oC (π := []) (hs := by first | exact m3 | fail) (hx := ?_)
      | refine oZ ?_
      | refine oI ?_
      | refine thenI_n ?_
      | refine IWP_seq ?_
      | refine IWP_region ?_
      | refine IWP_ct rfl ?_
      | refine IWP_cf rfl ?_
      | refine IWP_skip ?_
      | refine IWP_ret ?_
      | refine IWP_block ?_
      | refine inB_n ?_
      | refine thenI_r ?_
      | refine thenI_e ?_
      | refine inB_r ?_
      | refine inB_hit ?_
      | refine inB_miss rfl ?_
      | refine IWP_exit ?_
      | refine IWP_scope ?_
      | refine IWP_label ?_
      | refine noG_n ?_
      | refine noG_r ?_
      | refine noG_e ?_
      | refine jmp_n ?_
      | refine jmp_r ?_
      | refine jmp_e ?_
      | refine jmp_g ?_
      | refine thenI_g ?_
      | refine inB_g ?_
      | refine IWP_goto ?_
      | refine Loop_n ?_
      | fail)
    trace_state
    exact pD [] ⟨rfl, rfl⟩
end Go.Proofs.Ytpmgocnapdhabab
