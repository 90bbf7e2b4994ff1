/-
  The laws begin.
-/
import Derived.Test.YtpmgocnapdhababPacE
namespace Go.Proofs.Ytpmgocnapdhabab
open Go Go.Idl
set_option linter.unusedSimpArgs false
set_option linter.unusedVariables false
set_option maxRecDepth 100000
set_option maxHeartbeats 1000000
attribute [local irreducible] Go.Idl.IWP Go.Idl.IOps Go.Idl.Obl Go.Idl.OpG Go.Idl.thenI Go.Idl.inBlockI Go.Idl.LoopU Go.Idl.noGotoI Go.Idl.jumpI
def tv (b : List UInt8) : Int := ((takeV b).map (·.1)).getD 0
def tr (b : List UInt8) : List UInt8 := ((takeV b).map (·.2)).getD []
def te (b : List UInt8) : Int := if (takeV b).isSome then 0 else 70
theorem takeR_eq (b : List UInt8) : takeR b = .tup [.sc (.int .u64 (tv b)), .str (tr b), .i64 (te b)] := by
  unfold takeR tv tr te; cases takeV b <;> rfl
def xv (b : List UInt8) : List UInt8 := ((takeT b).map (·.1)).getD []
def xr (b : List UInt8) : List UInt8 := ((takeT b).map (·.2)).getD []
def xe (b : List UInt8) : Int := if (takeT b).isSome then 0 else 70
theorem takeTR_eq (b : List UInt8) : takeTR b = .tup [.str (xv b), .str (xr b), .i64 (xe b)] := by
  unfold takeTR xv xr xe; cases takeT b <;> rfl
def lv (b : List UInt8) : List (List UInt8) := ((takeL b).map (·.1)).getD []
def lr (b : List UInt8) : List UInt8 := ((takeL b).map (·.2)).getD []
def le (b : List UInt8) : Int := if (takeL b).isSome then 0 else 70
theorem takeLR_eq (b : List UInt8) : takeLR b = .tup [.fz true (strs (lv b)) (lv b).length, .str (lr b), .i64 (le b)] := by
  unfold takeLR lv lr le; cases takeL b <;> rfl
theorem take1 (b : List UInt8) (hb : b.length ≤ 1000000000) : Idl.Spec Try.prog 11 [.str b] [] (Only (.tup [.sc (.int .u64 (tv b)), .str (tr b), .i64 (te b)]) []) := takeR_eq b ▸ take_spec b hb
theorem rtake1 (b : List UInt8) (hb : b.length ≤ 1000000000) : Idl.Spec Try.prog 12 [.str b] [] (Only (.tup [.sc (.int .u64 (tv b)), .str (tr b), .i64 (te b)]) []) := takeR_eq b ▸ rtake_spec b hb
theorem text1 (b : List UInt8) (hb : b.length ≤ 1000000000) : Idl.Spec Try.prog 13 [.str b] [] (Only (.tup [.str (xv b), .str (xr b), .i64 (xe b)]) []) := takeTR_eq b ▸ takeText_spec b hb
theorem rtext1 (b : List UInt8) (hb : b.length ≤ 1000000000) : Idl.Spec Try.prog 14 [.str b] [] (Only (.tup [.str (xv b), .str (xr b), .i64 (xe b)]) []) := takeTR_eq b ▸ rtakeText_spec b hb
theorem texts1 (b : List UInt8) (hb : b.length ≤ 1000000) : Idl.Spec Try.prog 15 [.str b] [] (Only (.tup [.fz true (strs (lv b)) (lv b).length, .str (lr b), .i64 (le b)]) []) := takeLR_eq b ▸ takeTexts_spec b hb
theorem rtexts1 (b : List UInt8) (hb : b.length ≤ 1000000) : Idl.Spec Try.prog 16 [.str b] [] (Only (.tup [.fz true (strs (lv b)) (lv b).length, .str (lr b), .i64 (le b)]) []) := takeLR_eq b ▸ rtakeTexts_spec b hb
theorem lv_len (b : List UInt8) : (lv b).length ≤ b.length := by
  unfold lv
  cases h : takeL b with
  | none => simp
  | some x =>
    have := (takeL_own (l := x.1) (r := x.2) h).2.2
    simp; omega

theorem awake_spec : Idl.Spec Try.prog 9 [] [] (Only (.sc (.bool true)) []) := by
  have h1 := put_spec [120] [5, 300, 0] (by decide) (by decide) (by decide)
  rw [show [120] ++ encs [5, 300, 0] = [120, 5, 172, 2, 0] by decide +kernel] at h1
  have h2 := take1 [172, 2, 121] (by decide)
  rw [show tv [172, 2, 121] = 300 by decide +kernel, show tr [172, 2, 121] = [121] by decide +kernel, show te [172, 2, 121] = 0 by decide +kernel] at h2
  have h3 := take1 [128, 0] (by decide)
  rw [show tv [128, 0] = 0 by decide +kernel, show tr [128, 0] = [] by decide +kernel, show te [128, 0] = 70 by decide +kernel] at h3
  have h4 := text_spec [] [97, 98] (by decide) (by decide)
  rw [show [] ++ encT [97, 98] = [2, 97, 98] by decide +kernel] at h4
  have h5 := text1 [2, 97, 98] (by decide)
  rw [show xv [2, 97, 98] = [97, 98] by decide +kernel, show xr [2, 97, 98] = [] by decide +kernel, show xe [2, 97, 98] = 0 by decide +kernel] at h5
  have h6 := texts_spec [] [[97], []] (by decide) (by decide) (by decide)
  rw [show [] ++ encL [[97], []] = [2, 1, 97, 0] by decide +kernel] at h6
  have h7 := texts1 [2, 1, 97, 0] (by decide)
  rw [show lv [2, 1, 97, 0] = [[97], []] by decide +kernel, show lr [2, 1, 97, 0] = [] by decide +kernel, show le [2, 1, 97, 0] = 0 by decide +kernel] at h7
  have h8 := texts1 [2, 0] (by decide)
  rw [show lv [2, 0] = [] by decide +kernel, show lr [2, 0] = [] by decide +kernel, show le [2, 0] = 70 by decide +kernel] at h8
  have h9 := same_spec [[97], []] [[97], []] (by decide) (by decide)
  rw [decide_eq_true rfl] at h9
  have ha := size_spec 127 (by decide) (by decide)
  rw [show ((enc 127).length : Int) = 1 by decide +kernel] at ha
  have hb := size_spec 128 (by decide) (by decide)
  rw [show ((enc 128).length : Int) = 2 by decide +kernel] at hb
  have hc := size_spec 18446744073709551615 (by decide) (by decide)
  rw [show ((enc 18446744073709551615).length : Int) = 10 by decide +kernel] at hc
  refine sB Try.func9 Try.ntmps9 ?_
  repeat' (first
    | refine IOps_nil ?_
    | refine oS ?_
    | refine IOps_s rfl rfl ?_
    | refine oT ?_
    | refine IOps_s0 rfl ?_
    | refine oC (π := []) (hs := by first | exact h1 | fail) (hx := ?_)
    | refine oC (π := []) (hs := by first | exact h2 | fail) (hx := ?_)
    | refine oC (π := []) (hs := by first | exact h3 | fail) (hx := ?_)
    | refine oC (π := []) (hs := by first | exact h4 | fail) (hx := ?_)
    | refine oC (π := []) (hs := by first | exact h5 | fail) (hx := ?_)
    | refine oC (π := []) (hs := by first | exact h6 | fail) (hx := ?_)
    | refine oC (π := []) (hs := by first | exact h7 | fail) (hx := ?_)
    | refine oC (π := []) (hs := by first | exact h8 | fail) (hx := ?_)
    | refine oC (π := []) (hs := by first | exact h9 | fail) (hx := ?_)
    | refine oC (π := []) (hs := by first | exact ha | fail) (hx := ?_)
    | refine oC (π := []) (hs := by first | exact hb | fail) (hx := ?_)
    | refine oC (π := []) (hs := by first | exact hc | fail) (hx := ?_)
    | refine oZ ?_
    | refine oI ?_
    | refine thenI_n ?_
    | refine IWP_seq ?_
    | refine IWP_region ?_
    | refine IWP_ct rfl ?_
    | refine IWP_cf rfl ?_
    | refine IWP_skip ?_
    | refine IWP_ret ?_
    | refine IWP_block ?_
    | refine inB_n ?_
    | refine thenI_r ?_
    | refine thenI_e ?_
    | refine inB_r ?_
    | refine inB_hit ?_
    | refine inB_miss rfl ?_
    | refine IWP_exit ?_
    | refine IWP_scope ?_
    | refine IWP_label ?_
    | refine noG_n ?_
    | refine noG_r ?_
    | refine noG_e ?_
    | refine jmp_n ?_
    | refine jmp_r ?_
    | refine jmp_e ?_
    | refine jmp_g ?_
    | refine thenI_g ?_
    | refine inB_g ?_
    | refine IWP_goto ?_
    | refine Loop_n ?_
    | fail)
  exact pD [] ⟨rfl, rfl⟩

theorem few_true {l : List (List UInt8)} (h : few l 100 = true) : l.length ≤ 100 ∧ ∀ t ∈ l, t.length ≤ 1000 := by
  unfold few at h
  simp only [Bool.and_eq_true, decide_eq_true_eq] at h
  exact ⟨by omega, h.1⟩

theorem tells_spec (b : List UInt8) (l : List Int) (t : List (List UInt8)) (n : Int) (hb : b.length ≤ 9223372036854775807) (hl : l.length ≤ 9223372036854775807) (hn : ∀ n ∈ l, 0 ≤ n ∧ n < 18446744073709551616)
    (ht : t.length ≤ 9223372036854775807) (ht2 : ∀ x ∈ t, x.length ≤ 9223372036854775807) (h0 : 0 ≤ n) (h1 : n < 18446744073709551616) :
    Idl.Spec Try.prog 3 [.str b, .fz false (u64s l) l.length, .fz false (strs t) t.length, .sc (.int .u64 n)] [] (Only (.sc (.bool true)) []) := by
  have hf := few_spec t 100 ht ht2
  refine sB Try.func3 Try.ntmps3 ?_
  by_cases hb1 : b.length > 1000
  · repeat' (first
      | refine IOps_nil ?_
      | refine oS ?_
      | refine IOps_s rfl rfl ?_
      | refine oT ?_
      | refine IOps_s0 rfl ?_
      | refine oC (π := []) (hs := by first | exact awake_spec | fail) (hx := ?_)
      | refine oZ ?_
      | refine oI ?_
      | refine thenI_n ?_
      | refine IWP_seq ?_
      | refine IWP_region ?_
      | refine IWP_ct rfl ?_
      | refine IWP_cf rfl ?_
      | refine IWP_skip ?_
      | refine IWP_ret ?_
      | refine IWP_block ?_
      | refine inB_n ?_
      | refine thenI_r ?_
      | refine thenI_e ?_
      | refine inB_r ?_
      | refine inB_hit ?_
      | refine inB_miss rfl ?_
      | refine IWP_exit ?_
      | refine IWP_scope ?_
      | refine IWP_label ?_
      | refine noG_n ?_
      | refine noG_r ?_
      | refine noG_e ?_
      | refine jmp_n ?_
      | refine jmp_r ?_
      | refine jmp_e ?_
      | refine jmp_g ?_
      | refine thenI_g ?_
      | refine inB_g ?_
      | refine IWP_goto ?_
      | refine Loop_n ?_
      | fail)
    exact pD [] ⟨rfl, rfl⟩
  · by_cases hl1 : l.length > 1000
    · repeat' (first
        | refine IOps_nil ?_
        | refine oS ?_
        | refine IOps_s rfl rfl ?_
        | refine oT ?_
        | refine IOps_s0 rfl ?_
        | refine oC (π := []) (hs := by first | exact awake_spec | fail) (hx := ?_)
        | refine oZ ?_
        | refine oI ?_
        | refine thenI_n ?_
        | refine IWP_seq ?_
        | refine IWP_region ?_
        | refine IWP_ct rfl ?_
        | refine IWP_cf rfl ?_
        | refine IWP_skip ?_
        | refine IWP_ret ?_
        | refine IWP_block ?_
        | refine inB_n ?_
        | refine thenI_r ?_
        | refine thenI_e ?_
        | refine inB_r ?_
        | refine inB_hit ?_
        | refine inB_miss rfl ?_
        | refine IWP_exit ?_
        | refine IWP_scope ?_
        | refine IWP_label ?_
        | refine noG_n ?_
        | refine noG_r ?_
        | refine noG_e ?_
        | refine jmp_n ?_
        | refine jmp_r ?_
        | refine jmp_e ?_
        | refine jmp_g ?_
        | refine thenI_g ?_
        | refine inB_g ?_
        | refine IWP_goto ?_
        | refine Loop_n ?_
        | fail)
      exact pD [] ⟨rfl, rfl⟩
    · cases hfw : few t 100 with
      | false =>
        rw [hfw] at hf
        repeat' (first
          | refine IOps_nil ?_
          | refine oS ?_
          | refine IOps_s rfl rfl ?_
          | refine oT ?_
          | refine IOps_s0 rfl ?_
          | refine oC (π := []) (hs := by first | exact awake_spec | fail) (hx := ?_)
          | refine oC (π := []) (hs := by first | exact hf | fail) (hx := ?_)
          | refine oZ ?_
          | refine oI ?_
          | refine thenI_n ?_
          | refine IWP_seq ?_
          | refine IWP_region ?_
          | refine IWP_ct rfl ?_
          | refine IWP_cf rfl ?_
          | refine IWP_skip ?_
          | refine IWP_ret ?_
          | refine IWP_block ?_
          | refine inB_n ?_
          | refine thenI_r ?_
          | refine thenI_e ?_
          | refine inB_r ?_
          | refine inB_hit ?_
          | refine inB_miss rfl ?_
          | refine IWP_exit ?_
          | refine IWP_scope ?_
          | refine IWP_label ?_
          | refine noG_n ?_
          | refine noG_r ?_
          | refine noG_e ?_
          | refine jmp_n ?_
          | refine jmp_r ?_
          | refine jmp_e ?_
          | refine jmp_g ?_
          | refine thenI_g ?_
          | refine inB_g ?_
          | refine IWP_goto ?_
          | refine Loop_n ?_
          | fail)
        exact pD [] ⟨rfl, rfl⟩
      | true =>
        rw [hfw] at hf
        obtain ⟨f1, f2⟩ := few_true hfw
        have hlv := lv_len b
        have hsm := same_spec (lv b) (lv b) (by omega) (by omega)
        rw [decide_eq_true rfl] at hsm
        have hts := texts_spec b t (by omega) (by omega) (fun x hx => by have := f2 x hx; omega)
        have hrts := rtexts_spec b t (by omega) (by omega) (fun x hx => by have := f2 x hx; omega)
        have hp := put_spec b l (by omega) (by omega) hn
        have hrp := rput_spec b l (by omega) (by omega) hn
        repeat' (first
          | refine IOps_nil ?_
          | refine oS ?_
          | refine IOps_s rfl rfl ?_
          | refine oT ?_
          | refine IOps_s0 rfl ?_
          | refine oC (π := []) (hs := by first | exact awake_spec | fail) (hx := ?_)
          | refine oC (π := []) (hs := by first | exact hf | fail) (hx := ?_)
          | refine oC (π := []) (hs := by first | exact (take1 _ (by omega)) | fail) (hx := ?_)
          | refine oC (π := []) (hs := by first | exact (rtake1 _ (by omega)) | fail) (hx := ?_)
          | refine oC (π := []) (hs := by first | exact (text1 _ (by omega)) | fail) (hx := ?_)
          | refine oC (π := []) (hs := by first | exact (rtext1 _ (by omega)) | fail) (hx := ?_)
          | refine oC (π := []) (hs := by first | exact (texts1 _ (by omega)) | fail) (hx := ?_)
          | refine oC (π := []) (hs := by first | exact (rtexts1 _ (by omega)) | fail) (hx := ?_)
          | refine oC (π := []) (hs := by first | exact hsm | fail) (hx := ?_)
          | refine oC (π := []) (hs := by first | exact hts | fail) (hx := ?_)
          | refine oC (π := []) (hs := by first | exact hrts | fail) (hx := ?_)
          | refine oC (π := []) (hs := by first | exact hp | fail) (hx := ?_)
          | refine oC (π := []) (hs := by first | exact hrp | fail) (hx := ?_)
          | refine oC (π := []) (hs := by first | exact (text_spec _ _ (by omega) (by omega)) | fail) (hx := ?_)
          | refine oC (π := []) (hs := by first | exact (rtext_spec _ _ (by omega) (by omega)) | fail) (hx := ?_)
          | refine oC (π := []) (hs := by first | exact (size_spec _ h0 h1) | fail) (hx := ?_)
          | refine oC (π := []) (hs := by first | exact (rsize_spec _ h0 h1) | fail) (hx := ?_)
          | refine oZ ?_
          | refine oI ?_
          | refine thenI_n ?_
          | refine IWP_seq ?_
          | refine IWP_region ?_
          | refine IWP_ct rfl ?_
          | refine IWP_cf rfl ?_
          | refine IWP_skip ?_
          | refine IWP_ret ?_
          | refine IWP_block ?_
          | refine inB_n ?_
          | refine thenI_r ?_
          | refine thenI_e ?_
          | refine inB_r ?_
          | refine inB_hit ?_
          | refine inB_miss rfl ?_
          | refine IWP_exit ?_
          | refine IWP_scope ?_
          | refine IWP_label ?_
          | refine noG_n ?_
          | refine noG_r ?_
          | refine noG_e ?_
          | refine jmp_n ?_
          | refine jmp_r ?_
          | refine jmp_e ?_
          | refine jmp_g ?_
          | refine thenI_g ?_
          | refine inB_g ?_
          | refine IWP_goto ?_
          | refine Loop_n ?_
          | fail)
        exact pD [] ⟨rfl, rfl⟩
end Go.Proofs.Ytpmgocnapdhabab
