/-
  Sorting, at texts: SortFunc.
-/
import Derived.Test.YtmgcoopmbohkoaaStrJ
namespace Go.Proofs.Ytmgcoopmbohkoaa
open Go Go.Idl
set_option linter.unusedSimpArgs false
set_option linter.unusedVariables false
set_option maxRecDepth 100000
set_option maxHeartbeats 1000000
attribute [local irreducible] Go.Idl.IWP Go.Idl.IOps Go.Idl.Obl Go.Idl.OpG Go.Idl.thenI Go.Idl.inBlockI Go.Idl.LoopU Go.Idl.noGotoI Go.Idl.jumpI
attribute [local go_sem] List.length_set
theorem sort_spec (L : List Ks) (cap : Nat) (oc : OrdL fun x y => decide (cS x y < 0)) (hL : L.length ≤ 250) :
    Idl.Spec Try.prog 36 [.sl 0 0 L.length cap 1] [.arr false (strs L)]
      (Ex (fun M : List Ks => M.length = L.length ∧ M.Perm L ∧ M.Pairwise fun x y => ¬ cS y x < 0) (fun _ => .tup []) (fun M => [.arr false (strs M)])) := by
  refine sE Try.func36 Try.ntmps36 ?_
  repeat' (first
    | refine IOps_nil ?_
    | refine oS ?_
    | refine IOps_s rfl rfl ?_
    | refine oT ?_
    | refine IOps_s0 rfl ?_
    | refine oC (π := []) (hs := by first | exact less_spec _ _ | fail) (hx := ?_)
    | refine oZ ?_
    | refine oI ?_
    | refine thenI_n ?_
    | refine IWP_seq ?_
    | refine IWP_region ?_
    | refine IWP_ct rfl ?_
    | refine IWP_cf rfl ?_
    | refine IWP_skip ?_
    | refine IWP_ret ?_
    | refine IWP_block ?_
    | refine inB_n ?_
    | refine thenI_r ?_
    | refine thenI_e ?_
    | refine inB_r ?_
    | refine inB_hit ?_
    | refine inB_miss rfl ?_
    | refine IWP_exit ?_
    | refine IWP_scope ?_
    | refine IWP_label ?_
    | refine noG_n ?_
    | refine noG_r ?_
    | refine noG_e ?_
    | refine jmp_n ?_
    | refine jmp_r ?_
    | refine jmp_e ?_
    | refine jmp_g ?_
    | refine thenI_g ?_
    | refine inB_g ?_
    | refine IWP_goto ?_
    | refine Loop_n ?_
    | fail)
  refine oE [] (hs := len_spec L.length (by omega)) (hx := ?_)
  rintro n ⟨hn, -⟩
  repeat' (first
    | refine IOps_nil ?_
    | refine oS ?_
    | refine IOps_s rfl rfl ?_
    | refine oT ?_
    | refine IOps_s0 rfl ?_
    | refine oC (π := []) (hs := by first | exact less_spec _ _ | fail) (hx := ?_)
    | refine oZ ?_
    | refine oI ?_
    | refine thenI_n ?_
    | refine IWP_seq ?_
    | refine IWP_region ?_
    | refine IWP_ct rfl ?_
    | refine IWP_cf rfl ?_
    | refine IWP_skip ?_
    | refine IWP_ret ?_
    | refine IWP_block ?_
    | refine inB_n ?_
    | refine thenI_r ?_
    | refine thenI_e ?_
    | refine inB_r ?_
    | refine inB_hit ?_
    | refine inB_miss rfl ?_
    | refine IWP_exit ?_
    | refine IWP_scope ?_
    | refine IWP_label ?_
    | refine noG_n ?_
    | refine noG_r ?_
    | refine noG_e ?_
    | refine jmp_n ?_
    | refine jmp_r ?_
    | refine jmp_e ?_
    | refine jmp_g ?_
    | refine thenI_g ?_
    | refine inB_g ?_
    | refine IWP_goto ?_
    | refine Loop_n ?_
    | fail)
  have hsp := pdq_spec cap oc (L.length + 1) L 0 L.length n (by omega) (by omega) (Nat.le_refl _) hL (by omega) (fun h => by omega)
  refine oE [0] (hs := hsp) (hx := ?_)
  rintro M ⟨hM, hS⟩
  repeat' (first
    | refine IOps_nil ?_
    | refine oS ?_
    | refine IOps_s rfl rfl ?_
    | refine oT ?_
    | refine IOps_s0 rfl ?_
    | refine oC (π := []) (hs := by first | exact less_spec _ _ | fail) (hx := ?_)
    | refine oZ ?_
    | refine oI ?_
    | refine thenI_n ?_
    | refine IWP_seq ?_
    | refine IWP_region ?_
    | refine IWP_ct rfl ?_
    | refine IWP_cf rfl ?_
    | refine IWP_skip ?_
    | refine IWP_ret ?_
    | refine IWP_block ?_
    | refine inB_n ?_
    | refine thenI_r ?_
    | refine thenI_e ?_
    | refine inB_r ?_
    | refine inB_hit ?_
    | refine inB_miss rfl ?_
    | refine IWP_exit ?_
    | refine IWP_scope ?_
    | refine IWP_label ?_
    | refine noG_n ?_
    | refine noG_r ?_
    | refine noG_e ?_
    | refine jmp_n ?_
    | refine jmp_r ?_
    | refine jmp_e ?_
    | refine jmp_g ?_
    | refine thenI_g ?_
    | refine inB_g ?_
    | refine IWP_goto ?_
    | refine Loop_n ?_
    | fail)
  exact pX [0] M ⟨hM.len, hM.perm, (SS.pairwise (hM.len ▸ hS)).imp fun h => by simpa using h⟩ rfl
end Go.Proofs.Ytmgcoopmbohkoaa
