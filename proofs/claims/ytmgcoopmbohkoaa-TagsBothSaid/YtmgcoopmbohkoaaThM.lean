/-
  Things: keys, hashes, places; a tag's bytes.
-/
import Derived.Test.YtmgcoopmbohkoaaStM
import Derived.DeepKeys5
import Derived.Test.YtmgcoopmbohkoaaStJ
import Derived.Test.YtmgcoopmbohkoaaIdlMo
import Derived.Test.YtmgcoopmbohkoaaIdlAm
namespace Go.Proofs.Ytmgcoopmbohkoaa
open Go Go.Idl
set_option linter.unusedSimpArgs false
set_option linter.unusedVariables false
set_option maxRecDepth 100000
set_option maxHeartbeats 4000000
def keyOk (k : Ks) : Prop := 1 ≤ k.length ∧ k.length ≤ 16
instance (k : Ks) : Decidable (keyOk k) := by unfold keyOk; infer_instance
theorem u8_set {X : Ks} {i : Nat} {m : Int} (h0 : 0 ≤ m) (h1 : m < 256) : (cl u8V X).set i (.sc (.int .u8 m)) = cl u8V (X.set i (UInt8.ofNat m.toNat)) := by
  have : ((UInt8.ofNat m.toNat).toNat : Int) = m := by rw [UInt8.toNat_ofNat']; omega
  rw [← cl_set]; simp only [u8V, this]
theorem splice9 {t : Ks} (h : t.length ≤ 8) : splice [.sc (.int .u8 0), .sc (.int .u8 0), .sc (.int .u8 0), .sc (.int .u8 0), .sc (.int .u8 0), .sc (.int .u8 0), .sc (.int .u8 0), .sc (.int .u8 0), .sc (.int .u8 0)] 0 (cl u8V t) = cl u8V (t ++ List.replicate (9 - t.length) 0) := by
  have e : ([.sc (.int .u8 0), .sc (.int .u8 0), .sc (.int .u8 0), .sc (.int .u8 0), .sc (.int .u8 0), .sc (.int .u8 0), .sc (.int .u8 0), .sc (.int .u8 0), .sc (.int .u8 0)] : List IV) = cl u8V (List.replicate 9 0) := rfl
  rw [e, cl_splice, List.take_zero, List.nil_append, Nat.zero_add, List.drop_replicate]
def tagOk (t : Ks) : Prop := 1 ≤ t.length ∧ t.length ≤ 8
instance (t : Ks) : Decidable (tagOk t) := by unfold tagOk; infer_instance
def tagB (t : Ks) : Ks := if tagOk t then t ++ List.replicate (8 - t.length) 0 ++ [UInt8.ofNat t.length] else List.replicate 9 0
theorem tagB_len (t : Ks) : (tagB t).length = 9 := by
  unfold tagB
  split
  · next h => have := h.2; simp; omega
  · simp
def tag9 (X : Ks) : List IV := [.sc (.int .u8 (X.getD 0 0).toNat), .sc (.int .u8 (X.getD 1 0).toNat), .sc (.int .u8 (X.getD 2 0).toNat), .sc (.int .u8 (X.getD 3 0).toNat), .sc (.int .u8 (X.getD 4 0).toNat), .sc (.int .u8 (X.getD 5 0).toNat), .sc (.int .u8 (X.getD 6 0).toNat), .sc (.int .u8 (X.getD 7 0).toNat), .sc (.int .u8 (X.getD 8 0).toNat)]
theorem nine : ∀ {X : Ks}, X.length = 9 → u8s X = tag9 X
  | [_, _, _, _, _, _, _, _, _], _ => rfl
  | [], h => by simp at h
  | [_], h => by simp at h
  | [_, _], h => by simp at h
  | [_, _, _], h => by simp at h
  | [_, _, _, _], h => by simp at h
  | [_, _, _, _, _], h => by simp at h
  | [_, _, _, _, _, _], h => by simp at h
  | [_, _, _, _, _, _, _], h => by simp at h
  | [_, _, _, _, _, _, _, _], h => by simp at h
  | _ :: _ :: _ :: _ :: _ :: _ :: _ :: _ :: _ :: _ :: _, h => by simp at h
theorem tagB_inj {a b : Ks} (ha : tagOk a) (hb : tagOk b) (h : tagB a = tagB b) : a = b := by
  unfold tagB at h
  rw [if_pos ha, if_pos hb] at h
  have hl : a.length = b.length := by
    have h1 := congrArg (fun X : Ks => X.getLast?) h
    simp only [List.getLast?_concat, Option.some.injEq] at h1
    have h2 := congrArg UInt8.toNat h1
    simp only [UInt8.toNat_ofNat'] at h2
    have := ha.2; have := hb.2
    omega
  have h1 := congrArg (List.take a.length) h
  rw [List.append_assoc, List.append_assoc, List.take_left, hl, List.take_left] at h1
  exact h1
attribute [local irreducible] Go.Idl.IWP Go.Idl.IOps Go.Idl.Obl Go.Idl.OpG Go.Idl.thenI Go.Idl.inBlockI Go.Idl.LoopU Go.Idl.noGotoI Go.Idl.jumpI
attribute [local go_sem] List.length_set u8_set splice9
theorem lay_spec (t : Ks) (ht : t.length ≤ 1000000000) : Idl.Spec Try.prog 34 [.sc (.string ⟨⟨t⟩⟩)] [] (Only (.agg (tag9 (tagB t))) []) := by
  by_cases h1 : 1 ≤ t.length
  · by_cases h8 : t.length ≤ 8
    · unfold tag9
      refine sB Try.func34 Try.ntmps34 ?_
      repeat' (first|refine IOps_nil ?_|refine oS ?_|refine IOps_s rfl rfl ?_|refine oT ?_|refine IOps_s0 rfl ?_|refine oZ ?_|refine oI ?_|refine oAB ?_|refine thenI_n ?_|refine IWP_seq ?_|refine IWP_region ?_|refine IWP_ct rfl ?_|refine IWP_cf rfl ?_|refine IWP_skip ?_|refine IWP_ret ?_|refine IWP_block ?_|refine inB_n ?_|refine thenI_r ?_|refine thenI_e ?_|refine inB_r ?_|refine inB_hit ?_|refine inB_miss rfl ?_|refine IWP_exit ?_|refine IWP_scope ?_|refine IWP_label ?_|refine noG_n ?_|refine noG_r ?_|refine noG_e ?_|refine jmp_n ?_|refine jmp_r ?_|refine jmp_e ?_|refine jmp_g ?_|refine thenI_g ?_|refine inB_g ?_|refine IWP_goto ?_|refine Loop_n ?_|fail)
      have hy : (t ++ List.replicate (9 - t.length) 0).set 8 (UInt8.ofNat t.length) = tagB t := by
        rw [show tagB t = t ++ List.replicate (8 - t.length) 0 ++ [UInt8.ofNat t.length] from if_pos ⟨h1, h8⟩]
        have e : 9 - t.length = (8 - t.length) + 1 := by omega
        rw [e, List.replicate_succ', ← List.append_assoc, List.set_append_right _ _ (by simp; omega)]
        have e2 : 8 - (t ++ List.replicate (8 - t.length) (0 : UInt8)).length = 0 := by simp; omega
        rw [e2]; rfl
      rw [hy, show cl u8V (tagB t) = _ from nine (tagB_len t)]
      unfold tag9
      repeat' (first|refine IOps_nil ?_|refine oS ?_|refine IOps_s rfl rfl ?_|refine oT ?_|refine IOps_s0 rfl ?_|refine oZ ?_|refine oI ?_|refine oAB ?_|refine thenI_n ?_|refine IWP_seq ?_|refine IWP_region ?_|refine IWP_ct rfl ?_|refine IWP_cf rfl ?_|refine IWP_skip ?_|refine IWP_ret ?_|refine IWP_block ?_|refine inB_n ?_|refine thenI_r ?_|refine thenI_e ?_|refine inB_r ?_|refine inB_hit ?_|refine inB_miss rfl ?_|refine IWP_exit ?_|refine IWP_scope ?_|refine IWP_label ?_|refine noG_n ?_|refine noG_r ?_|refine noG_e ?_|refine jmp_n ?_|refine jmp_r ?_|refine jmp_e ?_|refine jmp_g ?_|refine thenI_g ?_|refine inB_g ?_|refine IWP_goto ?_|refine Loop_n ?_|fail)
      exact pD [] ⟨rfl, rfl⟩
    · rw [show tagB t = List.replicate 9 0 from if_neg fun h => h8 h.2]
      refine sB Try.func34 Try.ntmps34 ?_
      repeat' (first|refine IOps_nil ?_|refine oS ?_|refine IOps_s rfl rfl ?_|refine oT ?_|refine IOps_s0 rfl ?_|refine oZ ?_|refine oI ?_|refine oAB ?_|refine thenI_n ?_|refine IWP_seq ?_|refine IWP_region ?_|refine IWP_ct rfl ?_|refine IWP_cf rfl ?_|refine IWP_skip ?_|refine IWP_ret ?_|refine IWP_block ?_|refine inB_n ?_|refine thenI_r ?_|refine thenI_e ?_|refine inB_r ?_|refine inB_hit ?_|refine inB_miss rfl ?_|refine IWP_exit ?_|refine IWP_scope ?_|refine IWP_label ?_|refine noG_n ?_|refine noG_r ?_|refine noG_e ?_|refine jmp_n ?_|refine jmp_r ?_|refine jmp_e ?_|refine jmp_g ?_|refine thenI_g ?_|refine inB_g ?_|refine IWP_goto ?_|refine Loop_n ?_|fail)
      exact pD [] ⟨rfl, rfl⟩
  · rw [show tagB t = List.replicate 9 0 from if_neg fun h => h1 h.1]
    refine sB Try.func34 Try.ntmps34 ?_
    repeat' (first|refine IOps_nil ?_|refine oS ?_|refine IOps_s rfl rfl ?_|refine oT ?_|refine IOps_s0 rfl ?_|refine oZ ?_|refine oI ?_|refine oAB ?_|refine thenI_n ?_|refine IWP_seq ?_|refine IWP_region ?_|refine IWP_ct rfl ?_|refine IWP_cf rfl ?_|refine IWP_skip ?_|refine IWP_ret ?_|refine IWP_block ?_|refine inB_n ?_|refine thenI_r ?_|refine thenI_e ?_|refine inB_r ?_|refine inB_hit ?_|refine inB_miss rfl ?_|refine IWP_exit ?_|refine IWP_scope ?_|refine IWP_label ?_|refine noG_n ?_|refine noG_r ?_|refine noG_e ?_|refine jmp_n ?_|refine jmp_r ?_|refine jmp_e ?_|refine jmp_g ?_|refine thenI_g ?_|refine inB_g ?_|refine IWP_goto ?_|refine Loop_n ?_|fail)
    exact pD [] ⟨rfl, rfl⟩
theorem text_spec (t : Ks) (ht : tagOk t) : Idl.Spec Try.prog 35 [.agg (tag9 (tagB t))] [] (Only (.sc (.string ⟨⟨t⟩⟩)) []) := by
  have h8 : ((tagB t).getD 8 0).toNat = t.length := by
    have := ht.2
    rw [show tagB t = t ++ List.replicate (8 - t.length) 0 ++ [UInt8.ofNat t.length] from if_pos ht, List.getD_eq_getElem?_getD, List.getElem?_append_right (by simp; omega)]
    have e : 8 - (t ++ List.replicate (8 - t.length) (0 : UInt8)).length = 0 := by simp; omega
    rw [e]
    simp only [List.getElem?_cons_zero, Option.getD_some, UInt8.toNat_ofNat']
    omega
  obtain ⟨h1, h2⟩ := ht
  unfold tag9
  rw [h8]
  refine sB Try.func35 Try.ntmps35 ?_
  have hl9 := tagB_len t
  have hx := nine hl9
  unfold tag9 at hx
  rw [h8] at hx
  repeat' (first|refine IOps_nil ?_|refine oS ?_|refine IOps_s rfl rfl ?_|refine oT ?_|refine IOps_s0 rfl ?_|refine oZ ?_|refine oI ?_|refine oAB ?_|refine thenI_n ?_|refine IWP_seq ?_|refine IWP_region ?_|refine IWP_ct rfl ?_|refine IWP_cf rfl ?_|refine IWP_skip ?_|refine IWP_ret ?_|refine IWP_block ?_|refine inB_n ?_|refine thenI_r ?_|refine thenI_e ?_|refine inB_r ?_|refine inB_hit ?_|refine inB_miss rfl ?_|refine IWP_exit ?_|refine IWP_scope ?_|refine IWP_label ?_|refine noG_n ?_|refine noG_r ?_|refine noG_e ?_|refine jmp_n ?_|refine jmp_r ?_|refine jmp_e ?_|refine jmp_g ?_|refine thenI_g ?_|refine inB_g ?_|refine IWP_goto ?_|refine Loop_n ?_|fail)
  rw [← hx]
  repeat' (first|refine IOps_nil ?_|refine oS ?_|refine IOps_s rfl rfl ?_|refine oT ?_|refine IOps_s0 rfl ?_|refine oZ ?_|refine oI ?_|refine oAB ?_|refine thenI_n ?_|refine IWP_seq ?_|refine IWP_region ?_|refine IWP_ct rfl ?_|refine IWP_cf rfl ?_|refine IWP_skip ?_|refine IWP_ret ?_|refine IWP_block ?_|refine inB_n ?_|refine thenI_r ?_|refine thenI_e ?_|refine inB_r ?_|refine inB_hit ?_|refine inB_miss rfl ?_|refine IWP_exit ?_|refine IWP_scope ?_|refine IWP_label ?_|refine noG_n ?_|refine noG_r ?_|refine noG_e ?_|refine jmp_n ?_|refine jmp_r ?_|refine jmp_e ?_|refine jmp_g ?_|refine thenI_g ?_|refine inB_g ?_|refine IWP_goto ?_|refine Loop_n ?_|fail)
  refine pE [] ?_
  have e : (tagB t).take t.length = t := by
    rw [show tagB t = t ++ List.replicate (8 - t.length) 0 ++ [UInt8.ofNat t.length] from if_pos ⟨h1, h2⟩, List.append_assoc, List.take_left]
  rw [e]
end Go.Proofs.Ytmgcoopmbohkoaa

namespace Go.Proofs.Ytmgcoopmbohkoaa
open Go Go.Idl
set_option linter.unusedSimpArgs false
set_option linter.unusedVariables false
set_option maxRecDepth 100000
set_option maxHeartbeats 4000000
theorem Try.laidOut : laidOutB Try.prog = true := by kernel_rfl
theorem tag_law : Maps.Keyed Try.prog 61 := .of_law (deep_law_gate Try.laidOut (by decide +kernel) (by decide +kernel) (by kernel_rfl) (by kernel_rfl))
def tagV (t : Ks) : Value := .agg ⟨[.int .u8 ((tagB t).getD 0 0).toNat, .int .u8 ((tagB t).getD 1 0).toNat, .int .u8 ((tagB t).getD 2 0).toNat, .int .u8 ((tagB t).getD 3 0).toNat, .int .u8 ((tagB t).getD 4 0).toNat, .int .u8 ((tagB t).getD 5 0).toNat, .int .u8 ((tagB t).getD 6 0).toNat, .int .u8 ((tagB t).getD 7 0).toNat, .int .u8 ((tagB t).getD 8 0).toNat]⟩
theorem ofV_tag (t : Ks) : ofV (tagV t) = .agg (tag9 (tagB t)) := rfl
theorem val_tag (t : Ks) : (IV.agg (tag9 (tagB t))).val = some (tagV t) := by simp [IV.val, IV.valL, tag9, tagV]
theorem tagV_inj {a b : Ks} (ha : tagOk a) (hb : tagOk b) (h : tagV a = tagV b) : a = b := by
  refine tagB_inj ha hb ?_
  have h1 : tag9 (tagB a) = tag9 (tagB b) := by
    have := congrArg ofV h
    rw [ofV_tag, ofV_tag] at this
    exact IV.agg.inj this
  rw [← nine (tagB_len a), ← nine (tagB_len b)] at h1
  have h2 := congrArg (fun l => l.map unbyte) h1
  simpa [u8_unbyte] using h2
theorem tag_key (t : Ks) : ∃ l, keyOf Try.prog 61 (tagV t) = some l := by
  have hw : ∀ b : UInt8, (Lit.int .u8 ((b.toNat : Nat) : Int)).wf = true := fun b => by
    have := b.toNat_lt
    simp [Lit.wf, IntKind.min, IntKind.max, IntKind.bits, IntKind.signed]
    omega
  have hu : Try.prog.underlying 61 = some (.array 9 5) := by kernel_rfl
  have hu2 : Try.prog.underlying 5 = some (.int .u8) := by kernel_rfl
  have hc : Try.prog.cellsOf 61 = 9 := by kernel_rfl
  have hc2 : Try.prog.cellsOf 5 = 1 := by kernel_rfl
  have hk : Try.prog.keyType 61 = true := by kernel_rfl
  have h5 : ∀ (n : Nat) (b : UInt8), Try.prog.keyLits (n + 1) 5 [.int .u8 b.toNat] = some [.int .u8 b.toNat] := fun n b => by
    unfold Program.keyLits
    simp only [hu2]
    rw [if_pos ⟨by trivial, hw b⟩]
  have h9 : ∀ (n : Nat), ∃ ls, Try.prog.keyLits (n + 2) 61 (tagV t).cells.toList = some ls := fun n => by
    unfold Program.keyLits
    simp only [hu, hc, hc2]
    rw [if_pos (show (tagV t).cells.toList.length = 9 from rfl)]
    refine Option.isSome_iff_exists.1 ?_
    simp only [tagV, Value.cells, show List.range 9 = [0, 1, 2, 3, 4, 5, 6, 7, 8] from rfl, List.mapM_cons, List.mapM_nil]
    simp [h5]
  have h1 : 1 ≤ Try.prog.types.size := by decide +kernel
  have hm : Try.prog.types.size + 1 = (Try.prog.types.size - 1) + 2 := by omega
  generalize Try.prog.types.size - 1 = m at hm
  obtain ⟨ls, hls⟩ := h9 m
  refine ⟨.string (keyBytes ls), ?_⟩
  unfold keyOf
  simp only [hu, hk, hm, hls]
  rw [if_pos]
  · rfl
  · simp [Value.formed, tagV, hu, hc]
end Go.Proofs.Ytmgcoopmbohkoaa

namespace Go.Proofs.Ytmgcoopmbohkoaa
open Go Go.Idl
set_option linter.unusedSimpArgs false
set_option linter.unusedVariables false
set_option maxHeartbeats 4000000
def dd (l : List Ks) : List Ks := l.foldl (fun s t => if t ∈ s then s else s ++ [t]) []
theorem dd_take {l : List Ks} {i : Nat} (h : i < l.length) : dd (l.take (i + 1)) = if l.getD i [] ∈ dd (l.take i) then dd (l.take i) else dd (l.take i) ++ [l.getD i []] := by
  unfold dd
  rw [List.take_succ_eq_append_getElem h, List.foldl_append, List.getD_eq_getElem?_getD, List.getElem?_eq_getElem h]
  rfl
def entsFrom : Nat → List Ks → List MapEntry
  | _, [] => []
  | n, t :: S => { key := tagV t, val := .bool true, born := n } :: entsFrom (n + 1) S
def mpOf (S : List Ks) : Array MapEntry := ⟨entsFrom 0 S⟩
theorem ents_len : ∀ (n : Nat) (S : List Ks), (entsFrom n S).length = S.length
  | _, [] => rfl
  | n, _ :: S => by simp [entsFrom, ents_len (n + 1) S]
theorem ents_app : ∀ (n : Nat) (S R : List Ks), entsFrom n (S ++ R) = entsFrom n S ++ entsFrom (n + S.length) R
  | n, [], R => by simp [entsFrom]
  | n, t :: S, R => by
    simp only [List.cons_append, entsFrom, ents_app (n + 1) S R, List.length_cons]
    rw [show n + 1 + S.length = n + (S.length + 1) by omega]
theorem ents_get : ∀ (n : Nat) (S : List Ks) (j : Nat) (e : MapEntry), (entsFrom n S)[j]? = some e → j < S.length ∧ e = { key := tagV (S.getD j []), val := .bool true, born := n + j }
  | n, [], j, e, h => by simp [entsFrom] at h
  | n, t :: S, 0, e, h => by simp [entsFrom] at h; subst h; simp
  | n, t :: S, j + 1, e, h => by
    simp only [entsFrom, List.getElem?_cons_succ] at h
    obtain ⟨h1, h2⟩ := ents_get (n + 1) S j e h
    refine ⟨by simpa using h1, ?_⟩
    rw [h2, show n + 1 + j = n + (j + 1) by omega]
    simp
theorem mp_new (S : List Ks) (t : Ks) : mpNew (mpOf S) (tagV t) (.bool true) S.length = mpOf (S ++ [t]) := by
  unfold mpNew mpOf
  apply Array.ext'
  rw [Array.toList_push]
  show entsFrom 0 S ++ [_] = entsFrom 0 (S ++ [t])
  rw [ents_app, Nat.zero_add]
  rfl
theorem mp_size (S : List Ks) : (mpOf S).size = S.length := ents_len 0 S
theorem mp_old {S : List Ks} {j : Nat} {e : MapEntry} (h : (mpOf S).toList[j]? = some e) {t : Ks} (ht : e.key = tagV t) : mpOld (mpOf S) j (tagV t) (.bool true) = mpOf S := by
  obtain ⟨h1, h2⟩ := ents_get 0 S j e h
  unfold mpOld
  apply Array.ext'
  rw [Array.toList_modify]
  show (entsFrom 0 S).modify j _ = entsFrom 0 S
  apply List.ext_getElem?
  intro i
  rw [List.getElem?_modify]
  by_cases hij : j = i
  · subst hij
    have h3 : (entsFrom 0 S)[j]? = some e := h
    rw [h3]
    simp only [if_true]
    show some _ = some e
    have hv : e.val = .bool true := by rw [h2]
    obtain ⟨a, b, c⟩ := e
    simp only at ht hv
    subst ht; subst hv; rfl
  · simp only [hij, if_false]
    cases (entsFrom 0 S)[i]? <;> rfl
theorem mp_mem {S : List Ks} {e : MapEntry} (h : e ∈ (mpOf S).toList) : ∃ j, j < S.length ∧ e = { key := tagV (S.getD j []), val := .bool true, born := j } := by
  obtain ⟨j, hj⟩ := List.getElem?_of_mem h
  obtain ⟨h1, h2⟩ := ents_get 0 S j e hj
  exact ⟨j, h1, by rw [h2, Nat.zero_add]⟩
theorem mp_in {S : List Ks} {t : Ks} (h : t ∈ S) : ∃ e, e ∈ (mpOf S).toList ∧ e.key = tagV t := by
  obtain ⟨j, hj, rfl⟩ := List.getElem_of_mem h
  have h1 : j < (entsFrom 0 S).length := by rw [ents_len]; exact hj
  have h2 := ents_get 0 S j _ (List.getElem?_eq_getElem h1)
  refine ⟨(entsFrom 0 S)[j], List.getElem_mem h1, ?_⟩
  rw [h2.2]
  simp [hj]
theorem mp_keys (S : List Ks) : ∀ e ∈ (mpOf S).toList, ∃ l, keyOf Try.prog 61 e.key = some l := fun e he => by
  obtain ⟨j, _, rfl⟩ := mp_mem he
  exact tag_key _
theorem mp_born (S : List Ks) : ((mpOf S).toList.map (·.born)).Nodup := by
  have : ∀ (n : Nat) (S : List Ks), (entsFrom n S).map (·.born) = List.range' n S.length := by
    intro n S
    induction S generalizing n with
    | nil => rfl
    | cons t S ih => simp [entsFrom, ih, List.range'_succ]
  show ((entsFrom 0 S).map (·.born)).Nodup
  rw [this]
  exact List.nodup_range'
end Go.Proofs.Ytmgcoopmbohkoaa

namespace Go.Proofs.Ytmgcoopmbohkoaa
open Go Go.Idl
set_option linter.unusedSimpArgs false
set_option linter.unusedVariables false
set_option maxRecDepth 100000
set_option maxHeartbeats 4000000
def leK (a b : Ks) : Bool := decide (¬ cS b a < 0)
def srtK (l : List Ks) : List Ks := l.mergeSort leK
theorem leK_trans (a b c : Ks) : leK a b = true → leK b c = true → leK a c = true := fun h k => by
  unfold leK at *
  have h := of_decide_eq_true h; have k := of_decide_eq_true k
  refine decide_eq_true fun e => ?_
  have := cS_ord.trans c b a (decide_eq_false k) (decide_eq_false h)
  rw [decide_eq_true e] at this; cases this
theorem leK_total (a b : Ks) : (leK a b || leK b a) = true := by
  unfold leK
  by_cases h : cS b a < 0
  · have := cS_ord.asym b a (decide_eq_true h)
    rw [decide_eq_true (of_decide_eq_false this), Bool.or_true]
  · rw [decide_eq_true h]; rfl
theorem srtK_perm (l : List Ks) : (srtK l).Perm l := List.mergeSort_perm l leK
theorem srtK_srt (l : List Ks) : (srtK l).Pairwise fun x y => ¬ cS y x < 0 := by
  have := List.pairwise_mergeSort (le := leK) leK_trans leK_total l
  exact this.imp fun h => of_decide_eq_true h
theorem cS_tot {x y : Ks} (h : ¬ cS x y < 0) (k : ¬ cS y x < 0) : x = y := by
  have h := fun e => h (cS_iff.2 e)
  have k := fun e => k (cS_iff.2 e)
  exact List.le_antisymm (List.not_lt.1 k) (List.not_lt.1 h)
theorem srtK_uniq {l m : List Ks} (h : m.Perm l) (hm : m.Pairwise fun x y => ¬ cS y x < 0) : m = srtK l :=
  SS.unique (lt := fun x y => decide (cS x y < 0)) (fun x y h1 h2 => cS_tot (of_decide_eq_false h1) (of_decide_eq_false h2)) (h.trans (srtK_perm l).symm) (hm.imp fun h => decide_eq_false h) ((srtK_srt l).imp fun h => decide_eq_false h)
def tagsOk (l : List Ks) : Prop := (∀ t, t ∈ l → tagOk t) ∧ (dd l).length ≤ 3
instance (l : List Ks) : Decidable (tagsOk l) := by unfold tagsOk; infer_instance
def tagsV (l : List Ks) : List Ks × Int := if tagsOk l then (srtK (dd l), 0) else ([], 90)
theorem dd_mem {l : List Ks} {t : Ks} : t ∈ dd l ↔ t ∈ l := by
  have : ∀ (l s : List Ks), t ∈ l.foldl (fun s t => if t ∈ s then s else s ++ [t]) s ↔ t ∈ s ∨ t ∈ l := by
    intro l
    induction l with
    | nil => intro s; simp
    | cons a l ih =>
      intro s
      rw [List.foldl_cons, ih]
      split
      · next h => 
        simp only [List.mem_cons]
        constructor
        · rintro (h1 | h1)
          · exact .inl h1
          · exact .inr (.inr h1)
        · rintro (h1 | rfl | h1)
          · exact .inl h1
          · exact .inl h
          · exact .inr h1
      · simp only [List.mem_append, List.mem_cons, List.not_mem_nil, or_false]
        constructor
        · rintro ((h1 | h1) | h1)
          · exact .inl h1
          · exact .inr (.inl h1)
          · exact .inr (.inr h1)
        · rintro (h1 | h1 | h1)
          · exact .inl (.inl h1)
          · exact .inl (.inr h1)
          · exact .inr h1
  unfold dd
  rw [this]
  simp
theorem dd_nodup (l : List Ks) : (dd l).Nodup := by
  have : ∀ (l s : List Ks), s.Nodup → (l.foldl (fun s t => if t ∈ s then s else s ++ [t]) s).Nodup := by
    intro l
    induction l with
    | nil => intro s h; exact h
    | cons a l ih =>
      intro s h
      rw [List.foldl_cons]
      split
      · exact ih _ h
      · next ha =>
        refine ih _ ?_
        rw [List.nodup_append]
        exact ⟨h, by simp, fun x hx y hy e => by simp at hy; subst hy; subst e; exact ha hx⟩
  exact this l [] List.nodup_nil
theorem dd_len (l : List Ks) : (dd l).length ≤ l.length := by
  have : ∀ (l s : List Ks), (l.foldl (fun s t => if t ∈ s then s else s ++ [t]) s).length ≤ s.length + l.length := by
    intro l
    induction l with
    | nil => intro s; simp
    | cons a l ih =>
      intro s
      rw [List.foldl_cons]
      split
      · have := ih s; simp only [List.length_cons]; omega
      · have := ih (s ++ [a]); simp only [List.length_cons, List.length_append, List.length_nil] at *; omega
  simpa [dd] using this l []
theorem idx_range {n : Nat} {r : List Nat} (hnd : r.Nodup) (hlt : ∀ j, j ∈ r → j < n) : (r ++ (List.range n).filter fun j => decide (j ∉ r)).Perm (List.range n) := by
  refine (List.perm_ext_iff_of_nodup ?_ List.nodup_range).2 fun a => ?_
  · rw [List.nodup_append]
    refine ⟨hnd, List.nodup_range.filter _, fun a ha b hb e => ?_⟩
    subst e
    exact (of_decide_eq_true (List.mem_filter.1 hb).2) ha
  · rw [List.mem_append, List.mem_filter, List.mem_range]
    constructor
    · rintro (h | h)
      · exact hlt a h
      · exact h.1
    · intro h
      by_cases ha : a ∈ r
      · exact .inl ha
      · exact .inr ⟨h, decide_eq_true ha⟩
theorem idx_few {n : Nat} {r : List Nat} (hnd : r.Nodup) (hlt : ∀ j, j ∈ r → j < n) : r.length ≤ n := by
  have := (idx_range hnd hlt).length_eq
  rw [List.length_append, List.length_range] at this
  omega
theorem idx_perm {S : List Ks} {r : List Nat} (hnd : r.Nodup) (hlt : ∀ j, j ∈ r → j < S.length) (hall : ∀ j, j < S.length → j ∈ r) : (r.map fun j => S.getD j []).Perm S := by
  have h1 : r.Perm (List.range S.length) := (List.perm_ext_iff_of_nodup hnd List.nodup_range).2 fun a => ⟨fun h => List.mem_range.2 (hlt a h), fun h => hall a (List.mem_range.1 h)⟩
  have h2 : (List.range S.length).map (fun j => S.getD j []) = S := by
    apply List.ext_getElem
    · simp
    · intro i h1 h2
      simp [h2]
  have := h1.map fun j => S.getD j []
  rwa [h2] at this
theorem conj9 {a b c d e f g h x : Bool} (hx : x = false) : conj [a, b, c, d, e, f, g, h, x] = false := by subst hx; simp [conj]
theorem tag_last {t : Ks} (ht : tagOk t) : ¬ (((tagB t).getD 8 0).toNat : Int) = 0 := by
  have h8 : ((tagB t).getD 8 0).toNat = t.length := by
    have := ht.2
    rw [show tagB t = t ++ List.replicate (8 - t.length) 0 ++ [UInt8.ofNat t.length] from if_pos ht, List.getD_eq_getElem?_getD, List.getElem?_append_right (by simp; omega)]
    have e : 8 - (t ++ List.replicate (8 - t.length) (0 : UInt8)).length = 0 := by simp; omega
    rw [e]
    simp only [List.getElem?_cons_zero, Option.getD_some, UInt8.toNat_ofNat']
    omega
  have := ht.1
  omega
attribute [local irreducible] Go.Idl.IWP Go.Idl.IOps Go.Idl.Obl Go.Idl.OpG Go.Idl.thenI Go.Idl.inBlockI Go.Idl.LoopU Go.Idl.noGotoI Go.Idl.jumpI
attribute [local go_sem] List.length_set
theorem tags_spec (l : List Ks) (hL : l.length ≤ 1000000) (hE : ∀ t, t ∈ l → t.length ≤ 1000000000) : Idl.Spec Try.prog 14 [.fz false (strs l) l.length] [] (Only (.tup [.fz true (strs (tagsV l).1) (tagsV l).1.length, .sc (.int .i64 (tagsV l).2)]) []) := by
  refine sB Try.func14 Try.ntmps14 ?_
  repeat' (first|refine IOps_nil ?_|refine oS ?_|refine IOps_s rfl rfl ?_|refine oT ?_|refine IOps_s0 rfl ?_|refine oZ ?_|refine oI ?_|refine oAB ?_|refine thenI_n ?_|refine IWP_seq ?_|refine IWP_region ?_|refine IWP_ct rfl ?_|refine IWP_cf rfl ?_|refine IWP_skip ?_|refine IWP_ret ?_|refine IWP_block ?_|refine inB_n ?_|refine thenI_r ?_|refine thenI_e ?_|refine inB_r ?_|refine inB_hit ?_|refine inB_miss rfl ?_|refine IWP_exit ?_|refine IWP_scope ?_|refine IWP_label ?_|refine noG_n ?_|refine noG_r ?_|refine noG_e ?_|refine jmp_n ?_|refine jmp_r ?_|refine jmp_e ?_|refine jmp_g ?_|refine thenI_g ?_|refine inB_g ?_|refine IWP_goto ?_|refine Loop_n ?_|fail)
  refine oMk ?_
  repeat' (first|refine IOps_nil ?_|refine oS ?_|refine IOps_s rfl rfl ?_|refine oT ?_|refine IOps_s0 rfl ?_|refine oZ ?_|refine oI ?_|refine oAB ?_|refine thenI_n ?_|refine IWP_seq ?_|refine IWP_region ?_|refine IWP_ct rfl ?_|refine IWP_cf rfl ?_|refine IWP_skip ?_|refine IWP_ret ?_|refine IWP_block ?_|refine inB_n ?_|refine thenI_r ?_|refine thenI_e ?_|refine inB_r ?_|refine inB_hit ?_|refine inB_miss rfl ?_|refine IWP_exit ?_|refine IWP_scope ?_|refine IWP_label ?_|refine noG_n ?_|refine noG_r ?_|refine noG_e ?_|refine jmp_n ?_|refine jmp_r ?_|refine jmp_e ?_|refine jmp_g ?_|refine thenI_g ?_|refine inB_g ?_|refine IWP_goto ?_|refine Loop_n ?_|fail)
  refine IWP_loop (fun i : Nat => ⟨42, [(0, .fz false (strs l) l.length), (4, .mp 0), (11, .fz false (strs l) l.length), (12, .i64 l.length), (13, .i64 i)], [.mp (mpOf (dd (l.take i))) (dd (l.take i)).length]⟩) (fun i => i ≤ l.length ∧ ∀ t, t ∈ l.take i → tagOk t) (fun i => l.length - i) 0 (lP [0]) ⟨Nat.zero_le _, by simp⟩ ?_
  rintro i ⟨hi, hK⟩
  by_cases h : i < l.length
  · have hm : l.getD i [] ∈ l := by rw [List.getD_eq_getElem?_getD, List.getElem?_eq_getElem h]; exact List.getElem_mem h
    have hls := lay_spec (l.getD i []) (hE _ hm)
    by_cases ht : tagOk (l.getD i [])
    · repeat' (first|refine IOps_nil ?_|refine oS ?_|refine IOps_s rfl rfl ?_|refine oT ?_|refine IOps_s0 rfl ?_|refine oC (π:=[]) (hs:=by first|exact hls|fail) (hx:=?_)|refine oZ ?_|refine oI ?_|refine oAB ?_|refine thenI_n ?_|refine IWP_seq ?_|refine IWP_region ?_|refine IWP_ct rfl ?_|refine IWP_cf rfl ?_|refine IWP_skip ?_|refine IWP_ret ?_|refine IWP_block ?_|refine inB_n ?_|refine thenI_r ?_|refine thenI_e ?_|refine inB_r ?_|refine inB_hit ?_|refine inB_miss rfl ?_|refine IWP_exit ?_|refine IWP_scope ?_|refine IWP_label ?_|refine noG_n ?_|refine noG_r ?_|refine noG_e ?_|refine jmp_n ?_|refine jmp_r ?_|refine jmp_e ?_|refine jmp_g ?_|refine thenI_g ?_|refine inB_g ?_|refine IWP_goto ?_|refine Loop_n ?_|fail)
      rw [conj9 (decide_eq_false (tag_last ht))]
      repeat' (first|refine IOps_nil ?_|refine oS ?_|refine IOps_s rfl rfl ?_|refine oT ?_|refine IOps_s0 rfl ?_|refine oC (π:=[]) (hs:=by first|exact hls|fail) (hx:=?_)|refine oZ ?_|refine oI ?_|refine oAB ?_|refine thenI_n ?_|refine IWP_seq ?_|refine IWP_region ?_|refine IWP_ct rfl ?_|refine IWP_cf rfl ?_|refine IWP_skip ?_|refine IWP_ret ?_|refine IWP_block ?_|refine inB_n ?_|refine thenI_r ?_|refine thenI_e ?_|refine inB_r ?_|refine inB_hit ?_|refine inB_miss rfl ?_|refine IWP_exit ?_|refine IWP_scope ?_|refine IWP_label ?_|refine noG_n ?_|refine noG_r ?_|refine noG_e ?_|refine jmp_n ?_|refine jmp_r ?_|refine jmp_e ?_|refine jmp_g ?_|refine thenI_g ?_|refine inB_g ?_|refine IWP_goto ?_|refine Loop_n ?_|fail)
      obtain ⟨lk, hlk⟩ := tag_key (l.getD i [])
      have hdt := dd_take h
      have hK2 : ∀ t, t ∈ l.take (i + 1) → tagOk t := fun t hx => by
        rw [List.take_succ_eq_append_getElem h, List.mem_append] at hx
        rcases hx with hx | hx
        · exact hK t hx
        · simp only [List.mem_singleton] at hx
          subst hx
          rw [List.getD_eq_getElem?_getD, List.getElem?_eq_getElem h] at ht
          exact ht
      refine oMu (et := 4) tag_law (kv := tagV (l.getD i [])) (xv := .bool true) (val_tag _) rfl hlk (mp_keys _) ?_ ?_
      · intro hno
        have hn : l.getD i [] ∉ dd (l.take i) := fun hin => by
          obtain ⟨e, he, hk⟩ := mp_in hin
          exact hno e he hk
        rw [if_neg hn] at hdt
        rw [mp_new, ← hdt, show (dd (l.take i)).length + 1 = (dd (l.take (i + 1))).length by rw [hdt, List.length_append]; rfl]
        repeat' (first|refine IOps_nil ?_|refine oS ?_|refine IOps_s rfl rfl ?_|refine oT ?_|refine IOps_s0 rfl ?_|refine oZ ?_|refine oI ?_|refine oAB ?_|refine thenI_n ?_|refine IWP_seq ?_|refine IWP_region ?_|refine IWP_ct rfl ?_|refine IWP_cf rfl ?_|refine IWP_skip ?_|refine IWP_ret ?_|refine IWP_block ?_|refine inB_n ?_|refine thenI_r ?_|refine thenI_e ?_|refine inB_r ?_|refine inB_hit ?_|refine inB_miss rfl ?_|refine IWP_exit ?_|refine IWP_scope ?_|refine IWP_label ?_|refine noG_n ?_|refine noG_r ?_|refine noG_e ?_|refine jmp_n ?_|refine jmp_r ?_|refine jmp_e ?_|refine jmp_g ?_|refine thenI_g ?_|refine inB_g ?_|refine IWP_goto ?_|refine Loop_n ?_|fail)
        exact ⟨i + 1, ⟨h, hK2⟩, by omega, lP [0]⟩
      · intro j e hj he
        have hin : l.getD i [] ∈ dd (l.take i) := by
          obtain ⟨h1, h2⟩ := ents_get 0 (dd (l.take i)) j e hj
          rw [h2] at he
          have hS : (dd (l.take i)).getD j [] ∈ dd (l.take i) := by rw [List.getD_eq_getElem?_getD, List.getElem?_eq_getElem h1]; exact List.getElem_mem h1
          rw [← tagV_inj (hK _ (dd_mem.1 hS)) ht he]
          exact hS
        rw [if_pos hin] at hdt
        rw [mp_old hj he, ← hdt]
        repeat' (first|refine IOps_nil ?_|refine oS ?_|refine IOps_s rfl rfl ?_|refine oT ?_|refine IOps_s0 rfl ?_|refine oZ ?_|refine oI ?_|refine oAB ?_|refine thenI_n ?_|refine IWP_seq ?_|refine IWP_region ?_|refine IWP_ct rfl ?_|refine IWP_cf rfl ?_|refine IWP_skip ?_|refine IWP_ret ?_|refine IWP_block ?_|refine inB_n ?_|refine thenI_r ?_|refine thenI_e ?_|refine inB_r ?_|refine inB_hit ?_|refine inB_miss rfl ?_|refine IWP_exit ?_|refine IWP_scope ?_|refine IWP_label ?_|refine noG_n ?_|refine noG_r ?_|refine noG_e ?_|refine jmp_n ?_|refine jmp_r ?_|refine jmp_e ?_|refine jmp_g ?_|refine thenI_g ?_|refine inB_g ?_|refine IWP_goto ?_|refine Loop_n ?_|fail)
        exact ⟨i + 1, ⟨h, hK2⟩, by omega, lP [0]⟩
    · rw [show tagB (l.getD i []) = List.replicate 9 0 from if_neg ht] at hls
      rw [show tagsV l = ([], 90) from if_neg fun x => ht (x.1 _ hm)]
      repeat' (first|refine IOps_nil ?_|refine oS ?_|refine IOps_s rfl rfl ?_|refine oT ?_|refine IOps_s0 rfl ?_|refine oC (π:=[]) (hs:=by first|exact hls|fail) (hx:=?_)|refine oZ ?_|refine oI ?_|refine oAB ?_|refine thenI_n ?_|refine IWP_seq ?_|refine IWP_region ?_|refine IWP_ct rfl ?_|refine IWP_cf rfl ?_|refine IWP_skip ?_|refine IWP_block ?_|refine inB_n ?_|refine thenI_r ?_|refine thenI_e ?_|refine inB_r ?_|refine inB_hit ?_|refine inB_miss rfl ?_|refine IWP_exit ?_|refine IWP_scope ?_|refine IWP_label ?_|refine noG_n ?_|refine noG_r ?_|refine noG_e ?_|refine jmp_n ?_|refine jmp_r ?_|refine jmp_e ?_|refine jmp_g ?_|refine thenI_g ?_|refine inB_g ?_|refine IWP_goto ?_|refine Loop_n ?_|fail)
      refine wN0 2 ?_
      repeat' (first|refine IOps_nil ?_|refine oS ?_|refine IOps_s rfl rfl ?_|refine oT ?_|refine IOps_s0 rfl ?_|refine oC (π:=[]) (hs:=by first|exact hls|fail) (hx:=?_)|refine oZ ?_|refine oI ?_|refine oAB ?_|refine thenI_n ?_|refine IWP_seq ?_|refine IWP_region ?_|refine IWP_ct rfl ?_|refine IWP_cf rfl ?_|refine IWP_skip ?_|refine IWP_ret ?_|refine IWP_block ?_|refine inB_n ?_|refine thenI_r ?_|refine thenI_e ?_|refine inB_r ?_|refine inB_hit ?_|refine inB_miss rfl ?_|refine IWP_exit ?_|refine IWP_scope ?_|refine IWP_label ?_|refine noG_n ?_|refine noG_r ?_|refine noG_e ?_|refine jmp_n ?_|refine jmp_r ?_|refine jmp_e ?_|refine jmp_g ?_|refine thenI_g ?_|refine inB_g ?_|refine IWP_goto ?_|refine Loop_n ?_|fail)
      exact pD [] ⟨rfl, rfl⟩
  · obtain rfl : i = l.length := by omega
    rw [List.take_length] at hK ⊢
    repeat' (first|refine IOps_nil ?_|refine oS ?_|refine IOps_s rfl rfl ?_|refine oT ?_|refine IOps_s0 rfl ?_|refine oZ ?_|refine oI ?_|refine oAB ?_|refine thenI_n ?_|refine IWP_seq ?_|refine IWP_region ?_|refine IWP_ct rfl ?_|refine IWP_cf rfl ?_|refine IWP_skip ?_|refine IWP_ret ?_|refine IWP_block ?_|refine inB_n ?_|refine thenI_r ?_|refine thenI_e ?_|refine inB_r ?_|refine inB_hit ?_|refine inB_miss rfl ?_|refine IWP_exit ?_|refine IWP_scope ?_|refine IWP_label ?_|refine noG_n ?_|refine noG_r ?_|refine noG_e ?_|refine jmp_n ?_|refine jmp_r ?_|refine jmp_e ?_|refine jmp_g ?_|refine thenI_g ?_|refine inB_g ?_|refine IWP_goto ?_|refine Loop_n ?_|fail)
    refine oMl (kt := 61) (et := 4) ?_
    rw [mp_size]
    by_cases h3 : (dd l).length ≤ 3
    · rw [show tagsV l = (srtK (dd l), 0) from if_pos ⟨hK, h3⟩]
      repeat' (first|refine IOps_nil ?_|refine oS ?_|refine IOps_s rfl rfl ?_|refine oT ?_|refine IOps_s0 rfl ?_|refine oZ ?_|refine oI ?_|refine oAB ?_|refine thenI_n ?_|refine IWP_seq ?_|refine IWP_region ?_|refine IWP_ct rfl ?_|refine IWP_cf rfl ?_|refine IWP_skip ?_|refine IWP_ret ?_|refine IWP_block ?_|refine inB_n ?_|refine thenI_r ?_|refine thenI_e ?_|refine inB_r ?_|refine inB_hit ?_|refine inB_miss rfl ?_|refine IWP_exit ?_|refine IWP_scope ?_|refine IWP_label ?_|refine noG_n ?_|refine noG_r ?_|refine noG_e ?_|refine jmp_n ?_|refine jmp_r ?_|refine jmp_e ?_|refine jmp_g ?_|refine thenI_g ?_|refine inB_g ?_|refine IWP_goto ?_|refine Loop_n ?_|fail)
      refine oMr (kt := 61) (et := 4) ?_
      repeat' (first|refine IOps_nil ?_|refine oS ?_|refine IOps_s rfl rfl ?_|refine oT ?_|refine IOps_s0 rfl ?_|refine oZ ?_|refine oI ?_|refine oAB ?_|refine thenI_n ?_|refine IWP_seq ?_|refine IWP_region ?_|refine IWP_ct rfl ?_|refine IWP_cf rfl ?_|refine IWP_skip ?_|refine IWP_ret ?_|refine IWP_block ?_|refine inB_n ?_|refine thenI_r ?_|refine thenI_e ?_|refine inB_r ?_|refine inB_hit ?_|refine inB_miss rfl ?_|refine IWP_exit ?_|refine IWP_scope ?_|refine IWP_label ?_|refine noG_n ?_|refine noG_r ?_|refine noG_e ?_|refine jmp_n ?_|refine jmp_r ?_|refine jmp_e ?_|refine jmp_g ?_|refine thenI_g ?_|refine inB_g ?_|refine IWP_goto ?_|refine Loop_n ?_|fail)
      refine wV 8 1 ?_
      refine IWP_loop (fun x : List Ks × Array Nat => ⟨42, [(8, .sl 2 0 x.1.length x.1.length 1), (29, .ptr 1 0)], [.mp (mpOf (dd l)) (dd l).length, .it 0 (dd l).length x.2 (dd l).length, .arr true (strs x.1)]⟩) (fun x => x.1 = x.2.toList.map (fun j => (dd l).getD j []) ∧ x.2.toList.Nodup ∧ ∀ j, j ∈ x.2.toList → j < (dd l).length) (fun x => (dd l).length - x.1.length) ([], #[]) (lP [0, 1, 2]) ⟨rfl, List.nodup_nil, fun j hj => by cases hj⟩ ?_
      rintro ⟨K, seen⟩ ⟨hK1, hnd, hlt⟩
      simp only at hK1 hnd hlt ⊢
      repeat' (first|refine IOps_nil ?_|refine oS ?_|refine IOps_s rfl rfl ?_|refine oT ?_|refine IOps_s0 rfl ?_|refine oZ ?_|refine oI ?_|refine oAB ?_|refine thenI_n ?_|refine IWP_seq ?_|refine IWP_region ?_|refine IWP_ct rfl ?_|refine IWP_cf rfl ?_|refine IWP_skip ?_|refine IWP_ret ?_|refine IWP_block ?_|refine inB_n ?_|refine thenI_r ?_|refine thenI_e ?_|refine inB_r ?_|refine inB_hit ?_|refine inB_miss rfl ?_|refine IWP_exit ?_|refine IWP_scope ?_|refine IWP_label ?_|refine noG_n ?_|refine noG_r ?_|refine noG_e ?_|refine jmp_n ?_|refine jmp_r ?_|refine jmp_e ?_|refine jmp_g ?_|refine thenI_g ?_|refine inB_g ?_|refine IWP_goto ?_|refine Loop_n ?_|fail)
      refine oMn (fun e he => ?_) (Nat.le_refl _) ?_ ?_
      · obtain ⟨j, hj, hee⟩ := mp_mem he
        rw [hee]; exact hj
      · intro hall
        have hp : K.Perm (dd l) := by
          rw [hK1]
          refine idx_perm hnd hlt fun j hj => ?_
          have h1 : j < (entsFrom 0 (dd l)).length := by rw [ents_len]; exact hj
          have h2 := ents_get 0 (dd l) j _ (List.getElem?_eq_getElem h1)
          have h3 := hall _ (List.getElem_mem (l := (mpOf (dd l)).toList) h1)
          have h4 : (mpOf (dd l)).toList[j].born = j := by
            have := congrArg MapEntry.born h2.2
            rw [Nat.zero_add] at this
            exact this
          rw [h4] at h3
          exact Array.mem_toList_iff.2 h3
        have hKl := hp.length_eq
        repeat' (first|refine IOps_nil ?_|refine oS ?_|refine IOps_s rfl rfl ?_|refine oT ?_|refine IOps_s0 rfl ?_|refine oZ ?_|refine oI ?_|refine oAB ?_|refine thenI_n ?_|refine IWP_seq ?_|refine IWP_region ?_|refine IWP_ct rfl ?_|refine IWP_cf rfl ?_|refine IWP_skip ?_|refine IWP_ret ?_|refine IWP_block ?_|refine inB_n ?_|refine thenI_r ?_|refine thenI_e ?_|refine inB_r ?_|refine inB_hit ?_|refine inB_miss rfl ?_|refine IWP_exit ?_|refine IWP_scope ?_|refine IWP_label ?_|refine noG_n ?_|refine noG_r ?_|refine noG_e ?_|refine jmp_n ?_|refine jmp_r ?_|refine jmp_e ?_|refine jmp_g ?_|refine thenI_g ?_|refine inB_g ?_|refine IWP_goto ?_|refine Loop_n ?_|fail)
        refine oE [2] (hs := sort_spec K K.length cS_ord (by omega)) (hx := ?_)
        rintro M ⟨hM1, hM2, hM3⟩
        have e : M = srtK (dd l) := srtK_uniq (hM2.trans hp) hM3
        subst e
        repeat' (first|refine IOps_nil ?_|refine oS ?_|refine IOps_s rfl rfl ?_|refine oT ?_|refine IOps_s0 rfl ?_|refine oZ ?_|refine oI ?_|refine oAB ?_|refine thenI_n ?_|refine IWP_seq ?_|refine IWP_region ?_|refine IWP_ct rfl ?_|refine IWP_cf rfl ?_|refine IWP_skip ?_|refine IWP_block ?_|refine inB_n ?_|refine thenI_r ?_|refine thenI_e ?_|refine inB_r ?_|refine inB_hit ?_|refine inB_miss rfl ?_|refine IWP_exit ?_|refine IWP_scope ?_|refine IWP_label ?_|refine noG_n ?_|refine noG_r ?_|refine noG_e ?_|refine jmp_n ?_|refine jmp_r ?_|refine jmp_e ?_|refine jmp_g ?_|refine thenI_g ?_|refine inB_g ?_|refine IWP_goto ?_|refine Loop_n ?_|fail)
        refine wF 2 ?_
        repeat' (first|refine IOps_nil ?_|refine oS ?_|refine IOps_s rfl rfl ?_|refine oT ?_|refine IOps_s0 rfl ?_|refine oZ ?_|refine oI ?_|refine oAB ?_|refine thenI_n ?_|refine IWP_seq ?_|refine IWP_region ?_|refine IWP_ct rfl ?_|refine IWP_cf rfl ?_|refine IWP_skip ?_|refine IWP_ret ?_|refine IWP_block ?_|refine inB_n ?_|refine thenI_r ?_|refine thenI_e ?_|refine inB_r ?_|refine inB_hit ?_|refine inB_miss rfl ?_|refine IWP_exit ?_|refine IWP_scope ?_|refine IWP_label ?_|refine noG_n ?_|refine noG_r ?_|refine noG_e ?_|refine jmp_n ?_|refine jmp_r ?_|refine jmp_e ?_|refine jmp_g ?_|refine thenI_g ?_|refine inB_g ?_|refine IWP_goto ?_|refine Loop_n ?_|fail)
        refine pE [] ?_
        rw [hM1]
      · intro e he hns
        obtain ⟨j, hj, hee⟩ := mp_mem he
        have hk : e.key = tagV ((dd l).getD j []) := by rw [hee]
        have hv : e.val = .bool true := by rw [hee]
        have hb : e.born = j := by rw [hee]
        have hns' : j ∉ seen.toList := fun x => hns (by rw [hb]; exact Array.mem_toList_iff.1 x)
        have hnd2 : (seen.push j).toList.Nodup := by
          rw [Array.toList_push, List.nodup_append]
          exact ⟨hnd, by simp, fun a ha b hb' e => by simp at hb'; subst hb'; subst e; exact hns' ha⟩
        have hlt2 : ∀ i, i ∈ (seen.push j).toList → i < (dd l).length := fun i hi => by
          rw [Array.toList_push, List.mem_append] at hi
          rcases hi with hi | hi
          · exact hlt i hi
          · simp only [List.mem_singleton] at hi; subst hi; exact hj
        have hfew := idx_few hnd2 hlt2
        have hKs : K.length = seen.size := by rw [hK1]; simp
        have hKb : K.length < (dd l).length := by simp at hfew; omega
        have hdl := dd_len l
        repeat' (first|refine IOps_nil ?_|refine oS ?_|refine IOps_s rfl rfl ?_|refine oT ?_|refine IOps_s0 rfl ?_|refine oZ ?_|refine oI ?_|refine oAB ?_|refine thenI_n ?_|refine IWP_seq ?_|refine IWP_region ?_|refine IWP_ct rfl ?_|refine IWP_cf rfl ?_|refine IWP_skip ?_|refine IWP_ret ?_|refine IWP_block ?_|refine inB_n ?_|refine thenI_r ?_|refine thenI_e ?_|refine inB_r ?_|refine inB_hit ?_|refine inB_miss rfl ?_|refine IWP_exit ?_|refine IWP_scope ?_|refine IWP_label ?_|refine noG_n ?_|refine noG_r ?_|refine noG_e ?_|refine jmp_n ?_|refine jmp_r ?_|refine jmp_e ?_|refine jmp_g ?_|refine thenI_g ?_|refine inB_g ?_|refine IWP_goto ?_|refine Loop_n ?_|fail)
        refine oMe he (mp_born _) ?_
        rw [hk, ofV_tag]
        have hjm : (dd l).getD j [] ∈ dd l := by rw [List.getD_eq_getElem?_getD, List.getElem?_eq_getElem hj]; exact List.getElem_mem hj
        have htx := text_spec ((dd l).getD j []) (hK _ (dd_mem.1 hjm))
        repeat' (first|refine IOps_nil ?_|refine oS ?_|refine IOps_s rfl rfl ?_|refine oT ?_|refine IOps_s0 rfl ?_|refine oC (π:=[]) (hs:=by first|exact htx|fail) (hx:=?_)|refine oZ ?_|refine oI ?_|refine oAB ?_|refine thenI_n ?_|refine IWP_seq ?_|refine IWP_region ?_|refine IWP_ct rfl ?_|refine IWP_cf rfl ?_|refine IWP_skip ?_|refine IWP_ret ?_|refine IWP_block ?_|refine inB_n ?_|refine thenI_r ?_|refine thenI_e ?_|refine inB_r ?_|refine inB_hit ?_|refine inB_miss rfl ?_|refine IWP_exit ?_|refine IWP_scope ?_|refine IWP_label ?_|refine noG_n ?_|refine noG_r ?_|refine noG_e ?_|refine jmp_n ?_|refine jmp_r ?_|refine jmp_e ?_|refine jmp_g ?_|refine thenI_g ?_|refine inB_g ?_|refine IWP_goto ?_|refine Loop_n ?_|fail)
        rw [hb]
        exact ⟨(K ++ [(dd l).getD j []], seen.push j), ⟨by simp [hK1], hnd2, hlt2⟩, by simp only [List.length_append, List.length_cons, List.length_nil]; simp at hfew; omega, lP [0, 1, 5]⟩
    · rw [show tagsV l = ([], 90) from if_neg fun x => h3 x.2]
      repeat' (first|refine IOps_nil ?_|refine oS ?_|refine IOps_s rfl rfl ?_|refine oT ?_|refine IOps_s0 rfl ?_|refine oZ ?_|refine oI ?_|refine oAB ?_|refine thenI_n ?_|refine IWP_seq ?_|refine IWP_region ?_|refine IWP_ct rfl ?_|refine IWP_cf rfl ?_|refine IWP_skip ?_|refine IWP_block ?_|refine inB_n ?_|refine thenI_r ?_|refine thenI_e ?_|refine inB_r ?_|refine inB_hit ?_|refine inB_miss rfl ?_|refine IWP_exit ?_|refine IWP_scope ?_|refine IWP_label ?_|refine noG_n ?_|refine noG_r ?_|refine noG_e ?_|refine jmp_n ?_|refine jmp_r ?_|refine jmp_e ?_|refine jmp_g ?_|refine thenI_g ?_|refine inB_g ?_|refine IWP_goto ?_|refine Loop_n ?_|fail)
      refine wN0 2 ?_
      repeat' (first|refine IOps_nil ?_|refine oS ?_|refine IOps_s rfl rfl ?_|refine oT ?_|refine IOps_s0 rfl ?_|refine oZ ?_|refine oI ?_|refine oAB ?_|refine thenI_n ?_|refine IWP_seq ?_|refine IWP_region ?_|refine IWP_ct rfl ?_|refine IWP_cf rfl ?_|refine IWP_skip ?_|refine IWP_ret ?_|refine IWP_block ?_|refine inB_n ?_|refine thenI_r ?_|refine thenI_e ?_|refine inB_r ?_|refine inB_hit ?_|refine inB_miss rfl ?_|refine IWP_exit ?_|refine IWP_scope ?_|refine IWP_label ?_|refine noG_n ?_|refine noG_r ?_|refine noG_e ?_|refine jmp_n ?_|refine jmp_r ?_|refine jmp_e ?_|refine jmp_g ?_|refine thenI_g ?_|refine inB_g ?_|refine IWP_goto ?_|refine Loop_n ?_|fail)
      exact pD [] ⟨rfl, rfl⟩
end Go.Proofs.Ytmgcoopmbohkoaa

namespace Go.Proofs.Ytmgcoopmbohkoaa
open Go Go.Idl
set_option linter.unusedSimpArgs false
set_option linter.unusedVariables false
set_option maxRecDepth 100000
set_option maxHeartbeats 4000000
theorem SpecA.nil0 {P : Program} {f : FuncId} {xs : List IV} {h : List HO} {K : IV → List HO → Prop} (s : SpecA P f (.fz false [] 0 :: xs) h K) : SpecA P f (.sc (.slice none 0 0) :: xs) h K :=
  ⟨s.call, fun F w vs a b c => s.runs F w vs a b (by cases c with | cons h t => exact .cons (by cases h; exact .fznil) t)⟩
theorem Spec.nil0 {P : Program} {f : FuncId} {xs : List IV} {h : List HO} {K : IV → List HO → Prop} (s : Idl.Spec P f (.fz false [] 0 :: xs) h K) : Idl.Spec P f (.sc (.slice none 0 0) :: xs) h K :=
  ⟨s.call, s.fresh, fun F w vs a b c => s.runs F w vs a b (by cases c with | cons h t => exact .cons (by cases h; exact .fznil) t)⟩
theorem bl_of {a b : Ks} (h : cS a b < 0) : Op.bytesLess a b = true := by rw [← cS_lt]; exact decide_eq_true h
theorem bl_no {a b : Ks} (h : ¬ cS a b < 0) : Op.bytesLess a b = false := by rw [← cS_lt]; exact decide_eq_false h
/-! ### Texts that rise, with one more -/
theorem cS_irr (a : Ks) : ¬ cS a a < 0 := fun h => List.lt_irrefl a (cS_iff.1 h)
attribute [local irreducible] Go.Idl.IWP Go.Idl.IOps Go.Idl.Obl Go.Idl.OpG Go.Idl.thenI Go.Idl.inBlockI Go.Idl.LoopU Go.Idl.noGotoI Go.Idl.jumpI
attribute [local go_sem] List.length_set bl_of bl_no List.drop_length Nat.sub_self
theorem ssame_spec (a b : List Ks) (ha : a.length ≤ 1000000) : Idl.Spec Try.prog 18 [.fz false (strs a) a.length, .fz false (strs b) b.length] [] (Only (.sc (.bool (decide (a = b)))) []) := by
  by_cases h : a.length = b.length
  · refine sB Try.func18 Try.ntmps18 ?_
    repeat' (first|refine IOps_nil ?_|refine oS ?_|refine IOps_s rfl rfl ?_|refine oT ?_|refine IOps_s0 rfl ?_|refine oZ ?_|refine oI ?_|refine oAB ?_|refine thenI_n ?_|refine IWP_seq ?_|refine IWP_region ?_|refine IWP_ct rfl ?_|refine IWP_cf rfl ?_|refine IWP_skip ?_|refine IWP_ret ?_|refine IWP_block ?_|refine inB_n ?_|refine thenI_r ?_|refine thenI_e ?_|refine inB_r ?_|refine inB_hit ?_|refine inB_miss rfl ?_|refine IWP_exit ?_|refine IWP_scope ?_|refine IWP_label ?_|refine noG_n ?_|refine noG_r ?_|refine noG_e ?_|refine jmp_n ?_|refine jmp_r ?_|refine jmp_e ?_|refine jmp_g ?_|refine thenI_g ?_|refine inB_g ?_|refine IWP_goto ?_|refine Loop_n ?_|refine oD (id:=6) W18_6 [] O18_6 [_,_,_,_,_,_,_,_,_] [_] rfl (by repeat' (first|exact trivial|refine And.intro ?_ ?_|exact bS|exact bX|exact bZ|exact bI|fail)) ?_|fail)
    refine IWP_loop (fun i : Nat => ⟨26, [(0, .fz false (strs a) a.length), (1, .fz false (strs b) b.length), (4, .sc (.bool false)), (5, .i64 i)], []⟩) (fun i => i ≤ a.length ∧ ∀ j, j < i → a.getD j [] = b.getD j []) (fun i => a.length - i) 0 (lP []) ⟨by omega, fun j hj => by omega⟩ ?_
    rintro i ⟨hi, hpre⟩
    by_cases hia : i < a.length
    · by_cases hn : a.getD i [] = b.getD i []
      · repeat' (first|refine IOps_nil ?_|refine oS ?_|refine IOps_s rfl rfl ?_|refine oT ?_|refine IOps_s0 rfl ?_|refine oZ ?_|refine oI ?_|refine oAB ?_|refine thenI_n ?_|refine IWP_seq ?_|refine IWP_region ?_|refine IWP_ct rfl ?_|refine IWP_cf rfl ?_|refine IWP_skip ?_|refine IWP_ret ?_|refine IWP_block ?_|refine inB_n ?_|refine thenI_r ?_|refine thenI_e ?_|refine inB_r ?_|refine inB_hit ?_|refine inB_miss rfl ?_|refine IWP_exit ?_|refine IWP_scope ?_|refine IWP_label ?_|refine noG_n ?_|refine noG_r ?_|refine noG_e ?_|refine jmp_n ?_|refine jmp_r ?_|refine jmp_e ?_|refine jmp_g ?_|refine thenI_g ?_|refine inB_g ?_|refine IWP_goto ?_|refine Loop_n ?_|refine oD (id:=6) W18_6 [] O18_6 [_,_,_,_,_,_,_,_,_] [_] rfl (by repeat' (first|exact trivial|refine And.intro ?_ ?_|exact bS|exact bX|exact bZ|exact bI|fail)) ?_|fail)
        refine ⟨i + 1, ⟨by omega, fun j hj => ?_⟩, by omega, lP []⟩
        rcases Nat.lt_succ_iff_lt_or_eq.1 hj with h' | rfl
        · exact hpre j h'
        · exact hn
      · rw [show decide (a = b) = false from decide_eq_false (by rintro rfl; exact hn rfl)]
        repeat' (first|refine IOps_nil ?_|refine oS ?_|refine IOps_s rfl rfl ?_|refine oT ?_|refine IOps_s0 rfl ?_|refine oZ ?_|refine oI ?_|refine oAB ?_|refine thenI_n ?_|refine IWP_seq ?_|refine IWP_region ?_|refine IWP_ct rfl ?_|refine IWP_cf rfl ?_|refine IWP_skip ?_|refine IWP_ret ?_|refine IWP_block ?_|refine inB_n ?_|refine thenI_r ?_|refine thenI_e ?_|refine inB_r ?_|refine inB_hit ?_|refine inB_miss rfl ?_|refine IWP_exit ?_|refine IWP_scope ?_|refine IWP_label ?_|refine noG_n ?_|refine noG_r ?_|refine noG_e ?_|refine jmp_n ?_|refine jmp_r ?_|refine jmp_e ?_|refine jmp_g ?_|refine thenI_g ?_|refine inB_g ?_|refine IWP_goto ?_|refine Loop_n ?_|refine oD (id:=6) W18_6 [] O18_6 [_,_,_,_,_,_,_,_,_] [_] rfl (by repeat' (first|exact trivial|refine And.intro ?_ ?_|exact bS|exact bX|exact bZ|exact bI|fail)) ?_|fail)
        exact pD [] ⟨rfl, rfl⟩
    · rw [show decide (a = b) = true from decide_eq_true (List.ext_getElem h fun j h1 h2 => by
        have := hpre j (by omega)
        simpa [List.getD_eq_getElem?_getD, h1, h2] using this)]
      repeat' (first|refine IOps_nil ?_|refine oS ?_|refine IOps_s rfl rfl ?_|refine oT ?_|refine IOps_s0 rfl ?_|refine oZ ?_|refine oI ?_|refine oAB ?_|refine thenI_n ?_|refine IWP_seq ?_|refine IWP_region ?_|refine IWP_ct rfl ?_|refine IWP_cf rfl ?_|refine IWP_skip ?_|refine IWP_ret ?_|refine IWP_block ?_|refine inB_n ?_|refine thenI_r ?_|refine thenI_e ?_|refine inB_r ?_|refine inB_hit ?_|refine inB_miss rfl ?_|refine IWP_exit ?_|refine IWP_scope ?_|refine IWP_label ?_|refine noG_n ?_|refine noG_r ?_|refine noG_e ?_|refine jmp_n ?_|refine jmp_r ?_|refine jmp_e ?_|refine jmp_g ?_|refine thenI_g ?_|refine inB_g ?_|refine IWP_goto ?_|refine Loop_n ?_|refine oD (id:=6) W18_6 [] O18_6 [_,_,_,_,_,_,_,_,_] [_] rfl (by repeat' (first|exact trivial|refine And.intro ?_ ?_|exact bS|exact bX|exact bZ|exact bI|fail)) ?_|fail)
      exact pD [] ⟨rfl, rfl⟩
  · rw [show decide (a = b) = false from decide_eq_false (by rintro rfl; exact h rfl)]
    refine sB Try.func18 Try.ntmps18 ?_
    repeat' (first|refine IOps_nil ?_|refine oS ?_|refine IOps_s rfl rfl ?_|refine oT ?_|refine IOps_s0 rfl ?_|refine oZ ?_|refine oI ?_|refine oAB ?_|refine thenI_n ?_|refine IWP_seq ?_|refine IWP_region ?_|refine IWP_ct rfl ?_|refine IWP_cf rfl ?_|refine IWP_skip ?_|refine IWP_ret ?_|refine IWP_block ?_|refine inB_n ?_|refine thenI_r ?_|refine thenI_e ?_|refine inB_r ?_|refine inB_hit ?_|refine inB_miss rfl ?_|refine IWP_exit ?_|refine IWP_scope ?_|refine IWP_label ?_|refine noG_n ?_|refine noG_r ?_|refine noG_e ?_|refine jmp_n ?_|refine jmp_r ?_|refine jmp_e ?_|refine jmp_g ?_|refine thenI_g ?_|refine inB_g ?_|refine IWP_goto ?_|refine Loop_n ?_|refine oD (id:=6) W18_6 [] O18_6 [_,_,_,_,_,_,_,_,_] [_] rfl (by repeat' (first|exact trivial|refine And.intro ?_ ?_|exact bS|exact bX|exact bZ|exact bI|fail)) ?_|fail)
    exact pD [] ⟨rfl, rfl⟩
def fewK (l : List Ks) (m : Int) : Prop := (∀ t, t ∈ l → t.length ≤ 1000) ∧ (l.length : Int) ≤ m
instance (l : List Ks) (m : Int) : Decidable (fewK l m) := by unfold fewK; infer_instance
theorem getD_mem {α : Type} {l : List α} {i : Nat} {d : α} (h : i < l.length) : l.getD i d ∈ l := by rw [List.getD_eq_getElem?_getD, List.getElem?_eq_getElem h]; exact List.getElem_mem h
theorem mem_getD {α : Type} {l : List α} {x : α} (d : α) (h : x ∈ l) : ∃ i, i < l.length ∧ l.getD i d = x := by
  obtain ⟨i, hi, rfl⟩ := List.getElem_of_mem h
  exact ⟨i, hi, by rw [List.getD_eq_getElem?_getD, List.getElem?_eq_getElem hi]; rfl⟩
theorem kfew_spec (l : List Ks) (m : Int) (hL : l.length ≤ 9223372036854775807) : Idl.Spec Try.prog 13 [.fz false (strs l) l.length, .i64 m] [] (Only (.sc (.bool (decide (fewK l m)))) []) := by
  refine sB Try.func13 Try.ntmps13 ?_
  repeat' (first|refine IOps_nil ?_|refine oS ?_|refine IOps_s rfl rfl ?_|refine oT ?_|refine IOps_s0 rfl ?_|refine oZ ?_|refine oI ?_|refine oAB ?_|refine thenI_n ?_|refine IWP_seq ?_|refine IWP_region ?_|refine IWP_ct rfl ?_|refine IWP_cf rfl ?_|refine IWP_skip ?_|refine IWP_ret ?_|refine IWP_block ?_|refine inB_n ?_|refine thenI_r ?_|refine thenI_e ?_|refine inB_r ?_|refine inB_hit ?_|refine inB_miss rfl ?_|refine IWP_exit ?_|refine IWP_scope ?_|refine IWP_label ?_|refine noG_n ?_|refine noG_r ?_|refine noG_e ?_|refine jmp_n ?_|refine jmp_r ?_|refine jmp_e ?_|refine jmp_g ?_|refine thenI_g ?_|refine inB_g ?_|refine IWP_goto ?_|refine Loop_n ?_|fail)
  refine IWP_loop (fun i : Nat => ⟨22, [(0, .fz false (strs l) l.length), (1, .i64 m), (4, .sc (.bool false)), (5, .i64 i)], []⟩) (fun i => i ≤ l.length ∧ ∀ j, j < i → (l.getD j []).length ≤ 1000) (fun i => l.length - i) 0 (lP []) ⟨Nat.zero_le _, fun j hj => by omega⟩ ?_
  rintro i ⟨hi, hok⟩
  by_cases h : i < l.length
  · by_cases hk : (l.getD i []).length ≤ 1000
    · repeat' (first|refine IOps_nil ?_|refine oS ?_|refine IOps_s rfl rfl ?_|refine oT ?_|refine IOps_s0 rfl ?_|refine oZ ?_|refine oI ?_|refine oAB ?_|refine thenI_n ?_|refine IWP_seq ?_|refine IWP_region ?_|refine IWP_ct rfl ?_|refine IWP_cf rfl ?_|refine IWP_skip ?_|refine IWP_ret ?_|refine IWP_block ?_|refine inB_n ?_|refine thenI_r ?_|refine thenI_e ?_|refine inB_r ?_|refine inB_hit ?_|refine inB_miss rfl ?_|refine IWP_exit ?_|refine IWP_scope ?_|refine IWP_label ?_|refine noG_n ?_|refine noG_r ?_|refine noG_e ?_|refine jmp_n ?_|refine jmp_r ?_|refine jmp_e ?_|refine jmp_g ?_|refine thenI_g ?_|refine inB_g ?_|refine IWP_goto ?_|refine Loop_n ?_|fail)
      refine ⟨i + 1, ⟨h, fun j hj => ?_⟩, by omega, lP []⟩
      rcases Nat.lt_succ_iff_lt_or_eq.1 hj with h' | rfl
      · exact hok j h'
      · exact hk
    · rw [show decide (fewK l m) = false from decide_eq_false fun x => hk (x.1 _ (getD_mem h))]
      repeat' (first|refine IOps_nil ?_|refine oS ?_|refine IOps_s rfl rfl ?_|refine oT ?_|refine IOps_s0 rfl ?_|refine oZ ?_|refine oI ?_|refine oAB ?_|refine thenI_n ?_|refine IWP_seq ?_|refine IWP_region ?_|refine IWP_ct rfl ?_|refine IWP_cf rfl ?_|refine IWP_skip ?_|refine IWP_ret ?_|refine IWP_block ?_|refine inB_n ?_|refine thenI_r ?_|refine thenI_e ?_|refine inB_r ?_|refine inB_hit ?_|refine inB_miss rfl ?_|refine IWP_exit ?_|refine IWP_scope ?_|refine IWP_label ?_|refine noG_n ?_|refine noG_r ?_|refine noG_e ?_|refine jmp_n ?_|refine jmp_r ?_|refine jmp_e ?_|refine jmp_g ?_|refine thenI_g ?_|refine inB_g ?_|refine IWP_goto ?_|refine Loop_n ?_|fail)
      exact pD [] ⟨rfl, rfl⟩
  · by_cases hm : (l.length : Int) ≤ m
    · rw [show decide (fewK l m) = true from decide_eq_true ⟨fun t ht => by obtain ⟨j, hj, rfl⟩ := mem_getD [] ht; exact hok j (by omega), hm⟩]
      repeat' (first|refine IOps_nil ?_|refine oS ?_|refine IOps_s rfl rfl ?_|refine oT ?_|refine IOps_s0 rfl ?_|refine oZ ?_|refine oI ?_|refine oAB ?_|refine thenI_n ?_|refine IWP_seq ?_|refine IWP_region ?_|refine IWP_ct rfl ?_|refine IWP_cf rfl ?_|refine IWP_skip ?_|refine IWP_ret ?_|refine IWP_block ?_|refine inB_n ?_|refine thenI_r ?_|refine thenI_e ?_|refine inB_r ?_|refine inB_hit ?_|refine inB_miss rfl ?_|refine IWP_exit ?_|refine IWP_scope ?_|refine IWP_label ?_|refine noG_n ?_|refine noG_r ?_|refine noG_e ?_|refine jmp_n ?_|refine jmp_r ?_|refine jmp_e ?_|refine jmp_g ?_|refine thenI_g ?_|refine inB_g ?_|refine IWP_goto ?_|refine Loop_n ?_|fail)
      exact pD [] ⟨rfl, rfl⟩
    · rw [show decide (fewK l m) = false from decide_eq_false fun x => hm x.2]
      repeat' (first|refine IOps_nil ?_|refine oS ?_|refine IOps_s rfl rfl ?_|refine oT ?_|refine IOps_s0 rfl ?_|refine oZ ?_|refine oI ?_|refine oAB ?_|refine thenI_n ?_|refine IWP_seq ?_|refine IWP_region ?_|refine IWP_ct rfl ?_|refine IWP_cf rfl ?_|refine IWP_skip ?_|refine IWP_ret ?_|refine IWP_block ?_|refine inB_n ?_|refine thenI_r ?_|refine thenI_e ?_|refine inB_r ?_|refine inB_hit ?_|refine inB_miss rfl ?_|refine IWP_exit ?_|refine IWP_scope ?_|refine IWP_label ?_|refine noG_n ?_|refine noG_r ?_|refine noG_e ?_|refine jmp_n ?_|refine jmp_r ?_|refine jmp_e ?_|refine jmp_g ?_|refine thenI_g ?_|refine inB_g ?_|refine IWP_goto ?_|refine Loop_n ?_|fail)
      exact pD [] ⟨rfl, rfl⟩
end Go.Proofs.Ytmgcoopmbohkoaa

namespace Go.Proofs.Ytmgcoopmbohkoaa
open Go Go.Idl
set_option linter.unusedSimpArgs false
set_option linter.unusedVariables false
set_option maxRecDepth 100000
set_option maxHeartbeats 4000000
theorem tagsV_ok {l : List Ks} (h : tagsOk l) : tagsV l = (srtK (dd l), 0) := if_pos h
theorem tagsV_no {l : List Ks} (h : ¬ tagsOk l) : tagsV l = ([], 90) := if_neg h
theorem srtd_mem {l : List Ks} {x : Ks} : x ∈ srtK (dd l) ↔ x ∈ l := by rw [(srtK_perm _).mem_iff, dd_mem]
theorem srtd_nodup (l : List Ks) : (srtK (dd l)).Nodup := (srtK_perm _).nodup_iff.2 (dd_nodup l)
end Go.Proofs.Ytmgcoopmbohkoaa
