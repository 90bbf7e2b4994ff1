/-
  Tags: maps whose keys are pairs.
-/
import Derived.Test.YtmgcoopmbohkoaaTgM
import Derived.DeepKeys5
import Derived.Test.YtmgcoopmbohkoaaPaJ
namespace Go.Proofs.Ytmgcoopmbohkoaa
open Go Go.Idl
set_option linter.unusedSimpArgs false
set_option linter.unusedVariables false
set_option maxRecDepth 100000
set_option maxHeartbeats 4000000
theorem pair_law : Maps.Keyed Try.prog 76 := .of_law (deep_law_gate Try.laidOut (by decide +kernel) (by decide +kernel) (by kernel_rfl) (by kernel_rfl))
def pairV (p : Pr) : Value := .agg ⟨[.string ⟨⟨p.tag⟩⟩, .int .i64 p.id]⟩
theorem ofV_pair (p : Pr) : ofV (pairV p) = .agg [.sc (.string ⟨⟨p.tag⟩⟩), .sc (.int .i64 p.id)] := rfl
theorem val_pair (p : Pr) : (IV.agg [.sc (.string ⟨⟨p.tag⟩⟩), .sc (.int .i64 p.id)]).val = some (pairV p) := rfl
theorem pairV_inj {p q : Pr} (h : pairV p = pairV q) : p = q := by
  obtain ⟨t, i⟩ := p
  obtain ⟨u, j⟩ := q
  simp only [pairV, Value.agg.injEq, Array.mk.injEq, List.cons.injEq, Value.string.injEq, Value.int.injEq, true_and, and_true] at h
  obtain ⟨h1, h2⟩ := h
  have h3 : t = u := congrArg (fun b : ByteArray => b.data.toList) h1
  subst h3; subst h2; rfl
def goodP (p : Pr) : Prop := p.tag.length ≤ 1000000 ∧ nmd p.id
noncomputable def pFs := match Try.prog.underlying 76 with | some (.struct fs) => fs | _ => #[]
theorem pair_key {p : Pr} (h : goodP p) : ∃ l, keyOf Try.prog 76 (pairV p) = some l := by
  obtain ⟨h1, h2, h3⟩ := h
  have hu : Try.prog.underlying 76 = some (.struct pFs) := by kernel_rfl
  have hf : pFs.toList.map (fun f => (f.type, f.offset)) = [(9, 0), (3, 1)] := by kernel_rfl
  have hn : pFs.all (·.name != "_") = true := by kernel_rfl
  have hu1 : Try.prog.underlying 9 = some .string := by kernel_rfl
  have hu2 : Try.prog.underlying 3 = some (.int .i64) := by kernel_rfl
  have hc : Try.prog.cellsOf 76 = 2 := by kernel_rfl
  have hc1 : Try.prog.cellsOf 9 = 1 := by kernel_rfl
  have hc2 : Try.prog.cellsOf 3 = 1 := by kernel_rfl
  have hk : Try.prog.keyType 76 = true := by kernel_rfl
  have hw : (Lit.int .i64 p.id).wf = true := by
    simp [Lit.wf, IntKind.min, IntKind.max, IntKind.bits, IntKind.signed]
    omega
  have hs : (⟨⟨p.tag⟩⟩ : ByteArray).size ≤ maxLen := by
    have : (⟨⟨p.tag⟩⟩ : ByteArray).size = p.tag.length := rfl
    rw [this]; unfold maxLen; omega
  have k1 : ∀ n : Nat, Try.prog.keyLits (n + 1) 9 [.string ⟨⟨p.tag⟩⟩] = some [.string p.tag] := fun n => by
    unfold Program.keyLits
    simp only [hu1]
    rw [if_pos hs]
  have k2 : ∀ n : Nat, Try.prog.keyLits (n + 1) 3 [.int .i64 p.id] = some [.int .i64 p.id] := fun n => by
    unfold Program.keyLits
    simp only [hu2]
    rw [if_pos ⟨by trivial, hw⟩]
  have k9 : ∀ n : Nat, ∃ ls, Try.prog.keyLits (n + 2) 76 (pairV p).cells.toList = some ls := fun n => by
    unfold Program.keyLits
    simp only [hu, hc]
    rw [if_pos ⟨rfl, hn⟩]
    have e : pFs.toList.mapM (fun f => Try.prog.keyLits (n + 1) f.type (((pairV p).cells.toList.drop f.offset).take (Try.prog.cellsOf f.type)))
        = (pFs.toList.map fun f => (f.type, f.offset)).mapM (fun x => Try.prog.keyLits (n + 1) x.1 (((pairV p).cells.toList.drop x.2).take (Try.prog.cellsOf x.1))) := by rw [List.mapM_map]; rfl
    rw [e, hf]
    refine Option.isSome_iff_exists.1 ?_
    simp only [pairV, Value.cells, List.mapM_cons, List.mapM_nil, hc1, hc2, List.drop_zero, List.drop_succ_cons, List.take_succ_cons, List.take_zero, k1, k2]
    simp
  have hm : Try.prog.types.size + 1 = (Try.prog.types.size - 1) + 2 := by
    have h1 : 1 ≤ Try.prog.types.size := by decide +kernel
    omega
  generalize Try.prog.types.size - 1 = m at hm
  obtain ⟨ls, hls⟩ := k9 m
  refine ⟨.string (keyBytes ls), ?_⟩
  unfold keyOf
  simp only [hu, hk, hm, hls]
  rw [if_pos]
  · rfl
  · simp [Value.formed, pairV, hu, hc]
/-! ### Entries -/
def entP (x : Pr × Nat) : MapEntry := { key := pairV x.1, val := .bool true, born := x.2 }
def mpE (E : List (Pr × Nat)) : Array MapEntry := ⟨E.map entP⟩
theorem mpE_new (E : List (Pr × Nat)) (p : Pr) (c : Nat) : mpNew (mpE E) (pairV p) (.bool true) c = mpE (E ++ [(p, c)]) := by
  unfold mpNew mpE
  apply Array.ext'
  rw [Array.toList_push]
  simp [entP]
theorem mpE_get {E : List (Pr × Nat)} {j : Nat} {e : MapEntry} (h : (mpE E).toList[j]? = some e) : ∃ x, E[j]? = some x ∧ e = entP x := by
  have h : (E.map entP)[j]? = some e := h
  rw [List.getElem?_map] at h
  obtain ⟨x, h1, h2⟩ := Option.map_eq_some_iff.1 h
  exact ⟨x, h1, h2.symm⟩
theorem mpE_del (E : List (Pr × Nat)) (j : Nat) : mpDel (mpE E) j = mpE (E.eraseIdx j) := by
  unfold mpDel mpE
  apply Array.ext'
  rw [Array.toList_eraseIdxIfInBounds]
  show (E.map entP).eraseIdx j = (E.eraseIdx j).map entP
  have : ∀ (E : List (Pr × Nat)) (j : Nat), (E.map entP).eraseIdx j = (E.eraseIdx j).map entP := by
    intro E
    induction E with
    | nil => intro j; rfl
    | cons x E ih =>
      intro j
      cases j with
      | zero => rfl
      | succ j => simp [ih j]
  exact this E j
theorem mpE_mem {E : List (Pr × Nat)} {e : MapEntry} : e ∈ (mpE E).toList ↔ ∃ x, x ∈ E ∧ e = entP x := by
  show e ∈ E.map entP ↔ _
  rw [List.mem_map]
  exact ⟨fun ⟨x, h1, h2⟩ => ⟨x, h1, h2.symm⟩, fun ⟨x, h1, h2⟩ => ⟨x, h1, h2.symm⟩⟩
theorem mpE_keys {E : List (Pr × Nat)} (h : ∀ x, x ∈ E → goodP x.1) : ∀ e ∈ (mpE E).toList, ∃ l, keyOf Try.prog 76 e.key = some l := fun e he => by
  obtain ⟨x, hx, rfl⟩ := mpE_mem.1 he
  exact pair_key (h x hx)
theorem mpE_born {E : List (Pr × Nat)} (h : (E.map (·.2)).Nodup) : ((mpE E).toList.map (·.born)).Nodup := by
  have : (mpE E).toList.map (·.born) = E.map (·.2) := by
    show (E.map entP).map _ = _
    rw [List.map_map]; rfl
  rw [this]; exact h
theorem born_eq {E : List (Pr × Nat)} (h : (E.map (·.2)).Nodup) {x y : Pr × Nat} (hx : x ∈ E) (hy : y ∈ E) (e : x.2 = y.2) : x = y := by
  induction E with
  | nil => cases hx
  | cons z E ih =>
    rw [List.map_cons, List.nodup_cons] at h
    rcases List.mem_cons.1 hx with hx | hx <;> rcases List.mem_cons.1 hy with hy | hy
    · rw [hx, hy]
    · exact absurd (List.mem_map.2 ⟨y, hy, by rw [← e, hx]⟩) h.1
    · exact absurd (List.mem_map.2 ⟨x, hx, by rw [e, hy]⟩) h.1
    · exact ih h.2 hx hy
theorem nodup_sub : ∀ {a b : List Nat}, a.Nodup → (∀ x, x ∈ a → x ∈ b) → a.length ≤ b.length
  | [], _, _, _ => Nat.zero_le _
  | x :: a, b, h, hs => by
    rw [List.nodup_cons] at h
    have hx := hs x (List.mem_cons_self ..)
    have ih := nodup_sub (a := a) (b := b.erase x) h.2 fun y hy => (List.mem_erase_of_ne (fun (e : y = x) => h.1 (e ▸ hy))).2 (hs y (List.mem_cons_of_mem _ hy))
    rw [List.length_erase_of_mem hx] at ih
    have : 0 < b.length := List.length_pos_of_mem hx
    simp only [List.length_cons]; omega
theorem erase_filter {E : List (Pr × Nat)} (h : (E.map (·.2)).Nodup) {j : Nat} {x : Pr × Nat} (hj : E[j]? = some x) : E.eraseIdx j = E.filter fun y => decide (y.2 ≠ x.2) := by
  induction E generalizing j with
  | nil => simp at hj
  | cons z E ih =>
    rw [List.map_cons, List.nodup_cons] at h
    cases j with
    | zero =>
      simp at hj; subst hj
      rw [List.eraseIdx_cons_zero, List.filter_cons, if_neg (by simp)]
      exact (List.filter_eq_self.2 fun y hy => decide_eq_true (show y.2 ≠ z.2 from fun e => h.1 (List.mem_map.2 ⟨y, hy, e⟩))).symm
    | succ j =>
      simp at hj
      have hm := List.mem_of_getElem? hj
      rw [List.eraseIdx_cons_succ, List.filter_cons, if_pos (decide_eq_true (show z.2 ≠ x.2 from fun e => h.1 (List.mem_map.2 ⟨x, hm, e.symm⟩))), ih h.2 hj]
end Go.Proofs.Ytmgcoopmbohkoaa

namespace Go.Proofs.Ytmgcoopmbohkoaa
open Go Go.Idl
set_option linter.unusedSimpArgs false
set_option linter.unusedVariables false
set_option maxRecDepth 100000
set_option maxHeartbeats 4000000
def num (S : List Pr) : List (Pr × Nat) := S.zipIdx
theorem num_snoc (S : List Pr) (p : Pr) : num (S ++ [p]) = num S ++ [(p, S.length)] := by simp [num, List.zipIdx_append]
theorem num_len (S : List Pr) : (num S).length = S.length := by simp [num]
theorem num_fst (S : List Pr) : (num S).map (·.1) = S := by simp [num]
theorem num_born (S : List Pr) : ((num S).map (·.2)).Nodup := by
  have : (num S).map (·.2) = List.range' 0 S.length := by simp [num]
  rw [this]; exact List.nodup_range'
theorem num_lt {S : List Pr} {x : Pr × Nat} (h : x ∈ num S) : x.2 < S.length := by
  have : x.2 ∈ (num S).map (·.2) := List.mem_map.2 ⟨x, h, rfl⟩
  rw [show (num S).map (·.2) = List.range' 0 S.length by simp [num], List.mem_range'] at this
  obtain ⟨i, h1, h2⟩ := this
  omega
theorem num_mem {S : List Pr} {x : Pr × Nat} (h : x ∈ num S) : x.1 ∈ S := by
  have : x.1 ∈ (num S).map (·.1) := List.mem_map.2 ⟨x, h, rfl⟩
  rwa [num_fst] at this
theorem good_flat {l : List Rw} (h : OkR l) {p : Pr} (hp : p ∈ flat l) : goodP p := by
  obtain ⟨r, hr, h1, h2⟩ := mem_flat.1 hp
  have := (h.tag r hr).2
  exact ⟨by rw [← h1]; omega, h.nm r hr _ h2⟩
theorem ltp_last {S : List Pr} {p : Pr} (h : (S ++ [p]).Pairwise LtP) : p ∉ S := fun hx => LtP.irrefl p ((List.pairwise_append.1 h).2.2 p hx p (by simp))
theorem flat_row {l : List Rw} {i : Nat} (h : i < l.length) (j : Nat) (hl : CanR l) : (flat (l.take i) ++ ((l.getD i default).ids.take j).map fun x => (⟨(l.getD i default).tag, x⟩ : Pr)).Pairwise LtP := by
  have h1 := flat_srt (can_take hl (i + 1))
  rw [take_snoc h, flat_app, flat_one] at h1
  refine h1.sublist ?_
  exact (List.Sublist.refl _).append ((List.take_sublist _ _).map _)
theorem row_good {l : List Rw} (hok : OkR l) {i : Nat} (h : i < l.length) {j : Nat} {p : Pr} (hp : p ∈ flat (l.take i) ++ ((l.getD i default).ids.take j).map fun x => (⟨(l.getD i default).tag, x⟩ : Pr)) : goodP p := by
  refine good_flat hok (mem_flat.2 ?_)
  rcases List.mem_append.1 hp with hp | hp
  · obtain ⟨r, hr, h1, h2⟩ := mem_flat.1 hp
    exact ⟨r, List.mem_of_mem_take hr, h1, h2⟩
  · obtain ⟨x, hx, rfl⟩ := List.mem_map.1 hp
    exact ⟨_, getD_mem h, rfl, List.mem_of_mem_take hx⟩
attribute [local irreducible] Go.Idl.IWP Go.Idl.IOps Go.Idl.Obl Go.Idl.OpG Go.Idl.thenI Go.Idl.inBlockI Go.Idl.LoopU Go.Idl.noGotoI Go.Idl.jumpI
attribute [local go_sem] List.length_set bl_of bl_no List.drop_length Nat.sub_self getD_set_at
theorem spread_spec (l : List Rw) (hok : OkR l) (hL : l.length ≤ 1000000) (hI : ∀ r, r ∈ l → r.tag.length ≤ 1000000 ∧ r.ids.length ≤ 1000000) : Idl.Spec Try.prog 43 [.fz false (rows false l) l.length] [] (Only (.mp 0) [.mp (mpE (num (flat l))) (flat l).length]) := by
  refine sB Try.func43 Try.ntmps43 ?_
  repeat' (first|refine IOps_nil ?_|refine oS ?_|refine IOps_s rfl rfl ?_|refine oT ?_|refine IOps_s0 rfl ?_|refine oZ ?_|refine oI ?_|refine oAB ?_|refine thenI_n ?_|refine IWP_seq ?_|refine IWP_region ?_|refine IWP_ct rfl ?_|refine IWP_cf rfl ?_|refine IWP_skip ?_|refine IWP_ret ?_|refine IWP_block ?_|refine inB_n ?_|refine thenI_r ?_|refine thenI_e ?_|refine inB_r ?_|refine inB_hit ?_|refine inB_miss rfl ?_|refine IWP_exit ?_|refine IWP_scope ?_|refine IWP_label ?_|refine noG_n ?_|refine noG_r ?_|refine noG_e ?_|refine jmp_n ?_|refine jmp_r ?_|refine jmp_e ?_|refine jmp_g ?_|refine thenI_g ?_|refine inB_g ?_|refine IWP_goto ?_|refine Loop_n ?_|fail)
  refine oMk ?_
  repeat' (first|refine IOps_nil ?_|refine oS ?_|refine IOps_s rfl rfl ?_|refine oT ?_|refine IOps_s0 rfl ?_|refine oZ ?_|refine oI ?_|refine oAB ?_|refine thenI_n ?_|refine IWP_seq ?_|refine IWP_region ?_|refine IWP_ct rfl ?_|refine IWP_cf rfl ?_|refine IWP_skip ?_|refine IWP_ret ?_|refine IWP_block ?_|refine inB_n ?_|refine thenI_r ?_|refine thenI_e ?_|refine inB_r ?_|refine inB_hit ?_|refine inB_miss rfl ?_|refine IWP_exit ?_|refine IWP_scope ?_|refine IWP_label ?_|refine noG_n ?_|refine noG_r ?_|refine noG_e ?_|refine jmp_n ?_|refine jmp_r ?_|refine jmp_e ?_|refine jmp_g ?_|refine thenI_g ?_|refine inB_g ?_|refine IWP_goto ?_|refine Loop_n ?_|fail)
  refine IWP_loop (fun i : Nat => ⟨30, [(0, .fz false (rows false l) l.length), (3, .mp 0), (9, .fz false (rows false l) l.length), (10, .i64 l.length), (11, .i64 i)], [.mp (mpE (num (flat (l.take i)))) (flat (l.take i)).length]⟩) (fun i => i ≤ l.length) (fun i => l.length - i) 0 (lP [0]) (Nat.zero_le _) ?_
  rintro i hi
  by_cases h : i < l.length
  · have hrow := fun j => flat_row h j hok.can
    have hgood := fun (j : Nat) (p : Pr) hp => row_good hok h (j := j) (p := p) hp
    have htk := take_snoc h
    obtain ⟨hI1, hI2⟩ := hI _ (getD_mem (d := default) h)
    repeat' (first|refine IOps_nil ?_|refine oS ?_|refine IOps_s rfl rfl ?_|refine oT ?_|refine IOps_s0 rfl ?_|refine oZ ?_|refine oI ?_|refine oAB ?_|refine thenI_n ?_|refine IWP_seq ?_|refine IWP_region ?_|refine IWP_ct rfl ?_|refine IWP_cf rfl ?_|refine IWP_skip ?_|refine IWP_ret ?_|refine IWP_block ?_|refine inB_n ?_|refine thenI_r ?_|refine thenI_e ?_|refine inB_r ?_|refine inB_hit ?_|refine inB_miss rfl ?_|refine IWP_exit ?_|refine IWP_scope ?_|refine IWP_label ?_|refine noG_n ?_|refine noG_r ?_|refine noG_e ?_|refine jmp_n ?_|refine jmp_r ?_|refine jmp_e ?_|refine jmp_g ?_|refine thenI_g ?_|refine inB_g ?_|refine IWP_goto ?_|refine Loop_n ?_|fail)
    generalize hr : l.getD i default = r at hrow hgood htk hI1 hI2 ⊢
    refine IWP_loop (fun j : Nat => ⟨30, [(0, .fz false (rows false l) l.length), (3, .mp 0), (5, .ptr 1 0), (9, .fz false (rows false l) l.length), (10, .i64 l.length), (11, .i64 i), (16, .fz false (ints r.ids) r.ids.length), (17, .i64 r.ids.length), (18, .i64 j)], [.mp (mpE (num (flat (l.take i) ++ (r.ids.take j).map fun x => (⟨r.tag, x⟩ : Pr)))) (flat (l.take i) ++ (r.ids.take j).map fun x => (⟨r.tag, x⟩ : Pr)).length, .box [.sc (.string ⟨⟨r.tag⟩⟩), .fz false (ints r.ids) r.ids.length]]⟩)
      (fun j => j ≤ r.ids.length) (fun j => r.ids.length - j) 0 (lQ [0, 1] (h3 := by simp only [List.take_zero, List.map_nil, List.append_nil]; rfl)) (Nat.zero_le _) ?_
    rintro j hj
    by_cases h2 : j < r.ids.length
    · have e1 : (r.ids.take (j + 1)).map (fun x => (⟨r.tag, x⟩ : Pr)) = (r.ids.take j).map (fun x => (⟨r.tag, x⟩ : Pr)) ++ [⟨r.tag, r.ids.getD j 0⟩] := by rw [int_take h2, List.map_append]; rfl
      have hS2 := hrow (j + 1)
      have hG := hgood (j + 1)
      have hG1 := hgood j
      rw [e1, ← List.append_assoc] at hS2
      rw [e1] at hG
      generalize hS : flat (l.take i) ++ (r.ids.take j).map (fun x => (⟨r.tag, x⟩ : Pr)) = S at hS2 hG1 ⊢
      have hgp : goodP ⟨r.tag, r.ids.getD j 0⟩ := hG _ (by rw [← List.append_assoc]; simp)
      obtain ⟨lk, hlk⟩ := pair_key hgp
      have hnew := ltp_last hS2
      repeat' (first|refine IOps_nil ?_|refine oS ?_|refine IOps_s rfl rfl ?_|refine oT ?_|refine IOps_s0 rfl ?_|refine oZ ?_|refine oI ?_|refine oAB ?_|refine thenI_n ?_|refine IWP_seq ?_|refine IWP_region ?_|refine IWP_ct rfl ?_|refine IWP_cf rfl ?_|refine IWP_skip ?_|refine IWP_ret ?_|refine IWP_block ?_|refine inB_n ?_|refine thenI_r ?_|refine thenI_e ?_|refine inB_r ?_|refine inB_hit ?_|refine inB_miss rfl ?_|refine IWP_exit ?_|refine IWP_scope ?_|refine IWP_label ?_|refine noG_n ?_|refine noG_r ?_|refine noG_e ?_|refine jmp_n ?_|refine jmp_r ?_|refine jmp_e ?_|refine jmp_g ?_|refine thenI_g ?_|refine inB_g ?_|refine IWP_goto ?_|refine Loop_n ?_|fail)
      refine oMu (et := 4) pair_law (kv := pairV ⟨r.tag, r.ids.getD j 0⟩) (xv := .bool true) (val_pair ⟨r.tag, r.ids.getD j 0⟩) rfl hlk (mpE_keys fun x hx => hG1 _ (num_mem hx)) ?_ ?_
      · intro _
        rw [mpE_new, ← num_snoc]
        repeat' (first|refine IOps_nil ?_|refine oS ?_|refine IOps_s rfl rfl ?_|refine oT ?_|refine IOps_s0 rfl ?_|refine oZ ?_|refine oI ?_|refine oAB ?_|refine thenI_n ?_|refine IWP_seq ?_|refine IWP_region ?_|refine IWP_ct rfl ?_|refine IWP_cf rfl ?_|refine IWP_skip ?_|refine IWP_ret ?_|refine IWP_block ?_|refine inB_n ?_|refine thenI_r ?_|refine thenI_e ?_|refine inB_r ?_|refine inB_hit ?_|refine inB_miss rfl ?_|refine IWP_exit ?_|refine IWP_scope ?_|refine IWP_label ?_|refine noG_n ?_|refine noG_r ?_|refine noG_e ?_|refine jmp_n ?_|refine jmp_r ?_|refine jmp_e ?_|refine jmp_g ?_|refine thenI_g ?_|refine inB_g ?_|refine IWP_goto ?_|refine Loop_n ?_|fail)
        exact ⟨j + 1, h2, by omega, lQ [0, 1] (h3 := by rw [e1, ← List.append_assoc, hS]; simp only [List.length_append, List.length_cons, List.length_nil]; rfl)⟩
      · intro q e hq he
        obtain ⟨x, hx, rfl⟩ := mpE_get hq
        exact absurd (pairV_inj he ▸ num_mem (List.mem_of_getElem? hx)) hnew
    · obtain rfl : j = r.ids.length := by omega
      repeat' (first|refine IOps_nil ?_|refine oS ?_|refine IOps_s rfl rfl ?_|refine oT ?_|refine IOps_s0 rfl ?_|refine oZ ?_|refine oI ?_|refine oAB ?_|refine thenI_n ?_|refine IWP_seq ?_|refine IWP_region ?_|refine IWP_ct rfl ?_|refine IWP_cf rfl ?_|refine IWP_skip ?_|refine IWP_ret ?_|refine IWP_block ?_|refine inB_n ?_|refine thenI_r ?_|refine thenI_e ?_|refine inB_r ?_|refine inB_hit ?_|refine inB_miss rfl ?_|refine IWP_exit ?_|refine IWP_scope ?_|refine IWP_label ?_|refine noG_n ?_|refine noG_r ?_|refine noG_e ?_|refine jmp_n ?_|refine jmp_r ?_|refine jmp_e ?_|refine jmp_g ?_|refine thenI_g ?_|refine inB_g ?_|refine IWP_goto ?_|refine Loop_n ?_|fail)
      refine ⟨i + 1, h, by omega, lQ [0] (h3 := by rw [htk, flat_app, flat_one, List.length_append, List.length_map])⟩
  · obtain rfl : i = l.length := by omega
    rw [List.take_length]
    repeat' (first|refine IOps_nil ?_|refine oS ?_|refine IOps_s rfl rfl ?_|refine oT ?_|refine IOps_s0 rfl ?_|refine oZ ?_|refine oI ?_|refine oAB ?_|refine thenI_n ?_|refine IWP_seq ?_|refine IWP_region ?_|refine IWP_ct rfl ?_|refine IWP_cf rfl ?_|refine IWP_skip ?_|refine IWP_ret ?_|refine IWP_block ?_|refine inB_n ?_|refine thenI_r ?_|refine thenI_e ?_|refine inB_r ?_|refine inB_hit ?_|refine inB_miss rfl ?_|refine IWP_exit ?_|refine IWP_scope ?_|refine IWP_label ?_|refine noG_n ?_|refine noG_r ?_|refine noG_e ?_|refine jmp_n ?_|refine jmp_r ?_|refine jmp_e ?_|refine jmp_g ?_|refine thenI_g ?_|refine inB_g ?_|refine IWP_goto ?_|refine Loop_n ?_|fail)
    exact pD [0] ⟨rfl, rfl⟩
/-! ### A number's pairs forgotten -/
structure OkE (E : List (Pr × Nat)) (c : Nat) : Prop where
  good : ∀ x, x ∈ E → goodP x.1
  keys : (E.map (·.1)).Nodup
  born : (E.map (·.2)).Nodup
  lt : ∀ x, x ∈ E → x.2 < c
def forgE (E : List (Pr × Nat)) (id : Int) : List (Pr × Nat) := E.filter fun x => decide (x.1.id ≠ id)
theorem key_eq {E : List (Pr × Nat)} (h : (E.map (·.1)).Nodup) {x y : Pr × Nat} (hx : x ∈ E) (hy : y ∈ E) (e : x.1 = y.1) : x = y := by
  induction E with
  | nil => cases hx
  | cons z E ih =>
    rw [List.map_cons, List.nodup_cons] at h
    rcases List.mem_cons.1 hx with hx | hx <;> rcases List.mem_cons.1 hy with hy | hy
    · rw [hx, hy]
    · exact absurd (List.mem_map.2 ⟨y, hy, by rw [← e, hx]⟩) h.1
    · exact absurd (List.mem_map.2 ⟨x, hx, by rw [e, hy]⟩) h.1
    · exact ih h.2 hx hy
def leftE (E : List (Pr × Nat)) (id : Int) (s : List Nat) : List (Pr × Nat) := E.filter fun x => decide (¬ (x.1.id = id ∧ x.2 ∈ s))
theorem leftE_nil (E : List (Pr × Nat)) (id : Int) : leftE E id [] = E := List.filter_eq_self.2 fun x _ => by simp
theorem leftE_all {E : List (Pr × Nat)} {id : Int} {s : List Nat} (h : ∀ x, x ∈ leftE E id s → x.2 ∈ s) : leftE E id s = forgE E id := by
  unfold leftE forgE
  refine List.filter_congr fun x hx => ?_
  refine decide_eq_decide.2 ⟨fun k e => k ⟨e, ?_⟩, fun k e => k e.1⟩
  exact h x (List.mem_filter.2 ⟨hx, decide_eq_true k⟩)
theorem leftE_same {E : List (Pr × Nat)} {id : Int} {s : List Nat} {x : Pr × Nat} (hb : (E.map (·.2)).Nodup) (hx : x ∈ E) (hid : ¬ x.1.id = id) : leftE E id (s ++ [x.2]) = leftE E id s := by
  unfold leftE
  refine List.filter_congr fun y hy => ?_
  refine decide_eq_decide.2 ⟨fun k e => k ⟨e.1, List.mem_append_left _ e.2⟩, fun k e => ?_⟩
  rcases List.mem_append.1 e.2 with q | q
  · exact k ⟨e.1, q⟩
  · simp only [List.mem_singleton] at q
    have := born_eq hb hy hx q
    subst this; exact hid e.1
theorem leftE_del {E : List (Pr × Nat)} {id : Int} {s : List Nat} {x : Pr × Nat} (hb : (E.map (·.2)).Nodup) (hx : x ∈ E) (hid : x.1.id = id) : (leftE E id s).filter (fun y => decide (y.2 ≠ x.2)) = leftE E id (s ++ [x.2]) := by
  unfold leftE
  rw [List.filter_filter]
  refine List.filter_congr fun y hy => ?_
  rw [← Bool.decide_and]
  refine decide_eq_decide.2 ⟨fun k e => ?_, fun k => ⟨fun e => ?_, fun e => k ⟨e.1, List.mem_append_left _ e.2⟩⟩⟩
  · rcases List.mem_append.1 e.2 with q | q
    · exact k.2 ⟨e.1, q⟩
    · simp only [List.mem_singleton] at q; exact k.1 q
  · have := born_eq hb hy hx e
    subst this
    exact k ⟨hid, by simp⟩
theorem forget_spec (E : List (Pr × Nat)) (c : Nat) (id : Int) (h : OkE E c) : Idl.SpecA Try.prog 44 [.mp 0, .i64 id] [.mp (mpE E) c] (Only (.tup []) [.mp (mpE (forgE E id)) c]) := by
  refine sA Try.func44 Try.ntmps44 ?_
  repeat' (first|refine IOps_nil ?_|refine oS ?_|refine IOps_s rfl rfl ?_|refine oT ?_|refine IOps_s0 rfl ?_|refine oZ ?_|refine oI ?_|refine oAB ?_|refine thenI_n ?_|refine IWP_seq ?_|refine IWP_region ?_|refine IWP_ct rfl ?_|refine IWP_cf rfl ?_|refine IWP_skip ?_|refine IWP_ret ?_|refine IWP_block ?_|refine inB_n ?_|refine thenI_r ?_|refine thenI_e ?_|refine inB_r ?_|refine inB_hit ?_|refine inB_miss rfl ?_|refine IWP_exit ?_|refine IWP_scope ?_|refine IWP_label ?_|refine noG_n ?_|refine noG_r ?_|refine noG_e ?_|refine jmp_n ?_|refine jmp_r ?_|refine jmp_e ?_|refine jmp_g ?_|refine thenI_g ?_|refine inB_g ?_|refine IWP_goto ?_|refine Loop_n ?_|fail)
  refine oMr (kt := 76) (et := 4) ?_
  repeat' (first|refine IOps_nil ?_|refine oS ?_|refine IOps_s rfl rfl ?_|refine oT ?_|refine IOps_s0 rfl ?_|refine oZ ?_|refine oI ?_|refine oAB ?_|refine thenI_n ?_|refine IWP_seq ?_|refine IWP_region ?_|refine IWP_ct rfl ?_|refine IWP_cf rfl ?_|refine IWP_skip ?_|refine IWP_ret ?_|refine IWP_block ?_|refine inB_n ?_|refine thenI_r ?_|refine thenI_e ?_|refine inB_r ?_|refine inB_hit ?_|refine inB_miss rfl ?_|refine IWP_exit ?_|refine IWP_scope ?_|refine IWP_label ?_|refine noG_n ?_|refine noG_r ?_|refine noG_e ?_|refine jmp_n ?_|refine jmp_r ?_|refine jmp_e ?_|refine jmp_g ?_|refine thenI_g ?_|refine inB_g ?_|refine IWP_goto ?_|refine Loop_n ?_|fail)
  refine IWP_loop (fun s : Array Nat => ⟨17, [(0, .mp 0), (1, .i64 id), (6, .ptr 1 0)], [.mp (mpE (leftE E id s.toList)) c, .it 0 c s c]⟩) (fun s => s.toList.Nodup ∧ ∀ n, n ∈ s.toList → n ∈ E.map (·.2)) (fun s => E.length - s.size) #[] (lP [0, 1] (h3 := by rw [leftE_nil]; rfl)) ⟨List.nodup_nil, fun n hn => by cases hn⟩ ?_
  rintro s ⟨hnd, hsub⟩
  have hsubE : ∀ x, x ∈ leftE E id s.toList → x ∈ E := fun x hx => (List.mem_filter.1 hx).1
  repeat' (first|refine IOps_nil ?_|refine oS ?_|refine IOps_s rfl rfl ?_|refine oT ?_|refine IOps_s0 rfl ?_|refine oZ ?_|refine oI ?_|refine oAB ?_|refine thenI_n ?_|refine IWP_seq ?_|refine IWP_region ?_|refine IWP_ct rfl ?_|refine IWP_cf rfl ?_|refine IWP_skip ?_|refine IWP_ret ?_|refine IWP_block ?_|refine inB_n ?_|refine thenI_r ?_|refine thenI_e ?_|refine inB_r ?_|refine inB_hit ?_|refine inB_miss rfl ?_|refine IWP_exit ?_|refine IWP_scope ?_|refine IWP_label ?_|refine noG_n ?_|refine noG_r ?_|refine noG_e ?_|refine jmp_n ?_|refine jmp_r ?_|refine jmp_e ?_|refine jmp_g ?_|refine thenI_g ?_|refine inB_g ?_|refine IWP_goto ?_|refine Loop_n ?_|fail)
  refine oMn (fun e he => ?_) (Nat.le_refl _) ?_ ?_
  · obtain ⟨x, hx, rfl⟩ := mpE_mem.1 he
    exact h.lt x (hsubE x hx)
  · intro hall
    have e := leftE_all (E := E) (id := id) (s := s.toList) fun x hx => Array.mem_toList_iff.2 (hall (entP x) (mpE_mem.2 ⟨x, hx, rfl⟩))
    rw [e]
    repeat' (first|refine IOps_nil ?_|refine oS ?_|refine IOps_s rfl rfl ?_|refine oT ?_|refine IOps_s0 rfl ?_|refine oZ ?_|refine oI ?_|refine oAB ?_|refine thenI_n ?_|refine IWP_seq ?_|refine IWP_region ?_|refine IWP_ct rfl ?_|refine IWP_cf rfl ?_|refine IWP_skip ?_|refine IWP_ret ?_|refine IWP_block ?_|refine inB_n ?_|refine thenI_r ?_|refine thenI_e ?_|refine inB_r ?_|refine inB_hit ?_|refine inB_miss rfl ?_|refine IWP_exit ?_|refine IWP_scope ?_|refine IWP_label ?_|refine noG_n ?_|refine noG_r ?_|refine noG_e ?_|refine jmp_n ?_|refine jmp_r ?_|refine jmp_e ?_|refine jmp_g ?_|refine thenI_g ?_|refine inB_g ?_|refine IWP_goto ?_|refine Loop_n ?_|fail)
    exact pA [0]
  · intro e he hns
    obtain ⟨x, hx, rfl⟩ := mpE_mem.1 he
    have hxE := hsubE x hx
    have hns' : x.2 ∉ s.toList := fun q => hns (Array.mem_toList_iff.1 q)
    have hnd2 : (s.push x.2).toList.Nodup := by
      rw [Array.toList_push, List.nodup_append]
      exact ⟨hnd, by simp, fun a ha b hb' e => by simp at hb'; subst hb'; subst e; exact hns' ha⟩
    have hsub2 : ∀ n, n ∈ (s.push x.2).toList → n ∈ E.map (·.2) := fun n hn => by
      rw [Array.toList_push, List.mem_append] at hn
      rcases hn with hn | hn
      · exact hsub n hn
      · simp only [List.mem_singleton] at hn; subst hn; exact List.mem_map.2 ⟨x, hxE, rfl⟩
    have hfew := nodup_sub hnd2 hsub2
    rw [List.length_map] at hfew
    have hsz : (s.push x.2).toList.length = s.size + 1 := by simp
    have hsz2 : (s.push x.2).size = s.size + 1 := by simp
    have hlb : ((leftE E id s.toList).map (·.2)).Nodup := (h.born).sublist (List.filter_sublist.map _)
    have hlk' : ((leftE E id s.toList).map (·.1)).Nodup := (h.keys).sublist (List.filter_sublist.map _)
    rw [show (entP x).born = x.2 from rfl]
    repeat' (first|refine IOps_nil ?_|refine oS ?_|refine IOps_s rfl rfl ?_|refine oT ?_|refine IOps_s0 rfl ?_|refine oZ ?_|refine oI ?_|refine oAB ?_|refine thenI_n ?_|refine IWP_seq ?_|refine IWP_region ?_|refine IWP_ct rfl ?_|refine IWP_cf rfl ?_|refine IWP_skip ?_|refine IWP_ret ?_|refine IWP_block ?_|refine inB_n ?_|refine thenI_r ?_|refine thenI_e ?_|refine inB_r ?_|refine inB_hit ?_|refine inB_miss rfl ?_|refine IWP_exit ?_|refine IWP_scope ?_|refine IWP_label ?_|refine noG_n ?_|refine noG_r ?_|refine noG_e ?_|refine jmp_n ?_|refine jmp_r ?_|refine jmp_e ?_|refine jmp_g ?_|refine thenI_g ?_|refine inB_g ?_|refine IWP_goto ?_|refine Loop_n ?_|fail)
    refine oMe he (mpE_born hlb) ?_
    rw [show (entP x).key = pairV x.1 from rfl, ofV_pair]
    by_cases hid : x.1.id = id
    · repeat' (first|refine IOps_nil ?_|refine oS ?_|refine IOps_s rfl rfl ?_|refine oT ?_|refine IOps_s0 rfl ?_|refine oZ ?_|refine oI ?_|refine oAB ?_|refine thenI_n ?_|refine IWP_seq ?_|refine IWP_region ?_|refine IWP_ct rfl ?_|refine IWP_cf rfl ?_|refine IWP_skip ?_|refine IWP_ret ?_|refine IWP_block ?_|refine inB_n ?_|refine thenI_r ?_|refine thenI_e ?_|refine inB_r ?_|refine inB_hit ?_|refine inB_miss rfl ?_|refine IWP_exit ?_|refine IWP_scope ?_|refine IWP_label ?_|refine noG_n ?_|refine noG_r ?_|refine noG_e ?_|refine jmp_n ?_|refine jmp_r ?_|refine jmp_e ?_|refine jmp_g ?_|refine thenI_g ?_|refine inB_g ?_|refine IWP_goto ?_|refine Loop_n ?_|fail)
      obtain ⟨lk, hlk⟩ := pair_key (h.good x hxE)
      refine oMd0 (et := 4) pair_law (kv := pairV x.1) (val_pair x.1) hlk (mpE_keys fun y hy => h.good y (hsubE y hy)) ?_ ?_
      · intro hno
        exact absurd rfl (hno (entP x) he)
      · intro q e hq heq
        obtain ⟨y, hy, rfl⟩ := mpE_get hq
        have hyx : y = x := key_eq hlk' (List.mem_of_getElem? hy) hx (pairV_inj heq)
        subst hyx
        rw [mpE_del, erase_filter hlb hy, leftE_del h.born hxE hid]
        repeat' (first|refine IOps_nil ?_|refine oS ?_|refine IOps_s rfl rfl ?_|refine oT ?_|refine IOps_s0 rfl ?_|refine oZ ?_|refine oI ?_|refine oAB ?_|refine thenI_n ?_|refine IWP_seq ?_|refine IWP_region ?_|refine IWP_ct rfl ?_|refine IWP_cf rfl ?_|refine IWP_skip ?_|refine IWP_ret ?_|refine IWP_block ?_|refine inB_n ?_|refine thenI_r ?_|refine thenI_e ?_|refine inB_r ?_|refine inB_hit ?_|refine inB_miss rfl ?_|refine IWP_exit ?_|refine IWP_scope ?_|refine IWP_label ?_|refine noG_n ?_|refine noG_r ?_|refine noG_e ?_|refine jmp_n ?_|refine jmp_r ?_|refine jmp_e ?_|refine jmp_g ?_|refine thenI_g ?_|refine inB_g ?_|refine IWP_goto ?_|refine Loop_n ?_|fail)
        exact ⟨s.push y.2, ⟨hnd2, hsub2⟩, by omega, lP [0, 1] (h3 := by rw [Array.toList_push]; rfl)⟩
    · have hsame := leftE_same (s := s.toList) h.born hxE hid
      repeat' (first|refine IOps_nil ?_|refine oS ?_|refine IOps_s rfl rfl ?_|refine oT ?_|refine IOps_s0 rfl ?_|refine oZ ?_|refine oI ?_|refine oAB ?_|refine thenI_n ?_|refine IWP_seq ?_|refine IWP_region ?_|refine IWP_ct rfl ?_|refine IWP_cf rfl ?_|refine IWP_skip ?_|refine IWP_ret ?_|refine IWP_block ?_|refine inB_n ?_|refine thenI_r ?_|refine thenI_e ?_|refine inB_r ?_|refine inB_hit ?_|refine inB_miss rfl ?_|refine IWP_exit ?_|refine IWP_scope ?_|refine IWP_label ?_|refine noG_n ?_|refine noG_r ?_|refine noG_e ?_|refine jmp_n ?_|refine jmp_r ?_|refine jmp_e ?_|refine jmp_g ?_|refine thenI_g ?_|refine inB_g ?_|refine IWP_goto ?_|refine Loop_n ?_|fail)
      exact ⟨s.push x.2, ⟨hnd2, hsub2⟩, by omega, lP [0, 1] (h3 := by rw [Array.toList_push, hsame]; rfl)⟩
end Go.Proofs.Ytmgcoopmbohkoaa

namespace Go.Proofs.Ytmgcoopmbohkoaa
open Go Go.Idl
set_option linter.unusedSimpArgs false
set_option linter.unusedVariables false
set_option maxRecDepth 100000
set_option maxHeartbeats 8000000
theorem nodup_of_map {α β : Type} {f : α → β} {l : List α} (h : (l.map f).Nodup) : l.Nodup := (List.pairwise_map.1 h).imp fun h e => h (congrArg f e)
def leP (a b : Pr) : Bool := decide (¬ cP b a < 0)
def srtP (l : List Pr) : List Pr := l.mergeSort leP
theorem leP_trans (a b c : Pr) : leP a b = true → leP b c = true → leP a c = true := fun h k => by
  unfold leP at *
  have h := of_decide_eq_true h; have k := of_decide_eq_true k
  refine decide_eq_true fun e => ?_
  have := cP_ord.trans c b a (decide_eq_false k) (decide_eq_false h)
  rw [decide_eq_true e] at this; cases this
theorem leP_total (a b : Pr) : (leP a b || leP b a) = true := by
  unfold leP
  by_cases h : cP b a < 0
  · have := cP_ord.asym b a (decide_eq_true h)
    rw [decide_eq_true (of_decide_eq_false this), Bool.or_true]
  · rw [decide_eq_true h]; rfl
theorem srtP_perm (l : List Pr) : (srtP l).Perm l := List.mergeSort_perm l leP
theorem srtP_ltp {l : List Pr} (h : l.Nodup) : (srtP l).Pairwise LtP := by
  have h1 := List.pairwise_mergeSort (le := leP) leP_trans leP_total l
  exact srtd_ltp (h1.imp fun h => of_decide_eq_true h) ((srtP_perm l).nodup_iff.2 h)
theorem srtP_uniq {l M : List Pr} (h : M.Perm l) (hl : l.Nodup) (hm : M.Pairwise fun x y => ¬ cP y x < 0) : M = srtP l :=
  sortedP (srtd_ltp hm (h.nodup_iff.2 hl)) (srtP_ltp hl) fun x => (h.trans (srtP_perm l).symm).mem_iff
def gathE (E : List (Pr × Nat)) : List Rw := gathR (srtP (E.map (·.1)))
def joinR : Option (List Rw × Ks × List Int) → List Rw
  | none => []
  | some (I, t, a) => I ++ [⟨t, a⟩]
def gSt (E : List (Pr × Nat)) (c : Nat) (M : List Pr) (x : Option (List Rw × Ks × List Int) × Nat) : St :=
  match x with
  | (none, i) => ⟨65, [(0, .mp 0), (3, .sl 1 0 M.length M.length 2), (21, .sl 1 0 M.length M.length 2), (22, .i64 M.length), (23, .i64 i), (5, .sl 2 0 0 0 2)], [.mp (mpE E) c, .arr true (pairs M), .box []]⟩
  | (some (I, t, a), i) => ⟨65, [(0, .mp 0), (3, .sl 1 0 M.length M.length 2), (21, .sl 1 0 M.length M.length 2), (22, .i64 M.length), (23, .i64 i), (5, .sl 2 0 (I.length + 1) (I.length + 1) 2)],
      [.mp (mpE E) c, .arr true (pairs M), .box (rows true I ++ [.sc (.string ⟨⟨t⟩⟩), .sl 3 0 a.length a.length 1]), .arr true (ints a)]⟩
theorem rb_get {I : List Rw} {x y : IV} {n : Nat} (h : n = I.length) : (rows true I ++ [x, y]).getD (n * 2 + 1) .any = y := by
  have h1 : (rows true I).length = I.length * 2 := rows_length
  rw [List.getD_eq_getElem?_getD, List.getElem?_append_right (by omega), h1, show n * 2 + 1 - I.length * 2 = 1 by omega]; rfl
theorem rb_set {I : List Rw} {x y z : IV} {n : Nat} (h : n = I.length) : (rows true I ++ [x, y]).set (n * 2 + 1) z = rows true I ++ [x, z] := by
  have h1 : (rows true I).length = I.length * 2 := rows_length
  rw [List.set_append_right _ _ (by omega), h1, show n * 2 + 1 - I.length * 2 = 1 by omega]; rfl
theorem renL_app {σ : Nat → Option Nat} : ∀ {a b : List IV}, IV.renL σ (a ++ b) = IV.renL σ a ++ IV.renL σ b
  | [], b => rfl
  | c :: a, b => by simp [IV.renL, renL_app (a := a) (b := b)]
theorem rb_len {I : List Rw} {x y : IV} : (rows true I ++ [x, y]).length = I.length * 2 + 2 := by rw [List.length_append, rows_length]; rfl
attribute [local irreducible] Go.Idl.IWP Go.Idl.IOps Go.Idl.Obl Go.Idl.OpG Go.Idl.thenI Go.Idl.inBlockI Go.Idl.LoopU Go.Idl.noGotoI Go.Idl.jumpI
attribute [local go_sem] List.length_set bl_of bl_no List.drop_length Nat.sub_self getD_set_at rb_get rb_set rb_len Nat.add_sub_cancel
theorem gathered_spec (E : List (Pr × Nat)) (c : Nat) (h : OkE E c) (hn : E.length ≤ 250) : Idl.SpecA Try.prog 45 [.mp 0] [.mp (mpE E) c] (Only (.fz false (rows false (gathE E)) (gathE E).length) [.mp (mpE E) c]) := by
  refine sA Try.func45 Try.ntmps45 ?_
  repeat' (first|refine IOps_nil ?_|refine oS ?_|refine IOps_s rfl rfl ?_|refine oT ?_|refine IOps_s0 rfl ?_|refine oZ ?_|refine oI ?_|refine oAB ?_|refine thenI_n ?_|refine IWP_seq ?_|refine IWP_region ?_|refine IWP_ct rfl ?_|refine IWP_cf rfl ?_|refine IWP_skip ?_|refine IWP_ret ?_|refine IWP_block ?_|refine inB_n ?_|refine thenI_r ?_|refine thenI_e ?_|refine inB_r ?_|refine inB_hit ?_|refine inB_miss rfl ?_|refine IWP_exit ?_|refine IWP_scope ?_|refine IWP_label ?_|refine noG_n ?_|refine noG_r ?_|refine noG_e ?_|refine jmp_n ?_|refine jmp_r ?_|refine jmp_e ?_|refine jmp_g ?_|refine thenI_g ?_|refine inB_g ?_|refine IWP_goto ?_|refine Loop_n ?_|refine oD (id:=11) W45_11 [] O45_11 [_,_,_,_,_,_,_,_,_,_,_,_,_] [_] rfl (by repeat' (first|exact trivial|refine And.intro ?_ ?_|exact bS|exact bX|exact bZ|exact bI|fail)) ?_|refine oD (id:=14) W45_14 [7, 8, 11] O45_14 [_,_,_,_,_,_,_,_,_,_,_,_] [_,_,_,_] rfl (by repeat' (first|exact trivial|refine And.intro ?_ ?_|exact bS|exact bX|exact bZ|exact bI|fail)) ?_|fail)
  refine oMr (kt := 76) (et := 4) ?_
  repeat' (first|refine IOps_nil ?_|refine oS ?_|refine IOps_s rfl rfl ?_|refine oT ?_|refine IOps_s0 rfl ?_|refine oZ ?_|refine oI ?_|refine oAB ?_|refine thenI_n ?_|refine IWP_seq ?_|refine IWP_region ?_|refine IWP_ct rfl ?_|refine IWP_cf rfl ?_|refine IWP_skip ?_|refine IWP_block ?_|refine inB_n ?_|refine thenI_r ?_|refine thenI_e ?_|refine inB_r ?_|refine inB_hit ?_|refine inB_miss rfl ?_|refine IWP_exit ?_|refine IWP_scope ?_|refine IWP_label ?_|refine noG_n ?_|refine noG_r ?_|refine noG_e ?_|refine jmp_n ?_|refine jmp_r ?_|refine jmp_e ?_|refine jmp_g ?_|refine thenI_g ?_|refine inB_g ?_|refine IWP_goto ?_|refine Loop_n ?_|refine oD (id:=11) W45_11 [] O45_11 [_,_,_,_,_,_,_,_,_,_,_,_,_] [_] rfl (by repeat' (first|exact trivial|refine And.intro ?_ ?_|exact bS|exact bX|exact bZ|exact bI|fail)) ?_|refine oD (id:=14) W45_14 [7, 8, 11] O45_14 [_,_,_,_,_,_,_,_,_,_,_,_] [_,_,_,_] rfl (by repeat' (first|exact trivial|refine And.intro ?_ ?_|exact bS|exact bX|exact bZ|exact bI|fail)) ?_|fail)
  refine wV 3 2 ?_
  refine IWP_loop (fun x : List (Pr × Nat) × Array Nat => ⟨65, [(0, .mp 0), (3, .sl 2 0 x.1.length x.1.length 2), (10, .ptr 1 0)], [.mp (mpE E) c, .it 0 c x.2 c, .arr true (pairs (x.1.map (·.1)))]⟩)
    (fun x => x.2.toList = x.1.map (·.2) ∧ (x.1.map (·.2)).Nodup ∧ ∀ y, y ∈ x.1 → y ∈ E) (fun x => E.length - x.1.length) ([], #[]) (lP [0, 1, 2]) ⟨rfl, List.nodup_nil, fun y hy => by cases hy⟩ ?_
  rintro ⟨V, s⟩ ⟨hs, hnd, hsub⟩
  simp only at hs hnd hsub ⊢
  have hVl : V.length ≤ E.length := by
    have := nodup_sub hnd fun n hn => by
      obtain ⟨y, hy, rfl⟩ := List.mem_map.1 hn
      exact List.mem_map.2 ⟨y, hsub y hy, rfl⟩
    simpa using this
  repeat' (first|refine IOps_nil ?_|refine oS ?_|refine IOps_s rfl rfl ?_|refine oT ?_|refine IOps_s0 rfl ?_|refine oZ ?_|refine oI ?_|refine oAB ?_|refine thenI_n ?_|refine IWP_seq ?_|refine IWP_region ?_|refine IWP_ct rfl ?_|refine IWP_cf rfl ?_|refine IWP_skip ?_|refine IWP_ret ?_|refine IWP_block ?_|refine inB_n ?_|refine thenI_r ?_|refine thenI_e ?_|refine inB_r ?_|refine inB_hit ?_|refine inB_miss rfl ?_|refine IWP_exit ?_|refine IWP_scope ?_|refine IWP_label ?_|refine noG_n ?_|refine noG_r ?_|refine noG_e ?_|refine jmp_n ?_|refine jmp_r ?_|refine jmp_e ?_|refine jmp_g ?_|refine thenI_g ?_|refine inB_g ?_|refine IWP_goto ?_|refine Loop_n ?_|refine oD (id:=11) W45_11 [] O45_11 [_,_,_,_,_,_,_,_,_,_,_,_,_] [_] rfl (by repeat' (first|exact trivial|refine And.intro ?_ ?_|exact bS|exact bX|exact bZ|exact bI|fail)) ?_|refine oD (id:=14) W45_14 [7, 8, 11] O45_14 [_,_,_,_,_,_,_,_,_,_,_,_] [_,_,_,_] rfl (by repeat' (first|exact trivial|refine And.intro ?_ ?_|exact bS|exact bX|exact bZ|exact bI|fail)) ?_|fail)
  refine oMn (fun e he => ?_) (Nat.le_refl _) ?_ ?_
  · obtain ⟨x, hx, rfl⟩ := mpE_mem.1 he
    exact h.lt x hx
  · intro hall
    have hVE : V.Perm E := by
      have hVn : V.Nodup := nodup_of_map hnd
      have hEn : E.Nodup := nodup_of_map h.born
      refine (List.perm_ext_iff_of_nodup hVn hEn).2 fun x => ⟨hsub x, fun hx => ?_⟩
      have h1 := Array.mem_toList_iff.2 (hall (entP x) (mpE_mem.2 ⟨x, hx, rfl⟩))
      rw [hs] at h1
      obtain ⟨y, hy, e⟩ := List.mem_map.1 h1
      have := born_eq h.born (hsub y hy) hx e
      subst this; exact hy
    have hKE : (V.map (·.1)).Perm (E.map (·.1)) := hVE.map _
    have hKl : (V.map (·.1)).length = V.length := List.length_map ..
    generalize V.map (·.1) = K at hKE hKl
    rw [← hKl]
    rw [← hKl] at hVl
    repeat' (first|refine IOps_nil ?_|refine oS ?_|refine IOps_s rfl rfl ?_|refine oT ?_|refine IOps_s0 rfl ?_|refine oZ ?_|refine oI ?_|refine oAB ?_|refine thenI_n ?_|refine IWP_seq ?_|refine IWP_region ?_|refine IWP_ct rfl ?_|refine IWP_cf rfl ?_|refine IWP_skip ?_|refine IWP_ret ?_|refine IWP_block ?_|refine inB_n ?_|refine thenI_r ?_|refine thenI_e ?_|refine inB_r ?_|refine inB_hit ?_|refine inB_miss rfl ?_|refine IWP_exit ?_|refine IWP_scope ?_|refine IWP_label ?_|refine noG_n ?_|refine noG_r ?_|refine noG_e ?_|refine jmp_n ?_|refine jmp_r ?_|refine jmp_e ?_|refine jmp_g ?_|refine thenI_g ?_|refine inB_g ?_|refine IWP_goto ?_|refine Loop_n ?_|refine oD (id:=11) W45_11 [] O45_11 [_,_,_,_,_,_,_,_,_,_,_,_,_] [_] rfl (by repeat' (first|exact trivial|refine And.intro ?_ ?_|exact bS|exact bX|exact bZ|exact bI|fail)) ?_|refine oD (id:=14) W45_14 [7, 8, 11] O45_14 [_,_,_,_,_,_,_,_,_,_,_,_] [_,_,_,_] rfl (by repeat' (first|exact trivial|refine And.intro ?_ ?_|exact bS|exact bX|exact bZ|exact bI|fail)) ?_|fail)
    have hsp := dsort_spec (c := cP) (kc := 50) cmpP_spec K K.length cP_ord (by omega)
    refine oE [2] (hs := hsp) (hx := ?_)
    rintro M ⟨hM1, hM2, hM3⟩
    have hME : M = srtP (E.map (·.1)) := srtP_uniq (hM2.trans hKE) h.keys hM3
    have hMG : gathE E = gathR M := by unfold gathE; rw [hME]
    have hMlt : M.Pairwise LtP := by rw [hME]; exact srtP_ltp h.keys
    rw [hMG]
    clear hsp hME hMG hKE hM2 hM3
    rw [← hM1]
    rw [← hM1] at hVl
    repeat' (first|refine IOps_nil ?_|refine oS ?_|refine IOps_s rfl rfl ?_|refine oT ?_|refine IOps_s0 rfl ?_|refine oZ ?_|refine oI ?_|refine oAB ?_|refine thenI_n ?_|refine IWP_seq ?_|refine IWP_region ?_|refine IWP_ct rfl ?_|refine IWP_cf rfl ?_|refine IWP_skip ?_|refine IWP_block ?_|refine inB_n ?_|refine thenI_r ?_|refine thenI_e ?_|refine inB_r ?_|refine inB_hit ?_|refine inB_miss rfl ?_|refine IWP_exit ?_|refine IWP_scope ?_|refine IWP_label ?_|refine noG_n ?_|refine noG_r ?_|refine noG_e ?_|refine jmp_n ?_|refine jmp_r ?_|refine jmp_e ?_|refine jmp_g ?_|refine thenI_g ?_|refine inB_g ?_|refine IWP_goto ?_|refine Loop_n ?_|refine oD (id:=11) W45_11 [] O45_11 [_,_,_,_,_,_,_,_,_,_,_,_,_] [_] rfl (by repeat' (first|exact trivial|refine And.intro ?_ ?_|exact bS|exact bX|exact bZ|exact bI|fail)) ?_|refine oD (id:=14) W45_14 [7, 8, 11] O45_14 [_,_,_,_,_,_,_,_,_,_,_,_] [_,_,_,_] rfl (by repeat' (first|exact trivial|refine And.intro ?_ ?_|exact bS|exact bX|exact bZ|exact bI|fail)) ?_|fail)
    refine wV 5 2 ?_
    refine wAB 3 ?_
    refine IWP_loop (gSt E c M) (fun x => x.2 ≤ M.length ∧ joinR x.1 = gathR (M.take x.2) ∧ (x.1 = none → x.2 = 0) ∧ ∀ I t a, x.1 = some (I, t, a) → 1 ≤ x.2 ∧ (M.getD (x.2 - 1) default).tag = t ∧ a.length ≤ x.2 ∧ I.length + 1 ≤ x.2) (fun x => M.length - x.2) (none, 0)
      (by dsimp only [gSt]; exact lP [0, 2, 3]) ⟨Nat.zero_le _, rfl, fun _ => rfl, fun I t a e => by cases e⟩ ?_
    rintro ⟨_ | ⟨I, t, a⟩, i⟩ ⟨hi, hj, hnone, hsome⟩
    · obtain rfl : i = 0 := hnone rfl
      dsimp only [gSt]
      by_cases h0 : 0 < M.length
      · repeat' (first|refine IOps_nil ?_|refine oS ?_|refine IOps_s rfl rfl ?_|refine oT ?_|refine IOps_s0 rfl ?_|refine oZ ?_|refine oI ?_|refine oAB ?_|refine thenI_n ?_|refine IWP_seq ?_|refine IWP_region ?_|refine IWP_ct rfl ?_|refine IWP_cf rfl ?_|refine IWP_skip ?_|refine IWP_ret ?_|refine IWP_block ?_|refine inB_n ?_|refine thenI_r ?_|refine thenI_e ?_|refine inB_r ?_|refine inB_hit ?_|refine inB_miss rfl ?_|refine IWP_exit ?_|refine IWP_scope ?_|refine IWP_label ?_|refine noG_n ?_|refine noG_r ?_|refine noG_e ?_|refine jmp_n ?_|refine jmp_r ?_|refine jmp_e ?_|refine jmp_g ?_|refine thenI_g ?_|refine inB_g ?_|refine IWP_goto ?_|refine Loop_n ?_|refine oD (id:=11) W45_11 [] O45_11 [_,_,_,_,_,_,_,_,_,_,_,_,_] [_] rfl (by repeat' (first|exact trivial|refine And.intro ?_ ?_|exact bS|exact bX|exact bZ|exact bI|fail)) ?_|refine oD (id:=14) W45_14 [7, 8, 11] O45_14 [_,_,_,_,_,_,_,_,_,_,_,_] [_,_,_,_] rfl (by repeat' (first|exact trivial|refine And.intro ?_ ?_|exact bS|exact bX|exact bZ|exact bI|fail)) ?_|fail)
        refine oD (id := 14) W45_14 [7, 8, 11] O45_14 [_, _, _, _, _, _, _, (.sl 6 0 1 1 1), (.sl 7 0 1 1 1), _, _, _] [_, _, _, _] rfl (by repeat' (first | exact trivial | refine And.intro ?_ ?_ | exact bS | exact bX | exact bZ | exact bI | fail)) ?_
        repeat' (first|refine IOps_nil ?_|refine oS ?_|refine IOps_s rfl rfl ?_|refine oT ?_|refine IOps_s0 rfl ?_|refine oZ ?_|refine oI ?_|refine oAB ?_|refine thenI_n ?_|refine IWP_seq ?_|refine IWP_region ?_|refine IWP_ct rfl ?_|refine IWP_cf rfl ?_|refine IWP_skip ?_|refine IWP_ret ?_|refine IWP_block ?_|refine inB_n ?_|refine thenI_r ?_|refine thenI_e ?_|refine inB_r ?_|refine inB_hit ?_|refine inB_miss rfl ?_|refine IWP_exit ?_|refine IWP_scope ?_|refine IWP_label ?_|refine noG_n ?_|refine noG_r ?_|refine noG_e ?_|refine jmp_n ?_|refine jmp_r ?_|refine jmp_e ?_|refine jmp_g ?_|refine thenI_g ?_|refine inB_g ?_|refine IWP_goto ?_|refine Loop_n ?_|refine oD (id:=11) W45_11 [] O45_11 [_,_,_,_,_,_,_,_,_,_,_,_,_] [_] rfl (by repeat' (first|exact trivial|refine And.intro ?_ ?_|exact bS|exact bX|exact bZ|exact bI|fail)) ?_|refine oD (id:=14) W45_14 [7, 8, 11] O45_14 [_,_,_,_,_,_,_,_,_,_,_,_] [_,_,_,_] rfl (by repeat' (first|exact trivial|refine And.intro ?_ ?_|exact bS|exact bX|exact bZ|exact bI|fail)) ?_|fail)
        have hg := gath_take h0
        refine ⟨(some ([], (M.getD 0 default).tag, [(M.getD 0 default).id]), 1), ⟨h0, hg.symm, (fun e => by cases e), fun I t a e => by cases e; exact ⟨Nat.le_refl _, rfl, Nat.le_refl _, Nat.le_refl _⟩⟩, by simp only; omega, ?_⟩
        dsimp only [gSt]
        exact lP [0, 1, 5, 7]
      · have hM0 : M = [] := List.length_eq_zero_iff.1 (by omega)
        subst hM0
        refine wBA 2 ?_
        repeat' (first|refine IOps_nil ?_|refine oS ?_|refine IOps_s rfl rfl ?_|refine oT ?_|refine IOps_s0 rfl ?_|refine oZ ?_|refine oI ?_|refine oAB ?_|refine thenI_n ?_|refine IWP_seq ?_|refine IWP_region ?_|refine IWP_ct rfl ?_|refine IWP_cf rfl ?_|refine IWP_skip ?_|refine IWP_block ?_|refine inB_n ?_|refine thenI_r ?_|refine thenI_e ?_|refine inB_r ?_|refine inB_hit ?_|refine inB_miss rfl ?_|refine IWP_exit ?_|refine IWP_scope ?_|refine IWP_label ?_|refine noG_n ?_|refine noG_r ?_|refine noG_e ?_|refine jmp_n ?_|refine jmp_r ?_|refine jmp_e ?_|refine jmp_g ?_|refine thenI_g ?_|refine inB_g ?_|refine IWP_goto ?_|refine Loop_n ?_|refine oD (id:=11) W45_11 [] O45_11 [_,_,_,_,_,_,_,_,_,_,_,_,_] [_] rfl (by repeat' (first|exact trivial|refine And.intro ?_ ?_|exact bS|exact bX|exact bZ|exact bI|fail)) ?_|refine oD (id:=14) W45_14 [7, 8, 11] O45_14 [_,_,_,_,_,_,_,_,_,_,_,_] [_,_,_,_] rfl (by repeat' (first|exact trivial|refine And.intro ?_ ?_|exact bS|exact bX|exact bZ|exact bI|fail)) ?_|fail)
        refine wF 2 ?_
        repeat' (first|refine IOps_nil ?_|refine oS ?_|refine IOps_s rfl rfl ?_|refine oT ?_|refine IOps_s0 rfl ?_|refine oZ ?_|refine oI ?_|refine oAB ?_|refine thenI_n ?_|refine IWP_seq ?_|refine IWP_region ?_|refine IWP_ct rfl ?_|refine IWP_cf rfl ?_|refine IWP_skip ?_|refine IWP_ret ?_|refine IWP_block ?_|refine inB_n ?_|refine thenI_r ?_|refine thenI_e ?_|refine inB_r ?_|refine inB_hit ?_|refine inB_miss rfl ?_|refine IWP_exit ?_|refine IWP_scope ?_|refine IWP_label ?_|refine noG_n ?_|refine noG_r ?_|refine noG_e ?_|refine jmp_n ?_|refine jmp_r ?_|refine jmp_e ?_|refine jmp_g ?_|refine thenI_g ?_|refine inB_g ?_|refine IWP_goto ?_|refine Loop_n ?_|refine oD (id:=11) W45_11 [] O45_11 [_,_,_,_,_,_,_,_,_,_,_,_,_] [_] rfl (by repeat' (first|exact trivial|refine And.intro ?_ ?_|exact bS|exact bX|exact bZ|exact bI|fail)) ?_|refine oD (id:=14) W45_14 [7, 8, 11] O45_14 [_,_,_,_,_,_,_,_,_,_,_,_] [_,_,_,_] rfl (by repeat' (first|exact trivial|refine And.intro ?_ ?_|exact bS|exact bX|exact bZ|exact bI|fail)) ?_|fail)
        exact pA [0]
    · obtain ⟨hi1, htag, hal, hIl⟩ := hsome I t a rfl
      replace htag : (M.getD (i - 1) default).tag = t := htag
      replace hi1 : 1 ≤ i := hi1
      replace hi : i ≤ M.length := hi
      dsimp only [gSt]
      by_cases h1 : i < M.length
      · have hg := gath_take h1
        have hj : I ++ [⟨t, a⟩] = gathR (M.take i) := hj
        rw [← hj] at hg
        have hal : a.length ≤ i := hal
        have hIl : I.length + 1 ≤ i := hIl
        by_cases hsame : t = (M.getD i default).tag
        · have hEq : (M.getD (i - 1) default).tag = (M.getD i default).tag := htag.trans hsame
          rw [stepG_eq I (r := ⟨t, a⟩) hsame] at hg
          repeat' (first|refine IOps_nil ?_|refine oS ?_|refine IOps_s rfl rfl ?_|refine oT ?_|refine IOps_s0 rfl ?_|refine oZ ?_|refine oI ?_|refine oAB ?_|refine thenI_n ?_|refine IWP_seq ?_|refine IWP_region ?_|refine IWP_ct rfl ?_|refine IWP_cf rfl ?_|refine IWP_skip ?_|refine IWP_ret ?_|refine IWP_block ?_|refine inB_n ?_|refine thenI_r ?_|refine thenI_e ?_|refine inB_r ?_|refine inB_hit ?_|refine inB_miss rfl ?_|refine IWP_exit ?_|refine IWP_scope ?_|refine IWP_label ?_|refine noG_n ?_|refine noG_r ?_|refine noG_e ?_|refine jmp_n ?_|refine jmp_r ?_|refine jmp_e ?_|refine jmp_g ?_|refine thenI_g ?_|refine inB_g ?_|refine IWP_goto ?_|refine Loop_n ?_|refine oD (id:=11) W45_11 [] O45_11 [_,_,_,_,_,_,_,_,_,_,_,_,_] [_] rfl (by repeat' (first|exact trivial|refine And.intro ?_ ?_|exact bS|exact bX|exact bZ|exact bI|fail)) ?_|refine oD (id:=14) W45_14 [7, 8, 11] O45_14 [_,_,_,_,_,_,_,_,_,_,_,_] [_,_,_,_] rfl (by repeat' (first|exact trivial|refine And.intro ?_ ?_|exact bS|exact bX|exact bZ|exact bI|fail)) ?_|fail)
          refine oD (id := 14) W45_14 [7, 8, 11] O45_14 [_, _, _, _, _, _, _, (.sl 5 0 1 1 1), (.sl 6 0 (a.length + 1) (a.length + 1) 1), _, _, _] [_, _, _, _] rfl (by repeat' (first | exact trivial | refine And.intro ?_ ?_ | exact bS | exact bX | exact bZ | exact bI | fail)) ?_
          repeat' (first|refine IOps_nil ?_|refine oS ?_|refine IOps_s rfl rfl ?_|refine oT ?_|refine IOps_s0 rfl ?_|refine oZ ?_|refine oI ?_|refine oAB ?_|refine thenI_n ?_|refine IWP_seq ?_|refine IWP_region ?_|refine IWP_ct rfl ?_|refine IWP_cf rfl ?_|refine IWP_skip ?_|refine IWP_ret ?_|refine IWP_block ?_|refine inB_n ?_|refine thenI_r ?_|refine thenI_e ?_|refine inB_r ?_|refine inB_hit ?_|refine inB_miss rfl ?_|refine IWP_exit ?_|refine IWP_scope ?_|refine IWP_label ?_|refine noG_n ?_|refine noG_r ?_|refine noG_e ?_|refine jmp_n ?_|refine jmp_r ?_|refine jmp_e ?_|refine jmp_g ?_|refine thenI_g ?_|refine inB_g ?_|refine IWP_goto ?_|refine Loop_n ?_|refine oD (id:=11) W45_11 [] O45_11 [_,_,_,_,_,_,_,_,_,_,_,_,_] [_] rfl (by repeat' (first|exact trivial|refine And.intro ?_ ?_|exact bS|exact bX|exact bZ|exact bI|fail)) ?_|refine oD (id:=14) W45_14 [7, 8, 11] O45_14 [_,_,_,_,_,_,_,_,_,_,_,_] [_,_,_,_] rfl (by repeat' (first|exact trivial|refine And.intro ?_ ?_|exact bS|exact bX|exact bZ|exact bI|fail)) ?_|fail)
          refine ⟨(some (I, t, a ++ [(M.getD i default).id]), i + 1), ⟨h1, hg.symm, (fun e => by cases e), fun I' t' a' e => by cases e; exact ⟨by simp only; omega, hsame.symm, by simp only [List.length_append, List.length_cons, List.length_nil]; omega, by simp only; omega⟩⟩, by simp only; omega, ?_⟩
          dsimp only [gSt]
          exact lQ [0, 1, 2, 6] (h3 := by simp only [renL_app, rows_ren, List.length_append, List.length_cons, List.length_nil]; rfl)
        · have hEq : ¬ (M.getD (i - 1) default).tag = (M.getD i default).tag := fun e => hsame (htag.symm.trans e)
          rw [stepG_ne I (r := ⟨t, a⟩) hsame] at hg
          have hIl2 : (I ++ [(⟨t, a⟩ : Rw)]).length = I.length + 1 := by simp
          refine wBx 2 (rows true I ++ [.sc (.string ⟨⟨t⟩⟩)]) [] (n := 3) (off := 0) (len := a.length) (cap := a.length) (esz := 1) (cs' := ints a) (bs := rows true I ++ [.sc (.string ⟨⟨t⟩⟩), .sl 3 0 a.length a.length 1]) ?_ (by simp) (bs' := rows true (I ++ [⟨t, a⟩])) (by rw [← rows_app, List.append_assoc]; rfl)
          repeat' (first|refine IOps_nil ?_|refine oS ?_|refine IOps_s rfl rfl ?_|refine oT ?_|refine IOps_s0 rfl ?_|refine oZ ?_|refine oI ?_|refine oAB ?_|refine thenI_n ?_|refine IWP_seq ?_|refine IWP_region ?_|refine IWP_ct rfl ?_|refine IWP_cf rfl ?_|refine IWP_skip ?_|refine IWP_ret ?_|refine IWP_block ?_|refine inB_n ?_|refine thenI_r ?_|refine thenI_e ?_|refine inB_r ?_|refine inB_hit ?_|refine inB_miss rfl ?_|refine IWP_exit ?_|refine IWP_scope ?_|refine IWP_label ?_|refine noG_n ?_|refine noG_r ?_|refine noG_e ?_|refine jmp_n ?_|refine jmp_r ?_|refine jmp_e ?_|refine jmp_g ?_|refine thenI_g ?_|refine inB_g ?_|refine IWP_goto ?_|refine Loop_n ?_|refine oD (id:=11) W45_11 [] O45_11 [_,_,_,_,_,_,_,_,_,_,_,_,_] [_] rfl (by repeat' (first|exact trivial|refine And.intro ?_ ?_|exact bS|exact bX|exact bZ|exact bI|fail)) ?_|refine oD (id:=14) W45_14 [7, 8, 11] O45_14 [_,_,_,_,_,_,_,_,_,_,_,_] [_,_,_,_] rfl (by repeat' (first|exact trivial|refine And.intro ?_ ?_|exact bS|exact bX|exact bZ|exact bI|fail)) ?_|fail)
          refine oD (id := 14) W45_14 [7, 8, 11] O45_14 [_, _, _, _, _, _, _, (.sl 7 0 1 1 1), (.sl 8 0 1 1 1), _, _, _] [_, _, _, _] rfl (by repeat' (first | exact trivial | refine And.intro ?_ ?_ | exact bS | exact bX | exact bZ | exact bI | fail)) ?_
          repeat' (first|refine IOps_nil ?_|refine oS ?_|refine IOps_s rfl rfl ?_|refine oT ?_|refine IOps_s0 rfl ?_|refine oZ ?_|refine oI ?_|refine oAB ?_|refine thenI_n ?_|refine IWP_seq ?_|refine IWP_region ?_|refine IWP_ct rfl ?_|refine IWP_cf rfl ?_|refine IWP_skip ?_|refine IWP_ret ?_|refine IWP_block ?_|refine inB_n ?_|refine thenI_r ?_|refine thenI_e ?_|refine inB_r ?_|refine inB_hit ?_|refine inB_miss rfl ?_|refine IWP_exit ?_|refine IWP_scope ?_|refine IWP_label ?_|refine noG_n ?_|refine noG_r ?_|refine noG_e ?_|refine jmp_n ?_|refine jmp_r ?_|refine jmp_e ?_|refine jmp_g ?_|refine thenI_g ?_|refine inB_g ?_|refine IWP_goto ?_|refine Loop_n ?_|refine oD (id:=11) W45_11 [] O45_11 [_,_,_,_,_,_,_,_,_,_,_,_,_] [_] rfl (by repeat' (first|exact trivial|refine And.intro ?_ ?_|exact bS|exact bX|exact bZ|exact bI|fail)) ?_|refine oD (id:=14) W45_14 [7, 8, 11] O45_14 [_,_,_,_,_,_,_,_,_,_,_,_] [_,_,_,_] rfl (by repeat' (first|exact trivial|refine And.intro ?_ ?_|exact bS|exact bX|exact bZ|exact bI|fail)) ?_|fail)
          refine ⟨(some (I ++ [(⟨t, a⟩ : Rw)], (M.getD i default).tag, [(M.getD i default).id]), i + 1), ⟨h1, hg.symm, (fun e => by cases e), fun I' t' a' e => by cases e; exact ⟨by simp only; omega, rfl, by simp, by rw [hIl2]; simp only; omega⟩⟩, by simp only; omega, ?_⟩
          dsimp only [gSt]
          exact lQ [0, 1, 6, 8] (h3 := by simp only [renL_app, rows_ren, List.length_append, List.length_cons, List.length_nil]; rfl)
      · obtain rfl : i = M.length := by omega
        have hj : I ++ [⟨t, a⟩] = gathR (M.take M.length) := hj
        rw [List.take_length] at hj
        have hIl2 : (I ++ [(⟨t, a⟩ : Rw)]).length = I.length + 1 := by simp
        refine wBx 2 (rows true I ++ [.sc (.string ⟨⟨t⟩⟩)]) [] (n := 3) (off := 0) (len := a.length) (cap := a.length) (esz := 1) (cs' := ints a) (bs := rows true I ++ [.sc (.string ⟨⟨t⟩⟩), .sl 3 0 a.length a.length 1]) ?_ (by simp) (bs' := rows true (I ++ [⟨t, a⟩])) (by rw [← rows_app, List.append_assoc]; rfl)
        refine wBA 2 ?_
        rw [← hj]
        repeat' (first|refine IOps_nil ?_|refine oS ?_|refine IOps_s rfl rfl ?_|refine oT ?_|refine IOps_s0 rfl ?_|refine oZ ?_|refine oI ?_|refine oAB ?_|refine thenI_n ?_|refine IWP_seq ?_|refine IWP_region ?_|refine IWP_ct rfl ?_|refine IWP_cf rfl ?_|refine IWP_skip ?_|refine IWP_block ?_|refine inB_n ?_|refine thenI_r ?_|refine thenI_e ?_|refine inB_r ?_|refine inB_hit ?_|refine inB_miss rfl ?_|refine IWP_exit ?_|refine IWP_scope ?_|refine IWP_label ?_|refine noG_n ?_|refine noG_r ?_|refine noG_e ?_|refine jmp_n ?_|refine jmp_r ?_|refine jmp_e ?_|refine jmp_g ?_|refine thenI_g ?_|refine inB_g ?_|refine IWP_goto ?_|refine Loop_n ?_|refine oD (id:=11) W45_11 [] O45_11 [_,_,_,_,_,_,_,_,_,_,_,_,_] [_] rfl (by repeat' (first|exact trivial|refine And.intro ?_ ?_|exact bS|exact bX|exact bZ|exact bI|fail)) ?_|refine oD (id:=14) W45_14 [7, 8, 11] O45_14 [_,_,_,_,_,_,_,_,_,_,_,_] [_,_,_,_] rfl (by repeat' (first|exact trivial|refine And.intro ?_ ?_|exact bS|exact bX|exact bZ|exact bI|fail)) ?_|fail)
        refine wF 2 ?_
        repeat' (first|refine IOps_nil ?_|refine oS ?_|refine IOps_s rfl rfl ?_|refine oT ?_|refine IOps_s0 rfl ?_|refine oZ ?_|refine oI ?_|refine oAB ?_|refine thenI_n ?_|refine IWP_seq ?_|refine IWP_region ?_|refine IWP_ct rfl ?_|refine IWP_cf rfl ?_|refine IWP_skip ?_|refine IWP_ret ?_|refine IWP_block ?_|refine inB_n ?_|refine thenI_r ?_|refine thenI_e ?_|refine inB_r ?_|refine inB_hit ?_|refine inB_miss rfl ?_|refine IWP_exit ?_|refine IWP_scope ?_|refine IWP_label ?_|refine noG_n ?_|refine noG_r ?_|refine noG_e ?_|refine jmp_n ?_|refine jmp_r ?_|refine jmp_e ?_|refine jmp_g ?_|refine thenI_g ?_|refine inB_g ?_|refine IWP_goto ?_|refine Loop_n ?_|refine oD (id:=11) W45_11 [] O45_11 [_,_,_,_,_,_,_,_,_,_,_,_,_] [_] rfl (by repeat' (first|exact trivial|refine And.intro ?_ ?_|exact bS|exact bX|exact bZ|exact bI|fail)) ?_|refine oD (id:=14) W45_14 [7, 8, 11] O45_14 [_,_,_,_,_,_,_,_,_,_,_,_] [_,_,_,_] rfl (by repeat' (first|exact trivial|refine And.intro ?_ ?_|exact bS|exact bX|exact bZ|exact bI|fail)) ?_|fail)
        exact pA [0]
  · intro e he hns
    obtain ⟨x, hx, rfl⟩ := mpE_mem.1 he
    have hns' : x.2 ∉ V.map (·.2) := fun q => hns (by rw [← hs] at q; exact Array.mem_toList_iff.1 q)
    have hnd2 : ((V ++ [x]).map (·.2)).Nodup := by
      rw [List.map_append, List.nodup_append]
      exact ⟨hnd, by simp, fun a ha b hb' e => by simp at hb'; subst hb'; subst e; exact hns' ha⟩
    have hsub2 : ∀ y, y ∈ V ++ [x] → y ∈ E := fun y hy => by
      rcases List.mem_append.1 hy with hy | hy
      · exact hsub y hy
      · simp only [List.mem_singleton] at hy; subst hy; exact hx
    have hVl2 : (V ++ [x]).length ≤ E.length := by
      have := nodup_sub hnd2 fun n hn => by
        obtain ⟨y, hy, rfl⟩ := List.mem_map.1 hn
        exact List.mem_map.2 ⟨y, hsub2 y hy, rfl⟩
      simpa using this
    have hVl3 : V.length + 1 ≤ E.length := by simpa using hVl2
    rw [show (entP x).born = x.2 from rfl]
    repeat' (first|refine IOps_nil ?_|refine oS ?_|refine IOps_s rfl rfl ?_|refine oT ?_|refine IOps_s0 rfl ?_|refine oZ ?_|refine oI ?_|refine oAB ?_|refine thenI_n ?_|refine IWP_seq ?_|refine IWP_region ?_|refine IWP_ct rfl ?_|refine IWP_cf rfl ?_|refine IWP_skip ?_|refine IWP_ret ?_|refine IWP_block ?_|refine inB_n ?_|refine thenI_r ?_|refine thenI_e ?_|refine inB_r ?_|refine inB_hit ?_|refine inB_miss rfl ?_|refine IWP_exit ?_|refine IWP_scope ?_|refine IWP_label ?_|refine noG_n ?_|refine noG_r ?_|refine noG_e ?_|refine jmp_n ?_|refine jmp_r ?_|refine jmp_e ?_|refine jmp_g ?_|refine thenI_g ?_|refine inB_g ?_|refine IWP_goto ?_|refine Loop_n ?_|refine oD (id:=11) W45_11 [] O45_11 [_,_,_,_,_,_,_,_,_,_,_,_,_] [_] rfl (by repeat' (first|exact trivial|refine And.intro ?_ ?_|exact bS|exact bX|exact bZ|exact bI|fail)) ?_|refine oD (id:=14) W45_14 [7, 8, 11] O45_14 [_,_,_,_,_,_,_,_,_,_,_,_] [_,_,_,_] rfl (by repeat' (first|exact trivial|refine And.intro ?_ ?_|exact bS|exact bX|exact bZ|exact bI|fail)) ?_|fail)
    refine oMe he (mpE_born h.born) ?_
    rw [show (entP x).key = pairV x.1 from rfl, ofV_pair]
    have hKl : (V.map (·.1)).length = V.length := List.length_map ..
    repeat' (first|refine IOps_nil ?_|refine oS ?_|refine IOps_s rfl rfl ?_|refine oT ?_|refine IOps_s0 rfl ?_|refine oZ ?_|refine oI ?_|refine oAB ?_|refine thenI_n ?_|refine IWP_seq ?_|refine IWP_region ?_|refine IWP_ct rfl ?_|refine IWP_cf rfl ?_|refine IWP_skip ?_|refine IWP_ret ?_|refine IWP_block ?_|refine inB_n ?_|refine thenI_r ?_|refine thenI_e ?_|refine inB_r ?_|refine inB_hit ?_|refine inB_miss rfl ?_|refine IWP_exit ?_|refine IWP_scope ?_|refine IWP_label ?_|refine noG_n ?_|refine noG_r ?_|refine noG_e ?_|refine jmp_n ?_|refine jmp_r ?_|refine jmp_e ?_|refine jmp_g ?_|refine thenI_g ?_|refine inB_g ?_|refine IWP_goto ?_|refine Loop_n ?_|refine oD (id:=11) W45_11 [] O45_11 [_,_,_,_,_,_,_,_,_,_,_,_,_] [_] rfl (by repeat' (first|exact trivial|refine And.intro ?_ ?_|exact bS|exact bX|exact bZ|exact bI|fail)) ?_|refine oD (id:=14) W45_14 [7, 8, 11] O45_14 [_,_,_,_,_,_,_,_,_,_,_,_] [_,_,_,_] rfl (by repeat' (first|exact trivial|refine And.intro ?_ ?_|exact bS|exact bX|exact bZ|exact bI|fail)) ?_|fail)
    exact ⟨(V ++ [x], s.push x.2), ⟨by rw [Array.toList_push, hs]; simp, hnd2, hsub2⟩, by simp only [List.length_append, List.length_cons, List.length_nil]; omega, lP [0, 1, 5] (h3 := by simp only [List.map_append]; rfl)⟩
end Go.Proofs.Ytmgcoopmbohkoaa

namespace Go.Proofs.Ytmgcoopmbohkoaa
open Go Go.Idl
set_option linter.unusedSimpArgs false
set_option linter.unusedVariables false
set_option maxRecDepth 100000
set_option maxHeartbeats 8000000
theorem count_len : ∀ (n : Nat) (L : List Int), (∀ x, x ∈ L → 0 ≤ x ∧ x < n) → (∀ x : Int, 0 ≤ x → x < n → L.count x ≤ 3) → L.length ≤ 3 * n
  | 0, L, h, _ => by
    have : L = [] := List.eq_nil_iff_forall_not_mem.2 fun x hx => by have := h x hx; omega
    simp [this]
  | n + 1, L, h, k => by
    have ih := count_len n (L.filter fun x => decide (x ≠ (n : Int))) (fun x hx => by
      obtain ⟨h1, h2⟩ := List.mem_filter.1 hx
      have := h x h1
      have h2 : x ≠ (n : Int) := of_decide_eq_true h2
      omega) (fun x h0 h1 => Nat.le_trans (List.filter_sublist.count_le x) (k x h0 (by omega)))
    have hc := k n (by omega) (by omega)
    have e : L.length = (L.filter fun x => decide (x ≠ (n : Int))).length + L.count (n : Int) := by
      clear ih hc h k
      induction L with
      | nil => rfl
      | cons a L ih =>
        by_cases ha : a = (n : Int)
        · subst ha; simp [ih]; omega
        · rw [List.filter_cons, if_pos (decide_eq_true ha), List.length_cons, List.length_cons, List.count_cons_of_ne (Ne.symm ha).symm, ih]
          omega
    omega
theorem flat_len (l : List Rw) : (flat l).length = (allIds l).length := by
  induction l with
  | nil => rfl
  | cons r l ih =>
    rw [show flat (r :: l) = flat [r] ++ flat l from flat_app [r] l, show allIds (r :: l) = allIds [r] ++ allIds l from allIds_app [r] l, List.length_append, List.length_append, ih, flat_one]
    simp [allIds]
theorem flat_few {l : List Rw} (h : OkR l) : (flat l).length ≤ 192 := by
  rw [flat_len]
  exact count_len 64 (allIds l) (fun x hx => by
    obtain ⟨r, hr, hx⟩ := List.mem_flatMap.1 hx
    have := h.nm r hr x hx
    exact ⟨this.1, this.2⟩) fun x h0 h1 => h.few x ⟨h0, h1⟩
theorem num_ok {l : List Rw} (h : OkR l) : OkE (num (flat l)) (flat l).length := by
  refine ⟨fun x hx => good_flat h (num_mem hx), ?_, num_born _, fun x hx => num_lt hx⟩
  rw [num_fst]
  exact (flat_srt h.can).imp fun {a b} k e => by subst e; exact LtP.irrefl _ k
theorem forg_ok {E : List (Pr × Nat)} {c : Nat} (h : OkE E c) (id : Int) : OkE (forgE E id) c :=
  ⟨fun x hx => h.good x (List.mem_filter.1 hx).1, h.keys.sublist (List.filter_sublist.map _), h.born.sublist (List.filter_sublist.map _), fun x hx => h.lt x (List.mem_filter.1 hx).1⟩
theorem forg_len (E : List (Pr × Nat)) (id : Int) : (forgE E id).length ≤ E.length := List.length_filter_le _ _
theorem forg_mem {E : List (Pr × Nat)} {id : Int} {p : Pr} : p ∈ (forgE E id).map (·.1) ↔ p ∈ E.map (·.1) ∧ p.id ≠ id := by
  unfold forgE
  constructor
  · intro h
    obtain ⟨x, hx, rfl⟩ := List.mem_map.1 h
    obtain ⟨h1, h2⟩ := List.mem_filter.1 hx
    exact ⟨List.mem_map.2 ⟨x, h1, rfl⟩, of_decide_eq_true h2⟩
  · rintro ⟨h, k⟩
    obtain ⟨x, hx, rfl⟩ := List.mem_map.1 h
    exact List.mem_map.2 ⟨x, List.mem_filter.2 ⟨hx, decide_eq_true k⟩, rfl⟩
def numT (c : Nat) (T : List Ks) (id : Int) : List (Pr × Nat) := (T.zipIdx c).map fun x => (⟨x.1, id⟩, x.2)
theorem numT_snoc (c : Nat) (T : List Ks) (id : Int) (t : Ks) : numT c (T ++ [t]) id = numT c T id ++ [(⟨t, id⟩, c + T.length)] := by simp [numT, List.zipIdx_append]
theorem numT_fst (c : Nat) (T : List Ks) (id : Int) : (numT c T id).map (·.1) = T.map fun t => (⟨t, id⟩ : Pr) := by
  unfold numT
  rw [List.map_map]
  have : (T.zipIdx c).map (fun x => (⟨x.1, id⟩ : Pr)) = ((T.zipIdx c).map (·.1)).map fun t => (⟨t, id⟩ : Pr) := by rw [List.map_map]; rfl
  show (T.zipIdx c).map (fun x => (⟨x.1, id⟩ : Pr)) = _
  rw [this]; simp
theorem numT_snd (c : Nat) (T : List Ks) (id : Int) : (numT c T id).map (·.2) = List.range' c T.length := by
  unfold numT
  rw [List.map_map]
  show (T.zipIdx c).map (fun x => x.2) = _
  simp
theorem numT_len (c : Nat) (T : List Ks) (id : Int) : (numT c T id).length = T.length := by simp [numT]
theorem add_ok {E : List (Pr × Nat)} {c : Nat} (h : OkE E c) {T : List Ks} {id : Int} (hid : nmd id) (hT : ∀ t, t ∈ T → t.length ≤ 1000000) (hn : T.Nodup) (hno : ∀ p, p ∈ E.map (·.1) → p.id ≠ id) : OkE (E ++ numT c T id) (c + T.length) := by
  refine ⟨fun x hx => ?_, ?_, ?_, fun x hx => ?_⟩
  · rcases List.mem_append.1 hx with hx | hx
    · exact h.good x hx
    · have : x.1 ∈ (numT c T id).map (·.1) := List.mem_map.2 ⟨x, hx, rfl⟩
      rw [numT_fst] at this
      obtain ⟨t, ht, e⟩ := List.mem_map.1 this
      rw [← e]
      exact ⟨hT t ht, hid⟩
  · rw [List.map_append, numT_fst, List.nodup_append]
    refine ⟨h.keys, ?_, fun a ha b hb e => ?_⟩
    · exact List.pairwise_map.2 (hn.imp fun {a b} k e => k (congrArg Pr.tag e))
    · obtain ⟨t, ht, rfl⟩ := List.mem_map.1 hb
      subst e
      exact hno _ ha rfl
  · rw [List.map_append, numT_snd, List.nodup_append]
    refine ⟨h.born, List.nodup_range', fun a ha b hb e => ?_⟩
    obtain ⟨x, hx, rfl⟩ := List.mem_map.1 ha
    have := h.lt x hx
    have := (List.mem_range'_1.1 hb).1
    omega
  · rcases List.mem_append.1 hx with hx | hx
    · have := h.lt x hx; omega
    · have : x.2 ∈ (numT c T id).map (·.2) := List.mem_map.2 ⟨x, hx, rfl⟩
      rw [numT_snd, List.mem_range'_1] at this
      omega
theorem int_takeK {l : List Ks} {j : Nat} (h : j < l.length) : l.take (j + 1) = l.take j ++ [l.getD j []] := by
  rw [List.take_succ_eq_append_getElem h, List.getD_eq_getElem?_getD, List.getElem?_eq_getElem h]; rfl
theorem take_new {l : List Ks} (hn : l.Nodup) {j : Nat} (h : j < l.length) : l.getD j [] ∉ l.take j := fun hx => by
  have h1 := hn.sublist (List.take_sublist (j + 1) l)
  rw [int_takeK h, List.nodup_append] at h1
  exact h1.2.2 _ hx _ (by simp) rfl
def dropR (l : List Rw) (id : Int) : List Rw := gathE (forgE (num (flat l)) id)
def addR (l : List Rw) (id : Int) (T : List Ks) : List Rw := gathE (forgE (num (flat l)) id ++ numT (flat l).length T id)
noncomputable def dropV (l : List Rw) (id : Int) : List Rw := if chkR l then dropR l id else l
noncomputable def addV (l : List Rw) (id : Int) (T : List Ks) : List Rw × Int :=
  if chkR l then if nmd id then if (tagsV T).2 = 0 then (addR l id (tagsV T).1, 0) else (l, (tagsV T).2) else (l, 110) else (l, 120)
attribute [local irreducible] Go.Idl.IWP Go.Idl.IOps Go.Idl.Obl Go.Idl.OpG Go.Idl.thenI Go.Idl.inBlockI Go.Idl.LoopU Go.Idl.noGotoI Go.Idl.jumpI
attribute [local go_sem] List.length_set bl_of bl_no List.drop_length Nat.sub_self getD_set_at
theorem drop_spec (l : List Rw) (id : Int) (hL : l.length ≤ 1000000) (hI : ∀ r, r ∈ l → r.tag.length ≤ 1000000 ∧ r.ids.length ≤ 1000000) : Idl.SpecA Try.prog 33 [.fz false (rows false l) l.length, .i64 id] [] (Only (.fz false (rows false (dropV l id)) (dropV l id).length) []) := by
  have hcs := tcheck_spec l hL hI
  unfold dropV
  cases hc : chkR l
  · rw [hc] at hcs
    rw [if_neg (by decide)]
    have hcp := tgcopied_spec l hL hI
    refine sA Try.func33 Try.ntmps33 ?_
    repeat' (first|refine IOps_nil ?_|refine oS ?_|refine IOps_s rfl rfl ?_|refine oT ?_|refine IOps_s0 rfl ?_|refine oC (π:=[]) (hs:=by first|exact hcs|fail) (hx:=?_)|refine oC (π:=[]) (hs:=by first|exact hcp|fail) (hx:=?_)|refine oZ ?_|refine oI ?_|refine oAB ?_|refine thenI_n ?_|refine IWP_seq ?_|refine IWP_region ?_|refine IWP_ct rfl ?_|refine IWP_cf rfl ?_|refine IWP_skip ?_|refine IWP_ret ?_|refine IWP_block ?_|refine inB_n ?_|refine thenI_r ?_|refine thenI_e ?_|refine inB_r ?_|refine inB_hit ?_|refine inB_miss rfl ?_|refine IWP_exit ?_|refine IWP_scope ?_|refine IWP_label ?_|refine noG_n ?_|refine noG_r ?_|refine noG_e ?_|refine jmp_n ?_|refine jmp_r ?_|refine jmp_e ?_|refine jmp_g ?_|refine thenI_g ?_|refine inB_g ?_|refine IWP_goto ?_|refine Loop_n ?_|fail)
    exact pA []
  · rw [hc] at hcs
    rw [if_pos rfl]
    have hok := chkR_iff hc
    have hfew := flat_few hok
    have hE := num_ok hok
    have hE2 := forg_ok hE id
    have hfl := forg_len (num (flat l)) id
    rw [num_len] at hfl
    have h1 := spread_spec l hok hL hI
    have h2 := forget_spec (num (flat l)) (flat l).length id hE
    have h3 := gathered_spec (forgE (num (flat l)) id) (flat l).length hE2 (by omega)
    unfold dropR
    refine sA Try.func33 Try.ntmps33 ?_
    repeat' (first|refine IOps_nil ?_|refine oS ?_|refine IOps_s rfl rfl ?_|refine oT ?_|refine IOps_s0 rfl ?_|refine oC (π:=[]) (hs:=by first|exact hcs|fail) (hx:=?_)|refine oC (π:=[]) (hs:=by first|exact h1|fail) (hx:=?_)|refine oA (π:=[0]) (hs:=by first|exact h2|fail) (hx:=?_)|refine oA0 (π:=[0]) (hs:=by first|exact h2|fail) (hx:=?_)|refine oA (π:=[0]) (hs:=by first|exact h3|fail) (hx:=?_)|refine oA0 (π:=[0]) (hs:=by first|exact h3|fail) (hx:=?_)|refine oZ ?_|refine oI ?_|refine oAB ?_|refine thenI_n ?_|refine IWP_seq ?_|refine IWP_region ?_|refine IWP_ct rfl ?_|refine IWP_cf rfl ?_|refine IWP_skip ?_|refine IWP_ret ?_|refine IWP_block ?_|refine inB_n ?_|refine thenI_r ?_|refine thenI_e ?_|refine inB_r ?_|refine inB_hit ?_|refine inB_miss rfl ?_|refine IWP_exit ?_|refine IWP_scope ?_|refine IWP_label ?_|refine noG_n ?_|refine noG_r ?_|refine noG_e ?_|refine jmp_n ?_|refine jmp_r ?_|refine jmp_e ?_|refine jmp_g ?_|refine thenI_g ?_|refine inB_g ?_|refine IWP_goto ?_|refine Loop_n ?_|fail)
    exact pA []
theorem add_spec (l : List Rw) (id : Int) (T : List Ks) (hL : l.length ≤ 1000000) (hI : ∀ r, r ∈ l → r.tag.length ≤ 1000000 ∧ r.ids.length ≤ 1000000) (hT : T.length ≤ 1000000) (hT2 : ∀ t, t ∈ T → t.length ≤ 1000000000) :
    Idl.SpecA Try.prog 31 [.fz false (rows false l) l.length, .i64 id, .fz false (strs T) T.length] [] (Only (.tup [.fz false (rows false (addV l id T).1) (addV l id T).1.length, .i64 (addV l id T).2]) []) := by
  have hcs := tcheck_spec l hL hI
  have hcp := tgcopied_spec l hL hI
  unfold addV
  cases hc : chkR l
  · rw [hc] at hcs
    rw [if_neg (by decide)]
    refine sA Try.func31 Try.ntmps31 ?_
    repeat' (first|refine IOps_nil ?_|refine oS ?_|refine IOps_s rfl rfl ?_|refine oT ?_|refine IOps_s0 rfl ?_|refine oC (π:=[]) (hs:=by first|exact hcs|fail) (hx:=?_)|refine oC (π:=[]) (hs:=by first|exact hcp|fail) (hx:=?_)|refine oZ ?_|refine oI ?_|refine oAB ?_|refine thenI_n ?_|refine IWP_seq ?_|refine IWP_region ?_|refine IWP_ct rfl ?_|refine IWP_cf rfl ?_|refine IWP_skip ?_|refine IWP_ret ?_|refine IWP_block ?_|refine inB_n ?_|refine thenI_r ?_|refine thenI_e ?_|refine inB_r ?_|refine inB_hit ?_|refine inB_miss rfl ?_|refine IWP_exit ?_|refine IWP_scope ?_|refine IWP_label ?_|refine noG_n ?_|refine noG_r ?_|refine noG_e ?_|refine jmp_n ?_|refine jmp_r ?_|refine jmp_e ?_|refine jmp_g ?_|refine thenI_g ?_|refine inB_g ?_|refine IWP_goto ?_|refine Loop_n ?_|fail)
    exact pA []
  · rw [hc] at hcs
    rw [if_pos rfl]
    have hns := named_spec id
    by_cases hid : nmd id
    · rw [decide_eq_true hid] at hns
      rw [if_pos hid]
      have hts := tags_spec T hT hT2
      by_cases hk : tagsOk T
      · rw [tagsV_ok hk] at hts ⊢
        rw [if_pos rfl]
        have hM3 : (srtK (dd T)).length ≤ 3 := by rw [(srtK_perm _).length_eq]; exact hk.2
        have hMn := srtd_nodup T
        have hMt : ∀ t, t ∈ srtK (dd T) → t.length ≤ 1000000 := fun t ht => by have := (hk.1 t (srtd_mem.1 ht)).2; omega
        simp only at hts ⊢
        generalize srtK (dd T) = M at hts hM3 hMn hMt ⊢
        have hok := chkR_iff hc
        have hfew := flat_few hok
        have hE := num_ok hok
        have hE2 := forg_ok hE id
        have hno : ∀ p, p ∈ (forgE (num (flat l)) id).map (·.1) → p.id ≠ id := fun p hp => (forg_mem.1 hp).2
        have hfl := forg_len (num (flat l)) id
        rw [num_len] at hfl
        have h1 := spread_spec l hok hL hI
        have h2 := forget_spec (num (flat l)) (flat l).length id hE
        unfold addR
        generalize flat l = S at hfew hE hE2 hno hfl h1 h2 ⊢
        generalize forgE (num S) id = E at hE2 hno hfl h2 ⊢
        refine sA Try.func31 Try.ntmps31 ?_
        repeat' (first|refine IOps_nil ?_|refine oS ?_|refine IOps_s rfl rfl ?_|refine oT ?_|refine IOps_s0 rfl ?_|refine oC (π:=[]) (hs:=by first|exact hcs|fail) (hx:=?_)|refine oC (π:=[]) (hs:=by first|exact hns|fail) (hx:=?_)|refine oC (π:=[]) (hs:=by first|exact hts|fail) (hx:=?_)|refine oC (π:=[]) (hs:=by first|exact h1|fail) (hx:=?_)|refine oA (π:=[0]) (hs:=by first|exact h2|fail) (hx:=?_)|refine oA0 (π:=[0]) (hs:=by first|exact h2|fail) (hx:=?_)|refine oZ ?_|refine oI ?_|refine oAB ?_|refine thenI_n ?_|refine IWP_seq ?_|refine IWP_region ?_|refine IWP_ct rfl ?_|refine IWP_cf rfl ?_|refine IWP_skip ?_|refine IWP_ret ?_|refine IWP_block ?_|refine inB_n ?_|refine thenI_r ?_|refine thenI_e ?_|refine inB_r ?_|refine inB_hit ?_|refine inB_miss rfl ?_|refine IWP_exit ?_|refine IWP_scope ?_|refine IWP_label ?_|refine noG_n ?_|refine noG_r ?_|refine noG_e ?_|refine jmp_n ?_|refine jmp_r ?_|refine jmp_e ?_|refine jmp_g ?_|refine thenI_g ?_|refine inB_g ?_|refine IWP_goto ?_|refine Loop_n ?_|fail)
        refine IWP_loop (fun j : Nat => ⟨51, [(1, .i64 id), (10, .mp 0), (38, .fz false (strs M) M.length), (39, .i64 M.length), (40, .i64 j)], [.mp (mpE (E ++ numT S.length (M.take j) id)) (S.length + j)]⟩) (fun j => j ≤ M.length) (fun j => M.length - j) 0 (lS [0] (h3 := by rw [List.take_zero]; simp [numT])) (Nat.zero_le _) ?_
        rintro j hj
        by_cases h5 : j < M.length
        · have hMj := int_takeK h5
          have hsub : ∀ t, t ∈ M.take j → t ∈ M := fun t ht => List.mem_of_mem_take ht
          have hE3 := add_ok hE2 (T := M.take j) hid (fun t ht => hMt t (hsub t ht)) (hMn.sublist (List.take_sublist _ _)) hno
          obtain ⟨lk, hlk⟩ := pair_key (p := ⟨M.getD j [], id⟩) ⟨hMt _ (getD_mem h5), hid⟩
          repeat' (first|refine IOps_nil ?_|refine oS ?_|refine IOps_s rfl rfl ?_|refine oT ?_|refine IOps_s0 rfl ?_|refine oZ ?_|refine oI ?_|refine oAB ?_|refine thenI_n ?_|refine IWP_seq ?_|refine IWP_region ?_|refine IWP_ct rfl ?_|refine IWP_cf rfl ?_|refine IWP_skip ?_|refine IWP_ret ?_|refine IWP_block ?_|refine inB_n ?_|refine thenI_r ?_|refine thenI_e ?_|refine inB_r ?_|refine inB_hit ?_|refine inB_miss rfl ?_|refine IWP_exit ?_|refine IWP_scope ?_|refine IWP_label ?_|refine noG_n ?_|refine noG_r ?_|refine noG_e ?_|refine jmp_n ?_|refine jmp_r ?_|refine jmp_e ?_|refine jmp_g ?_|refine thenI_g ?_|refine inB_g ?_|refine IWP_goto ?_|refine Loop_n ?_|fail)
          refine oMu (et := 4) pair_law (kv := pairV ⟨M.getD j [], id⟩) (xv := .bool true) (val_pair ⟨M.getD j [], id⟩) rfl hlk (mpE_keys hE3.good) ?_ ?_
          · intro _
            rw [mpE_new, List.append_assoc]
            have e : numT S.length (M.take j) id ++ [(⟨M.getD j [], id⟩, S.length + j)] = numT S.length (M.take (j + 1)) id := by
              rw [hMj, numT_snoc, List.length_take, Nat.min_eq_left hj]
            rw [e]
            repeat' (first|refine IOps_nil ?_|refine oS ?_|refine IOps_s rfl rfl ?_|refine oT ?_|refine IOps_s0 rfl ?_|refine oZ ?_|refine oI ?_|refine oAB ?_|refine thenI_n ?_|refine IWP_seq ?_|refine IWP_region ?_|refine IWP_ct rfl ?_|refine IWP_cf rfl ?_|refine IWP_skip ?_|refine IWP_ret ?_|refine IWP_block ?_|refine inB_n ?_|refine thenI_r ?_|refine thenI_e ?_|refine inB_r ?_|refine inB_hit ?_|refine inB_miss rfl ?_|refine IWP_exit ?_|refine IWP_scope ?_|refine IWP_label ?_|refine noG_n ?_|refine noG_r ?_|refine noG_e ?_|refine jmp_n ?_|refine jmp_r ?_|refine jmp_e ?_|refine jmp_g ?_|refine thenI_g ?_|refine inB_g ?_|refine IWP_goto ?_|refine Loop_n ?_|fail)
            exact ⟨j + 1, h5, by omega, lP [0]⟩
          · intro q e hq he
            obtain ⟨x, hx, rfl⟩ := mpE_get hq
            have hx2 : (⟨M.getD j [], id⟩ : Pr) ∈ (E ++ numT S.length (M.take j) id).map (·.1) := List.mem_map.2 ⟨x, List.mem_of_getElem? hx, pairV_inj he⟩
            rw [List.map_append, List.mem_append, numT_fst] at hx2
            rcases hx2 with hx2 | hx2
            · exact absurd rfl (hno _ hx2)
            · obtain ⟨t, ht, e⟩ := List.mem_map.1 hx2
              have e : t = M.getD j [] := congrArg Pr.tag e
              exact absurd (e ▸ ht) (take_new hMn h5)
        · obtain rfl : j = M.length := by omega
          rw [List.take_length]
          have hE3 := add_ok hE2 (T := M) hid hMt hMn hno
          have h3 := gathered_spec _ _ hE3 (by rw [List.length_append, numT_len]; omega)
          repeat' (first|refine IOps_nil ?_|refine oS ?_|refine IOps_s rfl rfl ?_|refine oT ?_|refine IOps_s0 rfl ?_|refine oA (π:=[0]) (hs:=by first|exact h3|fail) (hx:=?_)|refine oA0 (π:=[0]) (hs:=by first|exact h3|fail) (hx:=?_)|refine oZ ?_|refine oI ?_|refine oAB ?_|refine thenI_n ?_|refine IWP_seq ?_|refine IWP_region ?_|refine IWP_ct rfl ?_|refine IWP_cf rfl ?_|refine IWP_skip ?_|refine IWP_ret ?_|refine IWP_block ?_|refine inB_n ?_|refine thenI_r ?_|refine thenI_e ?_|refine inB_r ?_|refine inB_hit ?_|refine inB_miss rfl ?_|refine IWP_exit ?_|refine IWP_scope ?_|refine IWP_label ?_|refine noG_n ?_|refine noG_r ?_|refine noG_e ?_|refine jmp_n ?_|refine jmp_r ?_|refine jmp_e ?_|refine jmp_g ?_|refine thenI_g ?_|refine inB_g ?_|refine IWP_goto ?_|refine Loop_n ?_|fail)
          exact pA []
      · rw [tagsV_no hk] at hts ⊢
        rw [if_neg (by decide)]
        refine sA Try.func31 Try.ntmps31 ?_
        repeat' (first|refine IOps_nil ?_|refine oS ?_|refine IOps_s rfl rfl ?_|refine oT ?_|refine IOps_s0 rfl ?_|refine oC (π:=[]) (hs:=by first|exact hcs|fail) (hx:=?_)|refine oC (π:=[]) (hs:=by first|exact hns|fail) (hx:=?_)|refine oC (π:=[]) (hs:=by first|exact hts|fail) (hx:=?_)|refine oC (π:=[]) (hs:=by first|exact hcp|fail) (hx:=?_)|refine oZ ?_|refine oI ?_|refine oAB ?_|refine thenI_n ?_|refine IWP_seq ?_|refine IWP_region ?_|refine IWP_ct rfl ?_|refine IWP_cf rfl ?_|refine IWP_skip ?_|refine IWP_ret ?_|refine IWP_block ?_|refine inB_n ?_|refine thenI_r ?_|refine thenI_e ?_|refine inB_r ?_|refine inB_hit ?_|refine inB_miss rfl ?_|refine IWP_exit ?_|refine IWP_scope ?_|refine IWP_label ?_|refine noG_n ?_|refine noG_r ?_|refine noG_e ?_|refine jmp_n ?_|refine jmp_r ?_|refine jmp_e ?_|refine jmp_g ?_|refine thenI_g ?_|refine inB_g ?_|refine IWP_goto ?_|refine Loop_n ?_|fail)
        exact pA []
    · rw [decide_eq_false hid] at hns
      rw [if_neg hid]
      refine sA Try.func31 Try.ntmps31 ?_
      repeat' (first|refine IOps_nil ?_|refine oS ?_|refine IOps_s rfl rfl ?_|refine oT ?_|refine IOps_s0 rfl ?_|refine oC (π:=[]) (hs:=by first|exact hcs|fail) (hx:=?_)|refine oC (π:=[]) (hs:=by first|exact hns|fail) (hx:=?_)|refine oC (π:=[]) (hs:=by first|exact hcp|fail) (hx:=?_)|refine oZ ?_|refine oI ?_|refine oAB ?_|refine thenI_n ?_|refine IWP_seq ?_|refine IWP_region ?_|refine IWP_ct rfl ?_|refine IWP_cf rfl ?_|refine IWP_skip ?_|refine IWP_ret ?_|refine IWP_block ?_|refine inB_n ?_|refine thenI_r ?_|refine thenI_e ?_|refine inB_r ?_|refine inB_hit ?_|refine inB_miss rfl ?_|refine IWP_exit ?_|refine IWP_scope ?_|refine IWP_label ?_|refine noG_n ?_|refine noG_r ?_|refine noG_e ?_|refine jmp_n ?_|refine jmp_r ?_|refine jmp_e ?_|refine jmp_g ?_|refine thenI_g ?_|refine inB_g ?_|refine IWP_goto ?_|refine Loop_n ?_|fail)
      exact pA []
end Go.Proofs.Ytmgcoopmbohkoaa

namespace Go.Proofs.Ytmgcoopmbohkoaa
open Go Go.Idl
set_option linter.unusedSimpArgs false
set_option linter.unusedVariables false
set_option maxHeartbeats 4000000
theorem sortedKs {a b : List Ks} (ha : a.Pairwise (· < ·)) (hb : b.Pairwise (· < ·)) (h : ∀ x, x ∈ a ↔ x ∈ b) : a = b := by
  have h1 : (a.map fun t => (⟨t, 0⟩ : Pr)) = b.map fun t => (⟨t, 0⟩ : Pr) := by
    refine sortedP (List.pairwise_map.2 (ha.imp fun h => .inl h)) (List.pairwise_map.2 (hb.imp fun h => .inl h)) fun x => ?_
    rw [List.mem_map, List.mem_map]
    constructor
    · rintro ⟨t, ht, rfl⟩; exact ⟨t, (h t).1 ht, rfl⟩
    · rintro ⟨t, ht, rfl⟩; exact ⟨t, (h t).2 ht, rfl⟩
  have h2 := congrArg (List.map Pr.tag) h1
  rw [List.map_map, List.map_map] at h2
  simpa [Function.comp_def] using h2
theorem allIds_flat (l : List Rw) : allIds l = (flat l).map (·.id) := by
  induction l with
  | nil => rfl
  | cons r l ih =>
    rw [show allIds (r :: l) = allIds [r] ++ allIds l from allIds_app [r] l, show flat (r :: l) = flat [r] ++ flat l from flat_app [r] l, List.map_append, ih, flat_one]
    simp [allIds, Function.comp_def]
theorem mem_tgs {l : List Rw} {id : Int} {t : Ks} : t ∈ tgsV l id ↔ (⟨t, id⟩ : Pr) ∈ flat l := by
  unfold tgsV
  rw [mem_flat, List.mem_map]
  constructor
  · rintro ⟨r, hr, rfl⟩
    obtain ⟨h1, h2⟩ := List.mem_filter.1 hr
    exact ⟨r, h1, rfl, of_decide_eq_true h2⟩
  · rintro ⟨r, hr, h1, h2⟩
    exact ⟨r, List.mem_filter.2 ⟨hr, decide_eq_true h2⟩, h1⟩
theorem tgs_srt {l : List Rw} (h : CanR l) (id : Int) : (tgsV l id).Pairwise (· < ·) :=
  List.pairwise_map.2 (h.1.sublist List.filter_sublist)
theorem tgs_count {l : List Rw} (h : CanR l) (id : Int) : (tgsV l id).length = (allIds l).count id := by
  induction l with
  | nil => rfl
  | cons r l ih =>
    obtain ⟨h1, h2, h3, h4⟩ := h.cons
    have hn : r.ids.Nodup := h3.imp fun h e => by subst e; exact Int.lt_irrefl _ h
    rw [show allIds (r :: l) = allIds [r] ++ allIds l from allIds_app [r] l, List.count_append, ← ih h4]
    have e : (allIds [r]).count id = if id ∈ r.ids then 1 else 0 := by
      simp only [allIds, List.flatMap_cons, List.flatMap_nil, List.append_nil]
      exact hn.count
    rw [e]
    unfold tgsV
    rw [List.filter_cons]
    by_cases hi : id ∈ r.ids
    · simp [hi]; omega
    · simp [hi]
theorem tgs_three {l : List Rw} (h : OkR l) (id : Int) : (tgsV l id).length ≤ 3 := by
  rw [tgs_count h.can]
  by_cases hid : nmd id
  · exact h.few id hid
  · rw [List.count_eq_zero.2]
    · omega
    · intro hx
      obtain ⟨r, hr, hx⟩ := List.mem_flatMap.1 hx
      exact hid (h.nm r hr id hx)
/-! ### Gathered -/
theorem srtP_mem {S : List Pr} {p : Pr} : p ∈ srtP S ↔ p ∈ S := (srtP_perm S).mem_iff
theorem gat_can {S : List Pr} (h : S.Nodup) : CanR (gathR (srtP S)) := (gath_can (srtP_ltp h)).1
theorem gat_flat {S : List Pr} (h : S.Nodup) : flat (gathR (srtP S)) = srtP S := (gath_can (srtP_ltp h)).2
theorem gat_ok {S : List Pr} (h : S.Nodup) (ht : ∀ p, p ∈ S → tagOk p.tag) (hn : ∀ p, p ∈ S → nmd p.id) (hf : ∀ i, nmd i → (S.map (·.id)).count i ≤ 3) : OkR (gathR (srtP S)) := by
  have hc := gat_can h
  have hm : ∀ p, p ∈ flat (gathR (srtP S)) → p ∈ S := fun p hp => by rw [gat_flat h] at hp; exact srtP_mem.1 hp
  refine ⟨hc, fun r hr => ?_, fun r hr i hi => ?_, fun i hi => ?_⟩
  · obtain ⟨i, hi⟩ := List.exists_mem_of_ne_nil _ (hc.2 r hr).1
    exact ht ⟨r.tag, i⟩ (hm _ (mem_flat.2 ⟨r, hr, rfl, hi⟩))
  · exact hn ⟨r.tag, i⟩ (hm _ (mem_flat.2 ⟨r, hr, rfl, hi⟩))
  · rw [allIds_flat, gat_flat h, ((srtP_perm S).map _).count_eq]
    exact hf i hi
theorem flat_nodup {l : List Rw} (h : CanR l) : (flat l).Nodup := (flat_srt h).imp fun {a b} k e => by subst e; exact LtP.irrefl _ k
theorem flat_tag {l : List Rw} (h : OkR l) {p : Pr} (hp : p ∈ flat l) : tagOk p.tag := by
  obtain ⟨r, hr, e, _⟩ := mem_flat.1 hp
  exact e ▸ h.tag r hr
theorem flat_nmd {l : List Rw} (h : OkR l) {p : Pr} (hp : p ∈ flat l) : nmd p.id := by
  obtain ⟨r, hr, _, e⟩ := mem_flat.1 hp
  exact h.nm r hr _ e
def keepP (S : List Pr) (id : Int) : List Pr := S.filter fun p => decide (p.id ≠ id)
theorem forg_fst (S : List Pr) (id : Int) : (forgE (num S) id).map (·.1) = keepP S id := by
  unfold forgE keepP
  conv => rhs; rw [← num_fst S]
  rw [List.filter_map]; rfl
theorem dropR_eq (l : List Rw) (id : Int) : dropR l id = gathR (srtP (keepP (flat l) id)) := by
  show gathR (srtP ((forgE (num (flat l)) id).map (·.1))) = _
  rw [forg_fst]
theorem addR_eq (l : List Rw) (id : Int) (T : List Ks) : addR l id T = gathR (srtP (keepP (flat l) id ++ T.map fun t => ⟨t, id⟩)) := by
  show gathR (srtP ((forgE (num (flat l)) id ++ numT (flat l).length T id).map (·.1))) = _
  rw [List.map_append, forg_fst, numT_fst]
theorem mem_keep {S : List Pr} {id : Int} {p : Pr} : p ∈ keepP S id ↔ p ∈ S ∧ p.id ≠ id := by unfold keepP; rw [List.mem_filter, decide_eq_true_iff]
theorem keep_nodup {l : List Rw} (h : CanR l) (id : Int) : (keepP (flat l) id).Nodup := (flat_nodup h).sublist List.filter_sublist
theorem keep_few {l : List Rw} (h : OkR l) (id : Int) {i : Int} (hi : nmd i) : ((keepP (flat l) id).map (·.id)).count i ≤ 3 := by
  have := h.few i hi
  rw [allIds_flat] at this
  exact Nat.le_trans ((List.filter_sublist.map _).count_le i) this
theorem drop_ok {l : List Rw} (h : OkR l) (id : Int) : OkR (dropR l id) := by
  rw [dropR_eq]
  exact gat_ok (keep_nodup h.can id) (fun p hp => flat_tag h (mem_keep.1 hp).1) (fun p hp => flat_nmd h (mem_keep.1 hp).1) fun i hi => keep_few h id hi
theorem mem_drop {l : List Rw} (h : CanR l) {id : Int} {p : Pr} : p ∈ flat (dropR l id) ↔ p ∈ flat l ∧ p.id ≠ id := by
  rw [dropR_eq, gat_flat (keep_nodup h id), srtP_mem, mem_keep]
theorem added_nodup {l : List Rw} (h : CanR l) {id : Int} {T : List Ks} (hT : T.Nodup) : (keepP (flat l) id ++ T.map fun t => (⟨t, id⟩ : Pr)).Nodup := by
  rw [List.nodup_append]
  refine ⟨keep_nodup h id, List.pairwise_map.2 (hT.imp fun k e => k (congrArg Pr.tag e)), fun a ha b hb e => ?_⟩
  obtain ⟨t, ht, rfl⟩ := List.mem_map.1 hb
  subst e
  exact (mem_keep.1 ha).2 rfl
theorem addR_ok {l : List Rw} (h : OkR l) {id : Int} (hid : nmd id) {T : List Ks} (hT : T.Nodup) (hk : ∀ t, t ∈ T → tagOk t) (h3 : T.length ≤ 3) : OkR (addR l id T) := by
  rw [addR_eq]
  refine gat_ok (added_nodup h.can hT) (fun p hp => ?_) (fun p hp => ?_) fun i hi => ?_
  · rcases List.mem_append.1 hp with hp | hp
    · exact flat_tag h (mem_keep.1 hp).1
    · obtain ⟨t, ht, rfl⟩ := List.mem_map.1 hp; exact hk t ht
  · rcases List.mem_append.1 hp with hp | hp
    · exact flat_nmd h (mem_keep.1 hp).1
    · obtain ⟨t, ht, rfl⟩ := List.mem_map.1 hp; exact hid
  · have e0 : ∀ T : List Ks, (T.map fun t => (⟨t, id⟩ : Pr)).map (·.id) = List.replicate T.length id := fun T => by
      induction T with
      | nil => rfl
      | cons t T ih => rw [List.map_cons, List.map_cons, ih, List.length_cons, List.replicate_succ]
    rw [List.map_append, List.count_append, e0, List.count_replicate]
    by_cases e : i = id
    · subst e
      have h1 : ((keepP (flat l) i).map (·.id)).count i = 0 := List.count_eq_zero.2 fun hx => by
        obtain ⟨p, hp, e⟩ := List.mem_map.1 hx
        exact (mem_keep.1 hp).2 e
      rw [h1]; simp; omega
    · have h1 := keep_few h id hi
      rw [if_neg (by simp; exact fun x => e x.symm)]
      omega
theorem mem_addR {l : List Rw} (h : CanR l) {id : Int} {T : List Ks} (hT : T.Nodup) {p : Pr} : p ∈ flat (addR l id T) ↔ (p ∈ flat l ∧ p.id ≠ id) ∨ (p.id = id ∧ p.tag ∈ T) := by
  rw [addR_eq, gat_flat (added_nodup h hT), srtP_mem, List.mem_append, mem_keep, List.mem_map]
  refine or_congr Iff.rfl ⟨?_, ?_⟩
  · rintro ⟨t, ht, rfl⟩; exact ⟨rfl, ht⟩
  · rintro ⟨h1, h2⟩; exact ⟨p.tag, h2, by cases p; simp_all⟩
/-! ### What is given and dropped -/
/-- The tags that are given: rising, at most three. -/
structure OkT (T : List Ks) : Prop where
  srt : T.Pairwise (· < ·)
  ok : ∀ t, t ∈ T → tagOk t
  three : T.length ≤ 3
theorem OkT.nodup {T : List Ks} (h : OkT T) : T.Nodup := h.srt.imp fun {a b} k e => by subst e; exact List.lt_irrefl _ k
theorem tagsV_okT (T : List Ks) : OkT (tagsV T).1 := by
  by_cases h : tagsOk T
  · rw [tagsV_ok h]
    refine ⟨(List.pairwise_and_iff.2 ⟨srtK_srt (dd T), srtd_nodup T⟩).imp fun {a b} x => ?_, fun t ht => h.1 t (srtd_mem.1 ht), by rw [(srtK_perm _).length_eq]; exact h.2⟩
    have h1 : ¬ b < a := fun y => x.1 (cS_iff.2 y)
    rcases kcases a b with ⟨y, _⟩ | ⟨y, _⟩ | ⟨y, _⟩
    · exact y
    · exact absurd y x.2
    · exact absurd y h1
  · rw [tagsV_no h]
    exact ⟨.nil, by simp, by simp⟩
theorem addV_eq {l : List Rw} (h : OkR l) (id : Int) (T : List Ks) : addV l id T = if nmd id then if (tagsV T).2 = 0 then (addR l id (tagsV T).1, 0) else (l, (tagsV T).2) else (l, 110) := by
  unfold addV; rw [if_pos (chkR_ok h)]
theorem dropV_eq {l : List Rw} (h : OkR l) (id : Int) : dropV l id = dropR l id := by unfold dropV; rw [if_pos (chkR_ok h)]
theorem tagsV_err (T : List Ks) : (tagsV T).2 = 0 ∨ (tagsV T).2 = 90 := by
  by_cases h : tagsOk T
  · rw [tagsV_ok h]; exact .inl rfl
  · rw [tagsV_no h]; exact .inr rfl
theorem addV_ok {l : List Rw} (h : OkR l) (id : Int) (T : List Ks) : OkR (addV l id T).1 := by
  rw [addV_eq h]
  split
  · next hid =>
    split
    · have := tagsV_okT T; exact addR_ok h hid this.nodup this.ok this.three
    · exact h
  · exact h
theorem dropV_ok {l : List Rw} (h : OkR l) (id : Int) : OkR (dropV l id) := by rw [dropV_eq h]; exact drop_ok h id
def errA (id : Int) (T : List Ks) : Int := if nmd id then (tagsV T).2 else 110
theorem addV_err {l : List Rw} (h : OkR l) (id : Int) (T : List Ks) : (addV l id T).2 = errA id T := by
  rw [addV_eq h]
  unfold errA
  split
  · rcases tagsV_err T with e | e <;> rw [e] <;> rfl
  · rfl
theorem addV_no {l : List Rw} (h : OkR l) {id : Int} {T : List Ks} (he : errA id T ≠ 0) : (addV l id T).1 = l := by
  rw [addV_eq h]
  unfold errA at he
  split
  · next hid => rw [if_pos hid] at he; rw [if_neg he]
  · rfl
theorem addV_yes {l : List Rw} (h : OkR l) {id : Int} {T : List Ks} (he : errA id T = 0) : (addV l id T).1 = addR l id (tagsV T).1 := by
  rw [addV_eq h]
  unfold errA at he
  by_cases hid : nmd id
  · rw [if_pos hid] at he ⊢; rw [if_pos he]
  · rw [if_neg hid] at he; exact absurd he (by decide)
theorem mem_addV {l : List Rw} (h : OkR l) {id : Int} {T : List Ks} (he : errA id T = 0) {p : Pr} : p ∈ flat (addV l id T).1 ↔ (p ∈ flat l ∧ p.id ≠ id) ∨ (p.id = id ∧ p.tag ∈ (tagsV T).1) := by
  rw [addV_yes h he]
  exact mem_addR h.can (tagsV_okT T).nodup
theorem mem_dropV {l : List Rw} (h : OkR l) {id : Int} {p : Pr} : p ∈ flat (dropV l id) ↔ p ∈ flat l ∧ p.id ≠ id := by rw [dropV_eq h]; exact mem_drop h.can
theorem tgs_add {l : List Rw} (h : OkR l) {id : Int} {T : List Ks} (he : errA id T = 0) : tgsV (addV l id T).1 id = (tagsV T).1 :=
  sortedKs (tgs_srt (addV_ok h id T).can id) (tagsV_okT T).srt fun t => by rw [mem_tgs, mem_addV h he]; simp
theorem tgs_other {l : List Rw} (h : OkR l) {id o : Int} {T : List Ks} (ho : o ≠ id) : tgsV (addV l id T).1 o = tgsV l o := by
  by_cases he : errA id T = 0
  · exact sortedKs (tgs_srt (addV_ok h id T).can o) (tgs_srt h.can o) fun t => by rw [mem_tgs, mem_tgs, mem_addV h he]; simp [ho]
  · rw [addV_no h he]
theorem tgs_drop {l : List Rw} (h : OkR l) {id : Int} : tgsV (dropV l id) id = [] :=
  List.eq_nil_iff_forall_not_mem.2 fun t ht => (mem_dropV h (p := ⟨t, id⟩)).1 (mem_tgs.1 ht) |>.2 rfl
theorem tgs_drop_other {l : List Rw} (h : OkR l) {id o : Int} (ho : o ≠ id) : tgsV (dropV l id) o = tgsV l o :=
  sortedKs (tgs_srt (dropV_ok h id).can o) (tgs_srt h.can o) fun t => by rw [mem_tgs, mem_tgs, mem_dropV h]; simp [ho]
theorem tgsC_eq {l : List Rw} (h : OkR l) (id : Int) : tgsC l id = tgsV l id := by unfold tgsC; rw [if_pos (chkR_ok h)]
/-! ### TagsBack -/
theorem back_fresh {l : List Rw} (h : OkR l) {id : Int} {T : List Ks} (he : errA id T = 0) (hf : tgsV l id = []) : dropV (addV l id T).1 id = l := by
  refine can_ext (dropV_ok (addV_ok h id T) id).can h.can fun p => ?_
  rw [mem_dropV (addV_ok h id T), mem_addV h he]
  constructor
  · rintro ⟨h1 | h1, h2⟩
    · exact h1.1
    · exact absurd h1.1 h2
  · intro hp
    have : p.id ≠ id := fun e => by
      have : p.tag ∈ tgsV l id := mem_tgs.2 (by rw [← e]; exact hp)
      rw [hf] at this; cases this
    exact ⟨.inl ⟨hp, this⟩, this⟩
theorem back_again {l : List Rw} (h : OkR l) {id : Int} {T : List Ks} (he : errA id T = 0) : (addV (addV l id T).1 id T).1 = (addV l id T).1 := by
  have hk := addV_ok h id T
  refine can_ext (addV_ok hk id T).can hk.can fun p => ?_
  rw [mem_addV hk he, mem_addV h he]
  constructor
  · rintro (⟨h1, h2⟩ | h1)
    · exact h1
    · exact .inr h1
  · rintro (h1 | h1)
    · exact .inl ⟨.inl h1, h1.2⟩
    · exact .inr h1
/-! ### TagsOrder -/
theorem order_add {l : List Rw} (h : OkR l) {a b : Int} (hab : a ≠ b) (s t : List Ks) : (addV (addV l a s).1 b t).1 = (addV (addV l b t).1 a s).1 := by
  have ha := addV_ok h a s
  have hb := addV_ok h b t
  by_cases e1 : errA a s = 0
  · by_cases e2 : errA b t = 0
    · refine can_ext (addV_ok ha b t).can (addV_ok hb a s).can fun p => ?_
      rw [mem_addV ha e2, mem_addV h e1, mem_addV hb e1, mem_addV h e2]
      constructor
      · rintro (⟨⟨h1, h2⟩ | ⟨h1, h2⟩, h3⟩ | ⟨h1, h2⟩)
        · exact .inl ⟨.inl ⟨h1, h3⟩, h2⟩
        · exact .inr ⟨h1, h2⟩
        · exact .inl ⟨.inr ⟨h1, h2⟩, fun e => hab (e.symm.trans h1)⟩
      · rintro (⟨⟨h1, h2⟩ | ⟨h1, h2⟩, h3⟩ | ⟨h1, h2⟩)
        · exact .inl ⟨.inl ⟨h1, h3⟩, h2⟩
        · exact .inr ⟨h1, h2⟩
        · exact .inl ⟨.inr ⟨h1, h2⟩, fun e => hab (h1.symm.trans e)⟩
    · rw [addV_no ha e2, addV_no h e2]
  · rw [addV_no h e1, addV_no hb e1]
theorem order_none {l : List Rw} (h : OkR l) {a : Int} (he : errA a [] = 0) : (addV l a []).1 = dropV l a := by
  refine can_ext (addV_ok h a []).can (dropV_ok h a).can fun p => ?_
  rw [mem_addV h he, mem_dropV h]
  have : (tagsV []).1 = [] := by rw [tagsV_ok (l := []) ⟨by simp, by decide⟩]; simp [srtK, dd]
  rw [this]; simp
theorem order_drop {l : List Rw} (h : OkR l) (a b : Int) : dropV (dropV l a) b = dropV (dropV l b) a := by
  refine can_ext (dropV_ok (dropV_ok h a) b).can (dropV_ok (dropV_ok h b) a).can fun p => ?_
  rw [mem_dropV (dropV_ok h a), mem_dropV h, mem_dropV (dropV_ok h b), mem_dropV h, and_right_comm]
/-! ### Sizes -/
theorem ids_few {l : List Rw} (h : OkR l) {r : Rw} (hr : r ∈ l) : r.ids.length ≤ 192 := by
  have h1 := flat_few h
  rw [flat_len] at h1
  obtain ⟨a, b, rfl⟩ := List.append_of_mem hr
  rw [allIds_app, show allIds (r :: b) = allIds [r] ++ allIds b from allIds_app [r] b] at h1
  simp [allIds] at h1
  omega
theorem rows_few {l : List Rw} (h : OkR l) : l.length ≤ 192 := by
  have h1 := flat_few h
  have h2 : l.length ≤ (flat l).length := by
    have := h.can.2
    clear h h1
    induction l with
    | nil => simp
    | cons r l ih =>
      have h3 := ih fun s hs => this s (List.mem_cons_of_mem _ hs)
      have h4 := List.length_pos_iff.2 (this r (List.mem_cons_self ..)).1
      rw [show flat (r :: l) = flat [r] ++ flat l from flat_app [r] l, List.length_append, flat_one]
      simp
      omega
  omega
theorem ok_size {l : List Rw} (h : OkR l) : l.length ≤ 1000000 ∧ ∀ r, r ∈ l → r.tag.length ≤ 1000000 ∧ r.ids.length ≤ 1000000 := by
  have h1 := rows_few h
  refine ⟨by omega, fun r hr => ?_⟩
  have h2 := ids_few h hr
  have h3 := (h.tag r hr).2
  omega
theorem ok_nil : OkR [] := ⟨⟨.nil, by simp⟩, by simp, by simp, by simp [allIds]⟩
/-! ### TagsBoth -/
theorem who_own {l : List Rw} (h : CanR l) {i : Nat} (hi : i < l.length) : whoV l (l.getD i default).tag = (l.getD i default).ids := by
  refine whoV_at hi (fun j hj e => ?_) rfl
  have h1 := (List.pairwise_iff_getElem.1 h.1) j i (by omega) hi hj
  rw [List.getD_eq_getElem?_getD, List.getD_eq_getElem?_getD, List.getElem?_eq_getElem hi, List.getElem?_eq_getElem (by omega)] at e
  simp only [Option.getD_some] at e
  rw [e] at h1
  exact List.lt_irrefl _ h1
/-! ### TagsModel -/
end Go.Proofs.Ytmgcoopmbohkoaa
