/-
  A table: it does not matter to what keys have in which order they came.
-/
import Derived.Test.YtgchgdfigbonhaaTbM
namespace Go.Proofs.Ytgchgdfigbonhaa
open Go Go.Idl
set_option linter.unusedSimpArgs false
set_option linter.unusedVariables false
set_option maxRecDepth 100000
set_option maxHeartbeats 8000000
/-- It keeps just those keys, each with how many bytes it has. -/
structure Hs (l : List Pl) (S : Ks → Prop) : Prop where
  ok : OkT l
  mem : ∀ x : Pl, x.key ≠ [] → (x ∈ l ↔ S x.key ∧ x.val = (x.key.length : Int))
theorem Hs.congr {l : List Pl} {S S' : Ks → Prop} (h : Hs l S) (e : ∀ q, S q ↔ S' q) : Hs l S' := ⟨h.ok, fun x hx => by rw [h.mem x hx, e]⟩
theorem Hs.start : Hs noT (fun _ => False) := ⟨noT_ok, fun x hx => ⟨fun h => absurd (noT_mem h) hx, fun h => h.1.elim⟩⟩
theorem Hs.put {l : List Pl} {S : Ks → Prop} (h : Hs l S) (k : Ks) (hf : held l < 96) : Hs (putT l k k.length).1 (fun q => S q ∨ (q = k ∧ keyOk k)) ∧ held (putT l k k.length).1 ≤ held l + 1 := by
  by_cases hk : keyOk k
  · obtain ⟨m, e, hi⟩ := put_in h.ok k.length hk hf
    rw [e]
    refine ⟨⟨hi.ok, fun x hx => ?_⟩, hi.few⟩
    rw [hi.mem x hx]
    constructor
    · rintro (rfl | ⟨h1, h2⟩)
      · exact ⟨.inr ⟨rfl, hk⟩, rfl⟩
      · obtain ⟨h3, h4⟩ := (h.mem x hx).1 h1
        exact ⟨.inl h3, h4⟩
    · rintro ⟨h1 | ⟨h1, _⟩, h2⟩
      · by_cases e : x.key = k
        · left
          obtain ⟨a, b⟩ := x
          simp only at e h2
          subst e; subst h2; rfl
        · exact .inr ⟨(h.mem x hx).2 ⟨h1, h2⟩, e⟩
      · left
        obtain ⟨a, b⟩ := x
        simp only at h1 h2
        subst h1; subst h2; rfl
  · rw [put_bad h.ok _ hk]
    exact ⟨h.congr fun q => ⟨.inl, fun z => z.elim id fun y => absurd y.2 hk⟩, Nat.le_succ _⟩
theorem Hs.get {l m : List Pl} {S : Ks → Prop} (h : Hs l S) (h' : Hs m S) (q : Ks) : getV l q = getV m q :=
  get_ext h.ok h'.ok fun v hq => by rw [h.mem ⟨q, v⟩ hq, h'.mem ⟨q, v⟩ hq]
theorem Hs.keys {l m : List Pl} {S : Ks → Prop} (h : Hs l S) (h' : Hs m S) : keysV l = keysV m :=
  keys_eq h.ok (keys_up h'.ok) fun k => by
    rw [keys_mem h'.ok]
    constructor
    · rintro ⟨hk, v, hv⟩
      exact ⟨hk, v, (h.mem ⟨k, v⟩ hk).2 ((h'.mem ⟨k, v⟩ hk).1 hv)⟩
    · rintro ⟨hk, v, hv⟩
      exact ⟨hk, v, (h'.mem ⟨k, v⟩ hk).2 ((h.mem ⟨k, v⟩ hk).1 hv)⟩
theorem Hs.del {l m : List Pl} {S : Ks → Prop} (h : Hs l S) (h' : Hs m S) (k : Ks) : ∃ a b e S', delT l k = (a, e) ∧ delT m k = (b, e) ∧ Hs a S' ∧ Hs b S' := by
  have hg := h.get h' k
  rcases del_cases h.ok k with ⟨x, e⟩ | ⟨x, a, e, hd⟩
  · exact ⟨l, m, 120, S, e, del_no h'.ok (hg ▸ x), h, h'⟩
  · obtain ⟨b, e', hd'⟩ := del_in h'.ok (k := k) (hg ▸ x)
    have key : ∀ {t u : List Pl}, Hs t S → Del t k u → Hs u (fun q => S q ∧ q ≠ k) := fun ht hu =>
      ⟨hu.ok, fun x hx => by
        rw [hu.mem x hx, ht.mem x hx]
        exact ⟨fun ⟨⟨a, b⟩, c⟩ => ⟨⟨a, c⟩, b⟩, fun ⟨⟨a, c⟩, b⟩ => ⟨⟨a, b⟩, c⟩⟩⟩
    exact ⟨a, b, 0, _, e, e', key h hd, key h' hd'⟩
def SA (K : List Ks) (i : Nat) (q : Ks) : Prop := ∃ j, j < i ∧ K.getD j [] = q ∧ keyOk q
def SB (K : List Ks) (f i : Nat) (q : Ks) : Prop := ∃ j, j < i ∧ K.getD ((j + f) % K.length) [] = q ∧ keyOk q
theorem SA_succ (K : List Ks) (i : Nat) (q : Ks) : (SA K i q ∨ (q = K.getD i [] ∧ keyOk (K.getD i []))) ↔ SA K (i + 1) q := by
  constructor
  · rintro (⟨j, h1, h2, h3⟩ | ⟨rfl, h⟩)
    · exact ⟨j, by omega, h2, h3⟩
    · exact ⟨i, by omega, rfl, h⟩
  · rintro ⟨j, h1, h2, h3⟩
    rcases Nat.lt_succ_iff_lt_or_eq.1 h1 with h | rfl
    · exact .inl ⟨j, h, h2, h3⟩
    · exact .inr ⟨h2.symm, h2 ▸ h3⟩
theorem SB_succ (K : List Ks) (f i : Nat) (q : Ks) : (SB K f i q ∨ (q = K.getD ((i + f) % K.length) [] ∧ keyOk (K.getD ((i + f) % K.length) []))) ↔ SB K f (i + 1) q := by
  constructor
  · rintro (⟨j, h1, h2, h3⟩ | ⟨rfl, h⟩)
    · exact ⟨j, by omega, h2, h3⟩
    · exact ⟨i, by omega, rfl, h⟩
  · rintro ⟨j, h1, h2, h3⟩
    rcases Nat.lt_succ_iff_lt_or_eq.1 h1 with h | rfl
    · exact .inl ⟨j, h, h2, h3⟩
    · exact .inr ⟨h2.symm, h2 ▸ h3⟩
theorem SA_SB (K : List Ks) (f : Nat) (q : Ks) : SA K K.length q ↔ SB K f K.length q := by
  constructor
  · rintro ⟨j, h1, h2, h3⟩
    have hn : 0 < K.length := by omega
    have hf : f % K.length < K.length := Nat.mod_lt _ hn
    refine ⟨(j + (K.length - f % K.length)) % K.length, Nat.mod_lt _ hn, ?_, h3⟩
    rw [Nat.mod_add_mod]
    have e : j + (K.length - f % K.length) + f = j + K.length * (f / K.length + 1) := by
      have := Nat.mod_add_div f K.length
      rw [Nat.mul_add, Nat.mul_one]; omega
    rw [e, Nat.add_mul_mod_self_left, Nat.mod_eq_of_lt h1]
    exact h2
  · rintro ⟨j, h1, h2, h3⟩
    exact ⟨(j + f) % K.length, Nat.mod_lt _ (by omega), h2, h3⟩
theorem idx_mod (i f n : Nat) : ((i : Int) + (f : Int)) % (n : Int) = (((i + f) % n : Nat) : Int) := by
  rw [← Int.natCast_add, Int.natCast_emod]
attribute [local irreducible] Go.Idl.IWP Go.Idl.IOps Go.Idl.Obl Go.Idl.OpG Go.Idl.thenI Go.Idl.inBlockI Go.Idl.LoopU Go.Idl.noGotoI Go.Idl.jumpI
attribute [local go_sem] List.length_set splice2 splice_places relab_fz1 idx_mod
theorem turns_law (K : List Ks) (f : Nat) (gone : Ks) (hf : f < 256) (hL : K.length ≤ 9223372036854775807) (hgL : gone.length ≤ 9223372036854775807) :
    Idl.Spec Try.prog 7 [.fz false (strs K) K.length, .sc (.int .u8 f), .sc (.string ⟨⟨gone⟩⟩)] [] (Only (.sc (.bool true)) []) := by
  by_cases h30 : K.length ≤ 30
  · by_cases hg : gone.length ≤ 100
    · refine sB Try.func7 Try.ntmps7 ?_
      repeat' (first
        | refine IOps_nil ?_
        | refine oS ?_
        | refine IOps_s rfl rfl ?_
        | refine oT ?_
        | refine IOps_s0 rfl ?_
        | refine oC (π := []) (hs := by first | exact table_awake | fail) (hx := ?_)
        | refine oC (π := []) (hs := by first | exact new_spec | fail) (hx := ?_)
        | refine oZ ?_
        | refine oI ?_
        | refine thenI_n ?_
        | refine IWP_seq ?_
        | refine IWP_region ?_
        | refine IWP_ct rfl ?_
        | refine IWP_cf rfl ?_
        | refine IWP_skip ?_
        | refine IWP_ret ?_
        | refine IWP_block ?_
        | refine inB_n ?_
        | refine thenI_r ?_
        | refine thenI_e ?_
        | refine inB_r ?_
        | refine inB_hit ?_
        | refine inB_miss rfl ?_
        | refine IWP_exit ?_
        | refine IWP_scope ?_
        | refine IWP_label ?_
        | refine noG_n ?_
        | refine noG_r ?_
        | refine noG_e ?_
        | refine jmp_n ?_
        | refine jmp_r ?_
        | refine jmp_e ?_
        | refine jmp_g ?_
        | refine thenI_g ?_
        | refine inB_g ?_
        | refine IWP_goto ?_
        | refine Loop_n ?_
        | refine oD (id := 12) W7_12 [] O7_12 [_, _, _, _, _, _, _, _, _, _, _, _, _, _, _, _] [_] rfl (by repeat' (first | exact trivial | refine And.intro ?_ ?_ | exact bS | exact bX | exact bZ | exact bI | exact bC (π := []) (hs := by first | exact table_awake | fail) | exact bC (π := []) (hs := by first | exact new_spec | fail) | fail)) ?_
        | refine oD (id := 13) W7_13 [] O7_13 [_, _, _, _, _, _, _, _, _, _, _, _, _, _, _, _] [_] rfl (by repeat' (first | exact trivial | refine And.intro ?_ ?_ | exact bS | exact bX | exact bZ | exact bI | exact bC (π := []) (hs := by first | exact table_awake | fail) | exact bC (π := []) (hs := by first | exact new_spec | fail) | fail)) ?_
        | fail)
      refine IWP_loop (fun x : List Pl × List Pl × Nat => ⟨144, [(0, .fz false (strs K) K.length), (1, .sc (.int .u8 f)), (2, .sc (.string ⟨⟨gone⟩⟩)), (6, .sc (.bool false)), (7, .sc (.bool true)), (8, .fz true (places x.1) x.1.length), (9, .fz true (places x.2.1) x.2.1.length), (10, .i64 x.2.2)], []⟩)
        (fun x => x.2.2 ≤ K.length ∧ (Hs x.1 (SA K x.2.2) ∧ held x.1 ≤ x.2.2) ∧ (Hs x.2.1 (SB K f x.2.2) ∧ held x.2.1 ≤ x.2.2) ∧ ∀ j, j < x.2.2 → (K.getD j []).length ≤ 100) (fun x => K.length - x.2.2) (noT, noT, 0) (lP []) ⟨Nat.zero_le _, ⟨Hs.start.congr fun q => ⟨False.elim, fun ⟨_, h, _⟩ => absurd h (Nat.not_lt_zero _)⟩, by rw [noT_held]; exact Nat.zero_le _⟩, ⟨Hs.start.congr fun q => ⟨False.elim, fun ⟨_, h, _⟩ => absurd h (Nat.not_lt_zero _)⟩, by rw [noT_held]; exact Nat.zero_le _⟩, fun j h => absurd h (Nat.not_lt_zero _)⟩ ?_
      rintro ⟨A, B, i⟩ ⟨hi, ⟨hA, hAf⟩, ⟨hB, hBf⟩, hlen⟩
      simp only at hi hA hAf hB hBf hlen ⊢
      have hAl := hA.ok.len
      have hBl := hB.ok.len
      by_cases h : i < K.length
      · have hlt : (i + f) % K.length < K.length := Nat.mod_lt _ (by omega)
        by_cases hkl : (K.getD i []).length ≤ 100
        · have hpA := tput_spec A (K.getD i []) (K.getD i []).length (by omega)
          have hpB := tput_spec B (K.getD ((i + f) % K.length) []) (K.getD ((i + f) % K.length) []).length (by omega)
          obtain ⟨a1, a2⟩ := hA.put (K.getD i []) (by omega)
          obtain ⟨b1, b2⟩ := hB.put (K.getD ((i + f) % K.length) []) (by omega)
          generalize putT A (K.getD i []) (K.getD i []).length = r at hpA a1 a2
          generalize putT B (K.getD ((i + f) % K.length) []) (K.getD ((i + f) % K.length) []).length = s at hpB b1 b2
          obtain ⟨A', ea⟩ := r
          obtain ⟨B', eb⟩ := s
          simp only at a1 a2 b1 b2
          repeat' (first
            | refine IOps_nil ?_
            | refine oS ?_
            | refine IOps_s rfl rfl ?_
            | refine oT ?_
            | refine IOps_s0 rfl ?_
            | refine oC (π := []) (hs := by first | exact hpA | fail) (hx := ?_)
            | refine oC (π := []) (hs := by first | exact hpB | fail) (hx := ?_)
            | refine oZ ?_
            | refine oI ?_
            | refine thenI_n ?_
            | refine IWP_seq ?_
            | refine IWP_region ?_
            | refine IWP_ct rfl ?_
            | refine IWP_cf rfl ?_
            | refine IWP_skip ?_
            | refine IWP_ret ?_
            | refine IWP_block ?_
            | refine inB_n ?_
            | refine thenI_r ?_
            | refine thenI_e ?_
            | refine inB_r ?_
            | refine inB_hit ?_
            | refine inB_miss rfl ?_
            | refine IWP_exit ?_
            | refine IWP_scope ?_
            | refine IWP_label ?_
            | refine noG_n ?_
            | refine noG_r ?_
            | refine noG_e ?_
            | refine jmp_n ?_
            | refine jmp_r ?_
            | refine jmp_e ?_
            | refine jmp_g ?_
            | refine thenI_g ?_
            | refine inB_g ?_
            | refine IWP_goto ?_
            | refine Loop_n ?_
            | refine oD (id := 12) W7_12 [] O7_12 [_, _, _, _, _, _, _, _, _, _, _, _, _, _, _, _] [_] rfl (by repeat' (first | exact trivial | refine And.intro ?_ ?_ | exact bS | exact bX | exact bZ | exact bI | exact bC (π := []) (hs := by first | exact hpA | fail) | exact bC (π := []) (hs := by first | exact hpB | fail) | fail)) ?_
            | refine oD (id := 13) W7_13 [] O7_13 [_, _, _, _, _, _, _, _, _, _, _, _, _, _, _, _] [_] rfl (by repeat' (first | exact trivial | refine And.intro ?_ ?_ | exact bS | exact bX | exact bZ | exact bI | exact bC (π := []) (hs := by first | exact hpA | fail) | exact bC (π := []) (hs := by first | exact hpB | fail) | fail)) ?_
            | fail)
          exact ⟨(A', B', i + 1), ⟨h, ⟨a1.congr (SA_succ K i), by simp only; omega⟩, ⟨b1.congr (SB_succ K f i), by simp only; omega⟩, fun j hj => by
            rcases Nat.lt_succ_iff_lt_or_eq.1 hj with z | rfl
            · exact hlen j z
            · exact hkl⟩, by simp only; omega, lP []⟩
        · repeat' (first
            | refine IOps_nil ?_
            | refine oS ?_
            | refine IOps_s rfl rfl ?_
            | refine oT ?_
            | refine IOps_s0 rfl ?_
            | refine oZ ?_
            | refine oI ?_
            | refine thenI_n ?_
            | refine IWP_seq ?_
            | refine IWP_region ?_
            | refine IWP_ct rfl ?_
            | refine IWP_cf rfl ?_
            | refine IWP_skip ?_
            | refine IWP_ret ?_
            | refine IWP_block ?_
            | refine inB_n ?_
            | refine thenI_r ?_
            | refine thenI_e ?_
            | refine inB_r ?_
            | refine inB_hit ?_
            | refine inB_miss rfl ?_
            | refine IWP_exit ?_
            | refine IWP_scope ?_
            | refine IWP_label ?_
            | refine noG_n ?_
            | refine noG_r ?_
            | refine noG_e ?_
            | refine jmp_n ?_
            | refine jmp_r ?_
            | refine jmp_e ?_
            | refine jmp_g ?_
            | refine thenI_g ?_
            | refine inB_g ?_
            | refine IWP_goto ?_
            | refine Loop_n ?_
            | refine oD (id := 12) W7_12 [] O7_12 [_, _, _, _, _, _, _, _, _, _, _, _, _, _, _, _] [_] rfl (by repeat' (first | exact trivial | refine And.intro ?_ ?_ | exact bS | exact bX | exact bZ | exact bI | fail)) ?_
            | refine oD (id := 13) W7_13 [] O7_13 [_, _, _, _, _, _, _, _, _, _, _, _, _, _, _, _] [_] rfl (by repeat' (first | exact trivial | refine And.intro ?_ ?_ | exact bS | exact bX | exact bZ | exact bI | fail)) ?_
            | fail)
          exact pD [] ⟨rfl, rfl⟩
      · obtain rfl : i = K.length := by omega
        have hB2 : Hs B (SA K K.length) := hB.congr fun q => (SA_SB K f q).symm
        obtain ⟨X, Y, e, S, d1, d2, hX, hY⟩ := hA.del hB2 gone
        have hXl := hX.ok.len
        have hYl := hY.ok.len
        have hdA := tdel_spec A gone (by omega) (by omega)
        have hdB := tdel_spec B gone (by omega) (by omega)
        rw [d1] at hdA
        rw [d2] at hdB
        have hkX := tkeys_fz X (by omega)
        have hkY := tkeys_fz Y (by omega)
        rw [← hX.keys hY] at hkY
        have hkl2 := keysV_len (chk_ok hX.ok)
        have hXf := hX.ok.few
        have hss := ssame_spec (keysV X) (keysV X) (by omega)
        rw [decide_eq_true (rfl : keysV X = keysV X)] at hss
        generalize keysV X = ks at hkX hkY hss
        repeat' (first
          | refine IOps_nil ?_
          | refine oS ?_
          | refine IOps_s rfl rfl ?_
          | refine oT ?_
          | refine IOps_s0 rfl ?_
          | refine oC (π := []) (hs := by first | exact hdA | fail) (hx := ?_)
          | refine oC (π := []) (hs := by first | exact hdB | fail) (hx := ?_)
          | refine oZ ?_
          | refine oI ?_
          | refine thenI_n ?_
          | refine IWP_seq ?_
          | refine IWP_region ?_
          | refine IWP_ct rfl ?_
          | refine IWP_cf rfl ?_
          | refine IWP_skip ?_
          | refine IWP_ret ?_
          | refine IWP_block ?_
          | refine inB_n ?_
          | refine thenI_r ?_
          | refine thenI_e ?_
          | refine inB_r ?_
          | refine inB_hit ?_
          | refine inB_miss rfl ?_
          | refine IWP_exit ?_
          | refine IWP_scope ?_
          | refine IWP_label ?_
          | refine noG_n ?_
          | refine noG_r ?_
          | refine noG_e ?_
          | refine jmp_n ?_
          | refine jmp_r ?_
          | refine jmp_e ?_
          | refine jmp_g ?_
          | refine thenI_g ?_
          | refine inB_g ?_
          | refine IWP_goto ?_
          | refine Loop_n ?_
          | refine oD (id := 12) W7_12 [] O7_12 [_, _, _, _, _, _, _, _, _, _, _, _, _, _, _, _] [_] rfl (by repeat' (first | exact trivial | refine And.intro ?_ ?_ | exact bS | exact bX | exact bZ | exact bI | exact bC (π := []) (hs := by first | exact hdA | fail) | exact bC (π := []) (hs := by first | exact hdB | fail) | fail)) ?_
          | refine oD (id := 13) W7_13 [] O7_13 [_, _, _, _, _, _, _, _, _, _, _, _, _, _, _, _] [_] rfl (by repeat' (first | exact trivial | refine And.intro ?_ ?_ | exact bS | exact bX | exact bZ | exact bI | exact bC (π := []) (hs := by first | exact hdA | fail) | exact bC (π := []) (hs := by first | exact hdB | fail) | fail)) ?_
          | fail)
        refine IWP_loop (fun q : Nat => ⟨144, [(0, .fz false (strs K) K.length), (6, .sc (.bool false)), (7, .sc (.bool true)), (16, .fz true (places X) X.length), (17, .i64 e), (18, .fz true (places Y) Y.length), (19, .i64 e), (20, .i64 q)], []⟩)
          (fun q => q ≤ K.length) (fun q => K.length - q) 0 (lP []) (Nat.zero_le _) ?_
        rintro q hq
        by_cases h3 : q < K.length
        · have hl100 := hlen q h3
          have hgX := tget_spec X (K.getD q []) (by omega) (by omega)
          have hgY := tget_spec Y (K.getD q []) (by omega) (by omega)
          rw [getT_of hX.ok] at hgX
          rw [getT_of hY.ok, ← hX.get hY] at hgY
          generalize getV X (K.getD q []) = w at hgX hgY
          obtain ⟨w1, w2⟩ := w
          cases w2
          · repeat' (first
              | refine IOps_nil ?_
              | refine oS ?_
              | refine IOps_s rfl rfl ?_
              | refine oT ?_
              | refine IOps_s0 rfl ?_
              | refine oC (π := []) (hs := by first | exact hgX | fail) (hx := ?_)
              | refine oC (π := []) (hs := by first | exact hgY | fail) (hx := ?_)
              | refine oZ ?_
              | refine oI ?_
              | refine thenI_n ?_
              | refine IWP_seq ?_
              | refine IWP_region ?_
              | refine IWP_ct rfl ?_
              | refine IWP_cf rfl ?_
              | refine IWP_skip ?_
              | refine IWP_ret ?_
              | refine IWP_block ?_
              | refine inB_n ?_
              | refine thenI_r ?_
              | refine thenI_e ?_
              | refine inB_r ?_
              | refine inB_hit ?_
              | refine inB_miss rfl ?_
              | refine IWP_exit ?_
              | refine IWP_scope ?_
              | refine IWP_label ?_
              | refine noG_n ?_
              | refine noG_r ?_
              | refine noG_e ?_
              | refine jmp_n ?_
              | refine jmp_r ?_
              | refine jmp_e ?_
              | refine jmp_g ?_
              | refine thenI_g ?_
              | refine inB_g ?_
              | refine IWP_goto ?_
              | refine Loop_n ?_
              | refine oD (id := 12) W7_12 [] O7_12 [_, _, _, _, _, _, _, _, _, _, _, _, _, _, _, _] [_] rfl (by repeat' (first | exact trivial | refine And.intro ?_ ?_ | exact bS | exact bX | exact bZ | exact bI | exact bC (π := []) (hs := by first | exact hgX | fail) | exact bC (π := []) (hs := by first | exact hgY | fail) | fail)) ?_
              | refine oD (id := 13) W7_13 [] O7_13 [_, _, _, _, _, _, _, _, _, _, _, _, _, _, _, _] [_] rfl (by repeat' (first | exact trivial | refine And.intro ?_ ?_ | exact bS | exact bX | exact bZ | exact bI | exact bC (π := []) (hs := by first | exact hgX | fail) | exact bC (π := []) (hs := by first | exact hgY | fail) | fail)) ?_
              | fail)
            exact ⟨q + 1, by omega, by omega, lP []⟩
          · repeat' (first
              | refine IOps_nil ?_
              | refine oS ?_
              | refine IOps_s rfl rfl ?_
              | refine oT ?_
              | refine IOps_s0 rfl ?_
              | refine oC (π := []) (hs := by first | exact hgX | fail) (hx := ?_)
              | refine oC (π := []) (hs := by first | exact hgY | fail) (hx := ?_)
              | refine oZ ?_
              | refine oI ?_
              | refine thenI_n ?_
              | refine IWP_seq ?_
              | refine IWP_region ?_
              | refine IWP_ct rfl ?_
              | refine IWP_cf rfl ?_
              | refine IWP_skip ?_
              | refine IWP_ret ?_
              | refine IWP_block ?_
              | refine inB_n ?_
              | refine thenI_r ?_
              | refine thenI_e ?_
              | refine inB_r ?_
              | refine inB_hit ?_
              | refine inB_miss rfl ?_
              | refine IWP_exit ?_
              | refine IWP_scope ?_
              | refine IWP_label ?_
              | refine noG_n ?_
              | refine noG_r ?_
              | refine noG_e ?_
              | refine jmp_n ?_
              | refine jmp_r ?_
              | refine jmp_e ?_
              | refine jmp_g ?_
              | refine thenI_g ?_
              | refine inB_g ?_
              | refine IWP_goto ?_
              | refine Loop_n ?_
              | refine oD (id := 12) W7_12 [] O7_12 [_, _, _, _, _, _, _, _, _, _, _, _, _, _, _, _] [_] rfl (by repeat' (first | exact trivial | refine And.intro ?_ ?_ | exact bS | exact bX | exact bZ | exact bI | exact bC (π := []) (hs := by first | exact hgX | fail) | exact bC (π := []) (hs := by first | exact hgY | fail) | fail)) ?_
              | refine oD (id := 13) W7_13 [] O7_13 [_, _, _, _, _, _, _, _, _, _, _, _, _, _, _, _] [_] rfl (by repeat' (first | exact trivial | refine And.intro ?_ ?_ | exact bS | exact bX | exact bZ | exact bI | exact bC (π := []) (hs := by first | exact hgX | fail) | exact bC (π := []) (hs := by first | exact hgY | fail) | fail)) ?_
              | fail)
            exact ⟨q + 1, by omega, by omega, lP []⟩
        · repeat' (first
            | refine IOps_nil ?_
            | refine oS ?_
            | refine IOps_s rfl rfl ?_
            | refine oT ?_
            | refine IOps_s0 rfl ?_
            | refine oC (π := []) (hs := by first | exact hkX | fail) (hx := ?_)
            | refine oC (π := []) (hs := by first | exact hkY | fail) (hx := ?_)
            | refine oC (π := []) (hs := by first | exact hss | fail) (hx := ?_)
            | refine oZ ?_
            | refine oI ?_
            | refine thenI_n ?_
            | refine IWP_seq ?_
            | refine IWP_region ?_
            | refine IWP_ct rfl ?_
            | refine IWP_cf rfl ?_
            | refine IWP_skip ?_
            | refine IWP_ret ?_
            | refine IWP_block ?_
            | refine inB_n ?_
            | refine thenI_r ?_
            | refine thenI_e ?_
            | refine inB_r ?_
            | refine inB_hit ?_
            | refine inB_miss rfl ?_
            | refine IWP_exit ?_
            | refine IWP_scope ?_
            | refine IWP_label ?_
            | refine noG_n ?_
            | refine noG_r ?_
            | refine noG_e ?_
            | refine jmp_n ?_
            | refine jmp_r ?_
            | refine jmp_e ?_
            | refine jmp_g ?_
            | refine thenI_g ?_
            | refine inB_g ?_
            | refine IWP_goto ?_
            | refine Loop_n ?_
            | refine oD (id := 12) W7_12 [] O7_12 [_, _, _, _, _, _, _, _, _, _, _, _, _, _, _, _] [_] rfl (by repeat' (first | exact trivial | refine And.intro ?_ ?_ | exact bS | exact bX | exact bZ | exact bI | exact bC (π := []) (hs := by first | exact hkX | fail) | exact bC (π := []) (hs := by first | exact hkY | fail) | exact bC (π := []) (hs := by first | exact hss | fail) | fail)) ?_
            | refine oD (id := 13) W7_13 [] O7_13 [_, _, _, _, _, _, _, _, _, _, _, _, _, _, _, _] [_] rfl (by repeat' (first | exact trivial | refine And.intro ?_ ?_ | exact bS | exact bX | exact bZ | exact bI | exact bC (π := []) (hs := by first | exact hkX | fail) | exact bC (π := []) (hs := by first | exact hkY | fail) | exact bC (π := []) (hs := by first | exact hss | fail) | fail)) ?_
            | fail)
          exact pD [] ⟨rfl, rfl⟩
    · refine sB Try.func7 Try.ntmps7 ?_
      repeat' (first
        | refine IOps_nil ?_
        | refine oS ?_
        | refine IOps_s rfl rfl ?_
        | refine oT ?_
        | refine IOps_s0 rfl ?_
        | refine oC (π := []) (hs := by first | exact table_awake | fail) (hx := ?_)
        | refine oZ ?_
        | refine oI ?_
        | refine thenI_n ?_
        | refine IWP_seq ?_
        | refine IWP_region ?_
        | refine IWP_ct rfl ?_
        | refine IWP_cf rfl ?_
        | refine IWP_skip ?_
        | refine IWP_ret ?_
        | refine IWP_block ?_
        | refine inB_n ?_
        | refine thenI_r ?_
        | refine thenI_e ?_
        | refine inB_r ?_
        | refine inB_hit ?_
        | refine inB_miss rfl ?_
        | refine IWP_exit ?_
        | refine IWP_scope ?_
        | refine IWP_label ?_
        | refine noG_n ?_
        | refine noG_r ?_
        | refine noG_e ?_
        | refine jmp_n ?_
        | refine jmp_r ?_
        | refine jmp_e ?_
        | refine jmp_g ?_
        | refine thenI_g ?_
        | refine inB_g ?_
        | refine IWP_goto ?_
        | refine Loop_n ?_
        | refine oD (id := 12) W7_12 [] O7_12 [_, _, _, _, _, _, _, _, _, _, _, _, _, _, _, _] [_] rfl (by repeat' (first | exact trivial | refine And.intro ?_ ?_ | exact bS | exact bX | exact bZ | exact bI | exact bC (π := []) (hs := by first | exact table_awake | fail) | fail)) ?_
        | refine oD (id := 13) W7_13 [] O7_13 [_, _, _, _, _, _, _, _, _, _, _, _, _, _, _, _] [_] rfl (by repeat' (first | exact trivial | refine And.intro ?_ ?_ | exact bS | exact bX | exact bZ | exact bI | exact bC (π := []) (hs := by first | exact table_awake | fail) | fail)) ?_
        | fail)
      exact pD [] ⟨rfl, rfl⟩
  · refine sB Try.func7 Try.ntmps7 ?_
    repeat' (first
      | refine IOps_nil ?_
      | refine oS ?_
      | refine IOps_s rfl rfl ?_
      | refine oT ?_
      | refine IOps_s0 rfl ?_
      | refine oC (π := []) (hs := by first | exact table_awake | fail) (hx := ?_)
      | refine oZ ?_
      | refine oI ?_
      | refine thenI_n ?_
      | refine IWP_seq ?_
      | refine IWP_region ?_
      | refine IWP_ct rfl ?_
      | refine IWP_cf rfl ?_
      | refine IWP_skip ?_
      | refine IWP_ret ?_
      | refine IWP_block ?_
      | refine inB_n ?_
      | refine thenI_r ?_
      | refine thenI_e ?_
      | refine inB_r ?_
      | refine inB_hit ?_
      | refine inB_miss rfl ?_
      | refine IWP_exit ?_
      | refine IWP_scope ?_
      | refine IWP_label ?_
      | refine noG_n ?_
      | refine noG_r ?_
      | refine noG_e ?_
      | refine jmp_n ?_
      | refine jmp_r ?_
      | refine jmp_e ?_
      | refine jmp_g ?_
      | refine thenI_g ?_
      | refine inB_g ?_
      | refine IWP_goto ?_
      | refine Loop_n ?_
      | refine oD (id := 12) W7_12 [] O7_12 [_, _, _, _, _, _, _, _, _, _, _, _, _, _, _, _] [_] rfl (by repeat' (first | exact trivial | refine And.intro ?_ ?_ | exact bS | exact bX | exact bZ | exact bI | exact bC (π := []) (hs := by first | exact table_awake | fail) | fail)) ?_
      | refine oD (id := 13) W7_13 [] O7_13 [_, _, _, _, _, _, _, _, _, _, _, _, _, _, _, _] [_] rfl (by repeat' (first | exact trivial | refine And.intro ?_ ?_ | exact bS | exact bX | exact bZ | exact bI | exact bC (π := []) (hs := by first | exact table_awake | fail) | fail)) ?_
      | fail)
    exact pD [] ⟨rfl, rfl⟩
end Go.Proofs.Ytgchgdfigbonhaa
