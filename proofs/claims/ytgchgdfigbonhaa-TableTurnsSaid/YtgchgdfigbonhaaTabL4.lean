/-
  A table: ninety-six keys have room, and no more.
-/
import Derived.Test.YtgchgdfigbonhaaTbM
namespace Go.Proofs.Ytgchgdfigbonhaa
open Go Go.Idl
set_option linter.unusedSimpArgs false
set_option linter.unusedVariables false
set_option maxRecDepth 100000
set_option maxHeartbeats 8000000
def kk (i : Nat) : Ks := [UInt8.ofNat (97 + i / 10), UInt8.ofNat (48 + i % 10)]
theorem kk_ok (i : Nat) : keyOk (kk i) := ⟨by simp [kk], by simp [kk]⟩
theorem kk_inj {i j : Nat} (hi : i < 120) (hj : j < 120) (h : kk i = kk j) : i = j := by
  unfold kk at h
  simp only [List.cons.injEq, and_true] at h
  have h1 := congrArg UInt8.toNat h.1
  have h2 := congrArg UInt8.toNat h.2
  simp only [UInt8.toNat_ofNat'] at h1 h2
  omega
theorem put_new {l : List Pl} (h : OkT l) {k : Ks} (v : Int) (hk : keyOk k) (hf : held l < 96) (hn : ∀ x, x ∈ l → x.key ≠ k) : ∃ m, putT l k v = (m, 0) ∧ Ins l k v m ∧ held m = held l + 1 := by
  obtain ⟨m, e, hi⟩ := put_in h v hk hf
  refine ⟨m, e, hi, ?_⟩
  have hna : ky l (seekV l k) ≠ k := fun z => hn _ (h.mem.2 ⟨_, seek_lt l k, rfl⟩) z
  have hfree : ky l (seekV l k) = [] := (h.seek k).2.1.elim id fun z => absurd z hna
  have hme : m = l.set (seekV l k) ⟨k, v⟩ := by
    have : putT l k v = (l.set (seekV l k) ⟨k, v⟩, 0) := by
      unfold putT
      rw [chk_ok h, if_neg (by decide), if_neg (fun x => x hk), if_neg (fun x => by omega)]
    rw [this] at e
    exact (congrArg Prod.fst e).symm
  have := held_set (l := l) (i := seekV l k) ⟨k, v⟩ (by rw [h.len]; exact seek_lt l k)
  rw [if_neg (fun z => z hfree), if_pos (show k ≠ [] from keyOk_ne hk)] at this
  rw [hme]; omega
theorem put_old {l : List Pl} (h : OkT l) {k : Ks} {w : Int} (v : Int) (hk : keyOk k) (hm : (⟨k, w⟩ : Pl) ∈ l) : ∃ m, putT l k v = (m, 0) ∧ Ins l k v m ∧ held m = held l := by
  have hne := keyOk_ne hk
  obtain ⟨p, hp, hx⟩ := h.mem.1 hm
  have hkp : ky l p = k := by unfold ky; rw [hx]
  have hat : ky l (seekV l k) = k := by
    have := h.at hp (by rw [hkp]; exact hne)
    rw [hkp] at this
    rw [this]; exact hkp
  rcases put_cases h k v with ⟨x, _⟩ | ⟨_, _, x, _⟩ | ⟨_, _, m, e, hi⟩
  · exact absurd hk x
  · exact absurd rfl (x _ hm)
  · refine ⟨m, e, hi, ?_⟩
    have hme : m = l.set (seekV l k) ⟨k, v⟩ := by
      have : putT l k v = (l.set (seekV l k) ⟨k, v⟩, 0) := by
        unfold putT
        rw [chk_ok h, if_neg (by decide), if_neg (fun x => x hk), if_neg (fun x => x.1 hat)]
      rw [this] at e
      exact (congrArg Prod.fst e).symm
    have := held_set (l := l) (i := seekV l k) ⟨k, v⟩ (by rw [h.len]; exact seek_lt l k)
    rw [if_pos (by rw [hat]; exact hne), if_pos (show k ≠ [] from hne)] at this
    rw [hme]; omega
structure FI (l : List Pl) (i : Nat) : Prop where
  ok : OkT l
  few : held l = min i 96
  mem : ∀ x : Pl, x.key ≠ [] → (x ∈ l ↔ ∃ j : Nat, j < i ∧ j < 96 ∧ x = ⟨kk j, j⟩)
theorem FI.start : FI noT 0 := ⟨noT_ok, by rw [noT_held]; rfl, fun x hx => ⟨fun h => absurd (noT_mem h) hx, fun ⟨j, h, _⟩ => absurd h (Nat.not_lt_zero j)⟩⟩
theorem FI.room {l : List Pl} {i : Nat} (h : FI l i) (hi : i < 96) : ∃ m, putT l (kk i) i = (m, 0) ∧ FI m (i + 1) := by
  have hf := h.few
  obtain ⟨m, e, hI, hh⟩ := put_new h.ok (i : Int) (kk_ok i) (by omega) (fun x hx hk => by
    obtain ⟨j, j1, j2, rfl⟩ := (h.mem x (by rw [hk]; exact keyOk_ne (kk_ok i))).1 hx
    have := kk_inj (by omega) (by omega) hk
    omega)
  refine ⟨m, e, hI.ok, by omega, fun x hx => ?_⟩
  rw [hI.mem x hx]
  constructor
  · rintro (rfl | ⟨h1, h2⟩)
    · exact ⟨i, by omega, hi, rfl⟩
    · obtain ⟨j, j1, j2, j3⟩ := (h.mem x hx).1 h1
      exact ⟨j, by omega, j2, j3⟩
  · rintro ⟨j, j1, j2, rfl⟩
    rcases Nat.lt_succ_iff_lt_or_eq.1 j1 with z | rfl
    · refine .inr ⟨(h.mem _ hx).2 ⟨j, z, j2, rfl⟩, fun hk => ?_⟩
      have := kk_inj (by omega) (by omega) (show kk j = kk i from hk)
      omega
    · exact .inl rfl
theorem FI.full {l : List Pl} {i : Nat} (h : FI l i) (hi : 96 ≤ i) (hi2 : i < 120) : putT l (kk i) i = (l, 110) ∧ FI l (i + 1) := by
  have hf := h.few
  refine ⟨?_, h.ok, by omega, fun x hx => ?_⟩
  · rcases put_cases h.ok (kk i) i with ⟨x, _⟩ | ⟨_, _, _, e⟩ | ⟨_, z, _⟩
    · exact absurd (kk_ok i) x
    · exact e
    · rcases z with z | ⟨x, hx, hk⟩
      · omega
      · obtain ⟨j, j1, j2, rfl⟩ := (h.mem x (by rw [hk]; exact keyOk_ne (kk_ok i))).1 hx
        have := kk_inj (by omega) hi2 hk
        omega
  · rw [h.mem x hx]
    exact ⟨fun ⟨j, a, b, c⟩ => ⟨j, by omega, b, c⟩, fun ⟨j, a, b, c⟩ => ⟨j, by omega, b, c⟩⟩
theorem idx_mod1 (i n : Nat) : (i : Int) % (n : Int) = ((i % n : Nat) : Int) := (Int.natCast_emod i n).symm
theorem idx_mod96 (i : Nat) : (i : Int) % 96 = ((i % 96 : Nat) : Int) := (Int.natCast_emod i 96).symm
theorem FI.last {l : List Pl} {i k : Nat} (h : FI l i) (h1 : k < i) (h2 : k < 96) : ∃ m, putT l (kk k) 1000 = (m, 0) ∧ OkT m ∧ getV m (kk k) = (1000, true) ∧ (keysV m).length = min i 96 := by
  obtain ⟨m, e, hI, hh⟩ := put_old h.ok (w := (k : Int)) 1000 (kk_ok k) ((h.mem ⟨kk k, (k : Int)⟩ (keyOk_ne (kk_ok k))).2 ⟨k, h1, h2, rfl⟩)
  exact ⟨m, e, hI.ok, ins_self hI (keyOk_ne (kk_ok k)), by rw [keysV_len (chk_ok hI.ok), hh, h.few]⟩
attribute [local irreducible] Go.Idl.IWP Go.Idl.IOps Go.Idl.Obl Go.Idl.OpG Go.Idl.thenI Go.Idl.inBlockI Go.Idl.LoopU Go.Idl.noGotoI Go.Idl.jumpI
attribute [local go_sem] List.length_set splice2 splice_places relab_fz1 idx_mod1 idx_mod96
theorem full_law (n a : Nat) (hn : n < 256) (ha : a < 256) : Idl.Spec Try.prog 5 [.sc (.int .u8 n), .sc (.int .u8 a)] [] (Only (.sc (.bool true)) []) := by
  have hmany : n % 120 < 120 := Nat.mod_lt _ (by decide)
  refine sB Try.func5 Try.ntmps5 ?_
  repeat' (first
    | refine IOps_nil ?_
    | refine oS ?_
    | refine IOps_s rfl rfl ?_
    | refine oT ?_
    | refine IOps_s0 rfl ?_
    | refine oC (π := []) (hs := by first | exact table_awake | fail) (hx := ?_)
    | refine oC (π := []) (hs := by first | exact new_spec | fail) (hx := ?_)
    | refine oZ ?_
    | refine oI ?_
    | refine thenI_n ?_
    | refine IWP_seq ?_
    | refine IWP_region ?_
    | refine IWP_ct rfl ?_
    | refine IWP_cf rfl ?_
    | refine IWP_skip ?_
    | refine IWP_ret ?_
    | refine IWP_block ?_
    | refine inB_n ?_
    | refine thenI_r ?_
    | refine thenI_e ?_
    | refine inB_r ?_
    | refine inB_hit ?_
    | refine inB_miss rfl ?_
    | refine IWP_exit ?_
    | refine IWP_scope ?_
    | refine IWP_label ?_
    | refine noG_n ?_
    | refine noG_r ?_
    | refine noG_e ?_
    | refine jmp_n ?_
    | refine jmp_r ?_
    | refine jmp_e ?_
    | refine jmp_g ?_
    | refine thenI_g ?_
    | refine inB_g ?_
    | refine IWP_goto ?_
    | refine Loop_n ?_
    | fail)
  refine IWP_loop (fun x : List Pl × Nat => ⟨120, [(0, .sc (.int .u8 n)), (1, .sc (.int .u8 a)), (4, .sc (.bool false)), (5, .sc (.bool true)), (6, .fz true (places x.1) x.1.length), (7, .i64 (n % 120 : Nat)), (8, .i64 x.2)], []⟩)
    (fun x => x.2 ≤ n % 120 ∧ FI x.1 x.2) (fun x => n % 120 - x.2) (noT, 0) (lP []) ⟨Nat.zero_le _, FI.start⟩ ?_
  rintro ⟨l, i⟩ ⟨hi, hF⟩
  simp only at hi hF ⊢
  have hl := hF.ok.len
  have hfew := hF.few
  by_cases h : i < n % 120
  · have hps := tput_spec l (kk i) i (by omega)
    by_cases h96 : i < 96
    · obtain ⟨m, e, hF2⟩ := hF.room h96
      rw [e] at hps
      repeat' (first
        | refine IOps_nil ?_
        | refine oS ?_
        | refine IOps_s rfl rfl ?_
        | refine oT ?_
        | refine IOps_s0 rfl ?_
        | refine oC (π := []) (hs := by first | exact hps | fail) (hx := ?_)
        | refine oZ ?_
        | refine oI ?_
        | refine thenI_n ?_
        | refine IWP_seq ?_
        | refine IWP_region ?_
        | refine IWP_ct rfl ?_
        | refine IWP_cf rfl ?_
        | refine IWP_skip ?_
        | refine IWP_ret ?_
        | refine IWP_block ?_
        | refine inB_n ?_
        | refine thenI_r ?_
        | refine thenI_e ?_
        | refine inB_r ?_
        | refine inB_hit ?_
        | refine inB_miss rfl ?_
        | refine IWP_exit ?_
        | refine IWP_scope ?_
        | refine IWP_label ?_
        | refine noG_n ?_
        | refine noG_r ?_
        | refine noG_e ?_
        | refine jmp_n ?_
        | refine jmp_r ?_
        | refine jmp_e ?_
        | refine jmp_g ?_
        | refine thenI_g ?_
        | refine inB_g ?_
        | refine IWP_goto ?_
        | refine Loop_n ?_
        | fail)
      exact ⟨(m, i + 1), ⟨h, hF2⟩, by simp only; omega, lP []⟩
    · obtain ⟨e, hF2⟩ := hF.full (by omega) (by omega)
      rw [e] at hps
      have hsm := psame_spec l l (by omega)
      rw [decide_eq_true (rfl : l = l)] at hsm
      repeat' (first
        | refine IOps_nil ?_
        | refine oS ?_
        | refine IOps_s rfl rfl ?_
        | refine oT ?_
        | refine IOps_s0 rfl ?_
        | refine oC (π := []) (hs := by first | exact hps | fail) (hx := ?_)
        | refine oC (π := []) (hs := by first | exact hsm | fail) (hx := ?_)
        | refine oZ ?_
        | refine oI ?_
        | refine thenI_n ?_
        | refine IWP_seq ?_
        | refine IWP_region ?_
        | refine IWP_ct rfl ?_
        | refine IWP_cf rfl ?_
        | refine IWP_skip ?_
        | refine IWP_ret ?_
        | refine IWP_block ?_
        | refine inB_n ?_
        | refine thenI_r ?_
        | refine thenI_e ?_
        | refine inB_r ?_
        | refine inB_hit ?_
        | refine inB_miss rfl ?_
        | refine IWP_exit ?_
        | refine IWP_scope ?_
        | refine IWP_label ?_
        | refine noG_n ?_
        | refine noG_r ?_
        | refine noG_e ?_
        | refine jmp_n ?_
        | refine jmp_r ?_
        | refine jmp_e ?_
        | refine jmp_g ?_
        | refine thenI_g ?_
        | refine inB_g ?_
        | refine IWP_goto ?_
        | refine Loop_n ?_
        | fail)
      exact ⟨(l, i + 1), ⟨h, hF2⟩, by simp only; omega, lP []⟩
  · obtain rfl : i = n % 120 := by omega
    generalize n % 120 = t at hmany hF hfew
    clear hi h
    by_cases h0 : t = 0
    · subst h0
      repeat' (first
        | refine IOps_nil ?_
        | refine oS ?_
        | refine IOps_s rfl rfl ?_
        | refine oT ?_
        | refine IOps_s0 rfl ?_
        | refine oZ ?_
        | refine oI ?_
        | refine thenI_n ?_
        | refine IWP_seq ?_
        | refine IWP_region ?_
        | refine IWP_ct rfl ?_
        | refine IWP_cf rfl ?_
        | refine IWP_skip ?_
        | refine IWP_ret ?_
        | refine IWP_block ?_
        | refine inB_n ?_
        | refine thenI_r ?_
        | refine thenI_e ?_
        | refine inB_r ?_
        | refine inB_hit ?_
        | refine inB_miss rfl ?_
        | refine IWP_exit ?_
        | refine IWP_scope ?_
        | refine IWP_label ?_
        | refine noG_n ?_
        | refine noG_r ?_
        | refine noG_e ?_
        | refine jmp_n ?_
        | refine jmp_r ?_
        | refine jmp_e ?_
        | refine jmp_g ?_
        | refine thenI_g ?_
        | refine inB_g ?_
        | refine IWP_goto ?_
        | refine Loop_n ?_
        | fail)
      exact pD [] ⟨rfl, rfl⟩
    · by_cases hle : t ≤ 96
      · have hk : a % t < t := Nat.mod_lt _ (by omega)
        obtain ⟨m, e, hom, hgm, hkm⟩ := hF.last hk (by omega)
        have hml := hom.len
        have hps := tput_spec l (kk (a % t)) 1000 (by omega)
        rw [e] at hps
        have hgs := tget_spec m (kk (a % t)) (by omega) (by have := (kk_ok (a % t)).2; omega)
        rw [getT_of hom, hgm] at hgs
        have hks := tkeys_fz m (by omega)
        generalize keysV m = Kx at hks hkm
        repeat' (first
          | refine IOps_nil ?_
          | refine oS ?_
          | refine IOps_s rfl rfl ?_
          | refine oT ?_
          | refine IOps_s0 rfl ?_
          | refine oC (π := []) (hs := by first | exact hps | fail) (hx := ?_)
          | refine oC (π := []) (hs := by first | exact hgs | fail) (hx := ?_)
          | refine oC (π := []) (hs := by first | exact hks | fail) (hx := ?_)
          | refine oZ ?_
          | refine oI ?_
          | refine thenI_n ?_
          | refine IWP_seq ?_
          | refine IWP_region ?_
          | refine IWP_ct rfl ?_
          | refine IWP_cf rfl ?_
          | refine IWP_skip ?_
          | refine IWP_ret ?_
          | refine IWP_block ?_
          | refine inB_n ?_
          | refine thenI_r ?_
          | refine thenI_e ?_
          | refine inB_r ?_
          | refine inB_hit ?_
          | refine inB_miss rfl ?_
          | refine IWP_exit ?_
          | refine IWP_scope ?_
          | refine IWP_label ?_
          | refine noG_n ?_
          | refine noG_r ?_
          | refine noG_e ?_
          | refine jmp_n ?_
          | refine jmp_r ?_
          | refine jmp_e ?_
          | refine jmp_g ?_
          | refine thenI_g ?_
          | refine inB_g ?_
          | refine IWP_goto ?_
          | refine Loop_n ?_
          | fail)
        exact pD [] ⟨rfl, rfl⟩
      · have hk : a % 96 < 96 := Nat.mod_lt _ (by decide)
        obtain ⟨m, e, hom, hgm, hkm⟩ := hF.last (k := a % 96) (by omega) hk
        have hml := hom.len
        have hps := tput_spec l (kk (a % 96)) 1000 (by omega)
        rw [e] at hps
        have hgs := tget_spec m (kk (a % 96)) (by omega) (by have := (kk_ok (a % 96)).2; omega)
        rw [getT_of hom, hgm] at hgs
        have hks := tkeys_fz m (by omega)
        generalize keysV m = Kx at hks hkm
        repeat' (first
          | refine IOps_nil ?_
          | refine oS ?_
          | refine IOps_s rfl rfl ?_
          | refine oT ?_
          | refine IOps_s0 rfl ?_
          | refine oC (π := []) (hs := by first | exact hps | fail) (hx := ?_)
          | refine oC (π := []) (hs := by first | exact hgs | fail) (hx := ?_)
          | refine oC (π := []) (hs := by first | exact hks | fail) (hx := ?_)
          | refine oZ ?_
          | refine oI ?_
          | refine thenI_n ?_
          | refine IWP_seq ?_
          | refine IWP_region ?_
          | refine IWP_ct rfl ?_
          | refine IWP_cf rfl ?_
          | refine IWP_skip ?_
          | refine IWP_ret ?_
          | refine IWP_block ?_
          | refine inB_n ?_
          | refine thenI_r ?_
          | refine thenI_e ?_
          | refine inB_r ?_
          | refine inB_hit ?_
          | refine inB_miss rfl ?_
          | refine IWP_exit ?_
          | refine IWP_scope ?_
          | refine IWP_label ?_
          | refine noG_n ?_
          | refine noG_r ?_
          | refine noG_e ?_
          | refine jmp_n ?_
          | refine jmp_r ?_
          | refine jmp_e ?_
          | refine jmp_g ?_
          | refine thenI_g ?_
          | refine inB_g ?_
          | refine IWP_goto ?_
          | refine Loop_n ?_
          | fail)
        exact pD [] ⟨rfl, rfl⟩
end Go.Proofs.Ytgchgdfigbonhaa
