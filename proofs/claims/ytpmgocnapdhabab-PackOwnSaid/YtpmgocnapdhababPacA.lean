/-
  Numbers as bytes: what is put is taken again.
-/
import Derived.Test.YtpmgocnapdhababChecked
import Derived.Test.YtpmgocnapdhababIdlCl
import Derived.Test.YtpmgocnapdhababPlan
namespace Go.Proofs.Ytpmgocnapdhabab
open Go Go.Idl
set_option linter.unusedSimpArgs false
set_option linter.unusedVariables false
set_option maxRecDepth 100000
set_option maxHeartbeats 1000000
attribute [local irreducible] Go.Idl.IWP Go.Idl.IOps Go.Idl.Obl Go.Idl.OpG Go.Idl.thenI Go.Idl.inBlockI Go.Idl.LoopU Go.Idl.noGotoI Go.Idl.jumpI
def T : TT := [(3, { size := 1, bytes := 8, zero := [.int .i64], kind := .int .i64 }),
  (4, { size := 1, bytes := 1, zero := [.bool], kind := .bool }),
  (5, { size := 1, bytes := 1, zero := [.int .u8], kind := .int .u8 }),
  (9, { size := 1, bytes := 16, zero := [.str], kind := .str }),
  (27, { size := 1, bytes := 8, zero := [.int .i64], kind := .int .i64 }),
  (24, { size := 1, bytes := 8, zero := [.int .u64], kind := .int .u64 }),
  (22, { size := 1, bytes := 24, zero := [.slc], kind := .slc 24 }),
  (23, { size := 1, bytes := 24, zero := [.slc], kind := .slc 9 }),
  (43, { size := 1, bytes := 2, zero := [.int .u16], kind := .int .u16 }),
  (49, { size := 1, bytes := 24, zero := [.slc], kind := .slc 5 })]
theorem tok : TOk Try.prog T := TOk.of (by kernel_rfl)

/-! ### The bytes of a number -/
def encF : Nat → Int → List UInt8
  | 0, n => [UInt8.ofNat n.toNat]
  | k + 1, n => if n < 128 then [UInt8.ofNat n.toNat] else UInt8.ofNat (n % 128 + 128).toNat :: encF k (n / 128)
def enc (n : Int) : List UInt8 := encF 9 n
theorem encF_small {k : Nat} {n : Int} (h : n < 128) : encF k n = [UInt8.ofNat n.toNat] := by
  cases k with
  | zero => rfl
  | succ k => exact if_pos h
theorem encF_more {k : Nat} {n : Int} (h : ¬ n < 128) : encF (k + 1) n = UInt8.ofNat (n % 128 + 128).toNat :: encF k (n / 128) := if_neg h
theorem encF_len : ∀ (k : Nat) (n : Int), 1 ≤ (encF k n).length ∧ (encF k n).length ≤ k + 1
  | 0, n => ⟨by simp [encF], by simp [encF]⟩
  | k + 1, n => by
    unfold encF; split
    · simp
    · have := encF_len k (n / 128); simp; omega
theorem enc_len (n : Int) : 1 ≤ (enc n).length ∧ (enc n).length ≤ 10 := encF_len 9 n

/-- What bytes tell, from the i-th digit on, with n told. -/
def takeF : Nat → Nat → Int → List UInt8 → Option (Int × List UInt8)
  | 0, _, _, _ => none
  | _ + 1, _, _, [] => none
  | f + 1, i, n, d :: r =>
    if i = 9 ∧ d.toNat > 1 then none
    else if d.toNat ≥ 128 then takeF f (i + 1) (n + (d.toNat : Int) % 128 * 128 ^ i) r
    else if d.toNat = 0 ∧ i > 0 then none
    else some (n + (d.toNat : Int) % 128 * 128 ^ i, r)
def takeV (b : List UInt8) : Option (Int × List UInt8) := takeF 10 0 0 b

theorem u8n (n : Int) (h0 : 0 ≤ n) (h : n < 256) : ((UInt8.ofNat n.toNat).toNat : Int) = n := by
  rw [UInt8.toNat_ofNat']; omega
theorem pow_succ' (i : Nat) : (128 : Int) ^ (i + 1) = 128 * 128 ^ i := by rw [Int.pow_succ, Int.mul_comm]

theorem split_mul (m P : Int) : m % 128 * P + m / 128 * (128 * P) = m * P := by
  have h : m = 128 * (m / 128) + m % 128 := by omega
  rw [← Int.mul_assoc, ← Int.add_mul]
  congr 1; omega

/-- What was put is taken. -/
theorem takeF_enc : ∀ (k i : Nat) (n m : Int) (r : List UInt8), 0 ≤ m → i + k = 9 → m < 2 * 128 ^ k → (0 < i → 0 < m) → takeF (k + 1) i n (encF k m ++ r) = some (n + m * 128 ^ i, r)
  | 0, i, n, m, r, h0, hi, hm, hp => by
    have hm1 : m < 2 := by simpa using hm
    have hd := u8n m h0 (by omega)
    obtain rfl : i = 9 := by omega
    have hpm := hp (by omega)
    show takeF 1 9 n (UInt8.ofNat m.toNat :: r) = _
    unfold takeF
    rw [if_neg (by omega), if_neg (by omega), if_neg (by omega), hd, Int.emod_eq_of_lt h0 (by omega)]
  | k + 1, i, n, m, r, h0, hi, hm, hp => by
    have hk : m < 2 * (128 * 128 ^ k) := by rw [pow_succ'] at hm; exact hm
    by_cases hs : m < 128
    · rw [encF_small hs]
      have hd := u8n m h0 (by omega)
      show takeF (k + 2) i n (UInt8.ofNat m.toNat :: r) = _
      unfold takeF
      rw [if_neg (by omega), if_neg (by omega), if_neg (by intro h; have := hp h.2; omega), hd, Int.emod_eq_of_lt h0 (by omega)]
    · rw [encF_more hs]
      have hd := u8n (m % 128 + 128) (by omega) (by omega)
      show takeF (k + 2) i n (UInt8.ofNat (m % 128 + 128).toNat :: (encF k (m / 128) ++ r)) = _
      unfold takeF
      rw [if_neg (by omega), if_pos (by omega), hd, show (m % 128 + 128) % 128 = m % 128 by omega]
      rw [takeF_enc k (i + 1) _ (m / 128) r (by omega) (by omega) (by omega) (by omega)]
      rw [pow_succ', Int.add_assoc, split_mul]

/-- What is taken was put. -/
theorem takeF_own : ∀ (k i : Nat) (n v : Int) (b r : List UInt8), i + k = 9 → takeF (k + 1) i n b = some (v, r) → ∃ m, 0 ≤ m ∧ m < 2 * 128 ^ k ∧ (0 < i → 0 < m) ∧ b = encF k m ++ r ∧ v = n + m * 128 ^ i
  | k, i, n, v, [], r, _, h => by simp [takeF] at h
  | k, i, n, v, d :: b, r, hi, h => by
    have hd := d.toNat_lt
    unfold takeF at h
    split at h
    · cases h
    · rename_i h1
      split at h
      · rename_i h2
        cases k with
        | zero => exact absurd ⟨by omega, by omega⟩ h1
        | succ k =>
          obtain ⟨m, q0, q1, q2, q3, q4⟩ := takeF_own k (i + 1) _ v b r (by omega) h
          have hpos := q2 (by omega)
          refine ⟨(d.toNat : Int) % 128 + 128 * m, by omega, by rw [pow_succ']; omega, fun _ => by omega, ?_, ?_⟩
          · rw [encF_more (by omega), show ((d.toNat : Int) % 128 + 128 * m) / 128 = m by omega, q3]
            have : UInt8.ofNat (((d.toNat : Int) % 128 + 128 * m) % 128 + 128).toNat = d := by
              rw [show (((d.toNat : Int) % 128 + 128 * m) % 128 + 128).toNat = d.toNat by omega]; simp
            rw [this]; rfl
          · rw [q4, pow_succ', Int.add_assoc, ← split_mul ((d.toNat : Int) % 128 + 128 * m), show ((d.toNat : Int) % 128 + 128 * m) / 128 = m by omega, show ((d.toNat : Int) % 128 + 128 * m) % 128 = (d.toNat : Int) % 128 by omega]
      · rename_i h2
        split at h
        · cases h
        · rename_i h3
          cases h
          refine ⟨d.toNat, by omega, ?_, fun hi0 => by omega, ?_, by rw [Int.emod_eq_of_lt (by omega) (by omega)]⟩
          · cases k with
            | zero => simp; omega
            | succ k =>
              have : (1 : Int) ≤ 128 ^ k := by
                have := Int.pow_pos (n := 128) (m := k) (by omega); omega
              rw [pow_succ']; omega
          · rw [encF_small (by omega)]; simp

theorem p64 : (2 : Int) * 128 ^ 9 = 18446744073709551616 := by decide
theorem takeV_enc {n : Int} (h0 : 0 ≤ n) (h1 : n < 18446744073709551616) (r : List UInt8) : takeV (enc n ++ r) = some (n, r) := by
  have := takeF_enc 9 0 0 n r h0 rfl (by rw [p64]; exact h1) (fun h => by omega)
  simpa [takeV, enc] using this
theorem takeV_own {b r : List UInt8} {v : Int} (h : takeV b = some (v, r)) : b = enc v ++ r ∧ 0 ≤ v ∧ v < 18446744073709551616 := by
  obtain ⟨m, q0, q1, q2, q3, q4⟩ := takeF_own 9 0 0 v b r rfl h
  rw [p64] at q1
  have : v = m := by simpa using q4
  subst this
  exact ⟨q3, q0, q1⟩

/-! ### Texts -/
def encT (t : List UInt8) : List UInt8 := enc t.length ++ t
def takeT (b : List UInt8) : Option (List UInt8 × List UInt8) :=
  match takeV b with
  | none => none
  | some (n, r) => if n > (r.length : Int) then none else some (r.take n.toNat, r.drop n.toNat)
theorem takeT_enc (t r : List UInt8) (h : t.length < 18446744073709551616) : takeT (encT t ++ r) = some (t, r) := by
  unfold takeT encT
  rw [List.append_assoc, takeV_enc (by omega) (by omega)]
  simp only [List.length_append, Int.toNat_natCast]
  rw [if_neg (by omega), List.take_left, List.drop_left]
theorem takeT_own {b t r : List UInt8} (h : takeT b = some (t, r)) : b = encT t ++ r ∧ t.length < 18446744073709551616 ∧ t.length + r.length ≤ b.length ∧ r.length < b.length := by
  unfold takeT at h
  split at h
  · cases h
  · rename_i n q hq
    obtain ⟨h1, h2, h3⟩ := takeV_own hq
    split at h
    · cases h
    · rename_i hn
      cases h
      have hl : (q.take n.toNat).length = n.toNat := by simp; omega
      have he := enc_len n
      refine ⟨?_, by omega, by rw [h1]; simp; omega, by rw [h1]; simp; omega⟩
      unfold encT
      rw [hl, show ((n.toNat : Nat) : Int) = n by omega, List.append_assoc, List.take_append_drop, ← h1]

/-! ### Lists of texts -/
def encTs (l : List (List UInt8)) : List UInt8 := (l.map encT).flatten
def encL (l : List (List UInt8)) : List UInt8 := enc l.length ++ encTs l
/-- k texts out of bytes; f: more than there are bytes. -/
def takeM : Nat → Int → List UInt8 → Option (List (List UInt8) × List UInt8)
  | 0, _, _ => none
  | f + 1, k, b =>
    if k ≤ 0 then some ([], b)
    else match takeT b with
      | none => none
      | some (t, r) => match takeM f (k - 1) r with | none => none | some (l, q) => some (t :: l, q)
def takeL (b : List UInt8) : Option (List (List UInt8) × List UInt8) :=
  match takeV b with
  | none => none
  | some (n, r) => takeM (r.length + 1) n r

theorem takeM_enc : ∀ (l : List (List UInt8)) (f : Nat) (r : List UInt8), (∀ t ∈ l, t.length < 18446744073709551616) → (encTs l ++ r).length < f → takeM f l.length (encTs l ++ r) = some (l, r)
  | [], f, r, _, hf => by
    obtain ⟨f, rfl⟩ : ∃ g, f = g + 1 := ⟨f - 1, by omega⟩
    unfold takeM; rw [if_pos (by simp)]; rfl
  | t :: l, f, r, ht, hf => by
    obtain ⟨f, rfl⟩ : ∃ g, f = g + 1 := ⟨f - 1, by omega⟩
    have e : encTs (t :: l) ++ r = encT t ++ (encTs l ++ r) := by simp [encTs]
    rw [e] at hf ⊢
    have h1 := takeT_enc t (encTs l ++ r) (ht t (by simp))
    have h2 := (takeT_own h1).2.2.2
    unfold takeM
    rw [if_neg (by simp only [List.length_cons]; omega), h1]
    simp only
    rw [show (((t :: l).length : Nat) : Int) - 1 = (l.length : Int) by simp, takeM_enc l f r (fun t h => ht t (by simp [h])) (by omega)]
theorem takeM_own : ∀ (f : Nat) (k : Int) (b : List UInt8) (l : List (List UInt8)) (r : List UInt8), 0 ≤ k → takeM f k b = some (l, r) → b = encTs l ++ r ∧ (l.length : Int) = k ∧ (∀ t ∈ l, t.length < 18446744073709551616) ∧ l.length + r.length ≤ b.length
  | 0, _, _, _, _, _, h => by simp [takeM] at h
  | f + 1, k, b, l, r, hk, h => by
    unfold takeM at h
    split at h
    · cases h
      exact ⟨by simp [encTs], by simp; omega, (fun t h => by cases h), by simp⟩
    · split at h
      · cases h
      · rename_i t q ht
        split at h
        · cases h
        · rename_i l' r' hl
          cases h
          obtain ⟨h1, h2, h3, h4⟩ := takeT_own ht
          obtain ⟨k1, k2, k3, k4⟩ := takeM_own f (k - 1) q l' r (by omega) hl
          refine ⟨by rw [h1, k1]; simp [encTs], by simp; omega, fun x hx => ?_, by simp; omega⟩
          rcases List.mem_cons.1 hx with rfl | hx
          · exact h2
          · exact k3 x hx
theorem takeL_enc (l : List (List UInt8)) (r : List UInt8) (hl : l.length < 18446744073709551616) (h : ∀ t ∈ l, t.length < 18446744073709551616) : takeL (encL l ++ r) = some (l, r) := by
  unfold takeL encL
  rw [List.append_assoc, takeV_enc (by omega) (by omega)]
  exact takeM_enc l _ r h (by omega)
theorem takeL_own {b r : List UInt8} {l : List (List UInt8)} (h : takeL b = some (l, r)) : b = encL l ++ r ∧ (∀ t ∈ l, t.length < 18446744073709551616) ∧ l.length + r.length ≤ b.length := by
  unfold takeL at h
  split at h
  · cases h
  · rename_i n q hq
    obtain ⟨h1, h2, h3⟩ := takeV_own hq
    obtain ⟨k1, k2, k3, k4⟩ := takeM_own _ n q l r h2 h
    have he := enc_len n
    refine ⟨?_, k3, by rw [h1]; simp; omega⟩
    unfold encL
    rw [k2, List.append_assoc, ← k1, ← h1]

/-! ### What is cut is none -/
theorem cut_none {α : Type} {P : List UInt8 → Option (α × List UInt8)} {E : α → List UInt8} {ok : α → Prop} (det : ∀ v r, ok v → P (E v ++ r) = some (v, r)) (own : ∀ b v r, P b = some (v, r) → b = E v ++ r ∧ ok v)
    {v : α} (hv : ok v) {k : Nat} (hk : k < (E v).length) : P ((E v).take k) = none := by
  cases h : P ((E v).take k) with
  | none => rfl
  | some x =>
    obtain ⟨u, r⟩ := x
    obtain ⟨h1, h2⟩ := own _ _ _ h
    have h3 := det v [] hv
    have h4 : E v ++ [] = E u ++ (r ++ (E v).drop k) := by
      rw [List.append_nil, ← List.append_assoc, ← h1, List.take_append_drop]
    rw [h4, det u _ h2] at h3
    injection h3 with h3
    injection h3 with _ h5
    have := congrArg List.length h5
    simp at this; omega
end Go.Proofs.Ytpmgocnapdhabab
