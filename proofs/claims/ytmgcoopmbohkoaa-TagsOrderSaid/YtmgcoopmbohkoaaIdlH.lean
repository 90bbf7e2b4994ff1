/-
  Ideal states: scalars, parts, slices: as the model has them.
-/
import Derived.Test.YtmgcoopmbohkoaaIdlG
import Derived.Lib.Strings
namespace Go.Idl
open Go

section
variable {P : Program} {T : TT} {F : Fix} {h : List HO} {w : World}

theorem list_getD_get {l : List UInt8} {i : Nat} (hi : i < l.length) : l.getD i 0 = l[i] := by simp [List.getD, hi]

theorem bytes_get (s : ByteArray) (i : Nat) (hi : i < s.data.toList.length) : s[i]? = some (s.data.toList.getD i 0) := by
  have h' : i < s.size := by rw [← ByteArray.size_data, ← Array.length_toList]; exact hi
  rw [ByteArray.getElem?_lt' s i h', list_getD_get hi]
  rfl

theorem size_len (s : ByteArray) : s.size = s.data.toList.length := by rw [Array.length_toList]; rfl

theorem iindex_sound (hT : TOk P T) {t : Nat} {x ix y : IV} {v u : Value} {ps : List Prop} (hr : R F x v) (hx : R F ix u) (e : iindex T t x ix = some (ps, y)) (hp : AllP ps) :
    ∃ z, (Instr.index t v u).run P w = .ok z w ∧ R F y z := by
  unfold iindex at e
  split at e
  case h_2 => cases e
  rename_i k i
  cases hx
  split at e
  · rename_i sz by' zz len el cs ht
    obtain ⟨inf, d, hf⟩ := hT t _ ht
    have hu := hf.arr rfl
    split at e
    · rename_i ti hti
      obtain ⟨inf2, d2, hf2⟩ := hT el ti hti
      split at e
      · rename_i p y' hy
        cases e
        obtain ⟨p1, p2, p3⟩ := hp
        cases hr with
        | agg hl =>
        obtain ⟨z, h1, h2⟩ := part_sound (w := w) hT hl hy p3
        refine ⟨z, ?_, h2⟩
        simp [Instr.index, asIntOf, run_underlying hu, p1, p2, run_sizeOf hf2.info, hf2.size, h1]
      · cases e
    · cases e
  · rename_i sz by' zz s ht
    cases e
    obtain ⟨inf, d, hf⟩ := hT t _ ht
    have hu := hf.str rfl
    obtain ⟨p1, p2, _⟩ := hp
    cases hr
    refine ⟨.int .u8 (s.data.toList.getD i.toNat 0).toNat, ?_, .sc _⟩
    have hg := bytes_get s i.toNat (by omega)
    simp only [Instr.index, asIntOf, Sem.run_bind, Sem.run_pure, Result.andThen, run_underlying hu, p1, if_true, hg]
  · cases e

theorem equalIn_bool {t : Nat} (hu : P.underlying t = some .bool) (a b : Bool) (d : Nat) : (Op.equalIn (d + 1) t (.bool a) (.bool b)).run P w = .ok (a == b) w := by
  simp only [Op.equalIn, Sem.run_bind, run_underlying hu, Result.andThen_ok, Sem.run_pure]
theorem equal_bool {t : Nat} (hu : P.underlying t = some .bool) (a b : Bool) : (Op.equal t (.bool a) (.bool b)).run P w = .ok (a == b) w := equalIn_bool hu a b 9999

theorem ibin_sound (hT : TOk P T) {op : BinOp} {t : Nat} {x y z : IV} {u v : Value} {ps : List Prop} {xo yo : Operand} (hx : R F x u) (hy : R F y v) (e : ibin T op t x y = some (ps, z)) (hp : AllP ps) :
    ∃ r, ((do eqGuard op t xo yo u v; binOp op t u v : Sem Value)).run P w = .ok r w ∧ R F z r := by
  unfold ibin at e
  split at e
  · rename_i k a k' b
    cases hx; cases hy
    simp only [eqGuard_at_int, pure_bind]
    split at e
    · cases e
      obtain ⟨p1, _⟩ := hp
      refine ⟨_, ?_, .sc _⟩
      simp [binOp, Op.shift, Int.not_lt.2 p1]
    · cases e
      obtain ⟨p1, _⟩ := hp
      refine ⟨_, ?_, .sc _⟩
      simp [binOp, Op.shift, Int.not_lt.2 p1]
    · split at e
      case isFalse => cases e
      rename_i n1 n2 hk
      subst hk
      cases e
      cases op <;> simp only [ibinInt, AllP] at hp ⊢ <;>
        first
          | exact absurd rfl n1
          | exact absurd rfl n2
          | exact hp.1.elim
          | (refine ⟨_, ?_, .sc _⟩; simp [binOp, Op.intDiv, hp.1]; done)
          | (refine ⟨_, ?_, .sc _⟩; simp [binOp, Op.intArith, Op.intCmp, Op.intBits, ibits]; done)
  · rename_i a b
    cases hx; cases hy
    cases e
    simp only [eqGuard_at_string, pure_bind]
    have hsz : (a.size : Int) + b.size = ((a.data.toList.length + b.data.toList.length : Nat) : Int) := by rw [size_len, size_len]; omega
    cases op <;> simp only [ibinStr, AllP] at hp ⊢ <;>
      first
        | exact hp.1.elim
        | (refine ⟨_, ?_, .sc _⟩; simp [binOp, Op.stringOp, ByteArray.toList_eq]; done)
        | skip
    refine ⟨.string (a ++ b), ?_, ?_⟩
    · simp only [binOp, Op.stringOp]
      rw [if_neg (by rw [size_len, size_len, IntKind.max_i64]; have := hp.1; omega)]
      rfl
    · have : a ++ b = ⟨⟨a.data.toList ++ b.data.toList⟩⟩ := by
        apply WideShapes.bytes_inj
        simp
      rw [this]; exact .sc _
  · rename_i a b
    cases hx; cases hy
    split at e
    case h_2 => cases e
    rename_i q1 q2 q3 ht
    obtain ⟨inf, d, hf⟩ := hT t _ ht
    have hu := hf.bool rfl
    simp only [eqGuard_at_bool, pure_bind]
    split at e <;> cases e
    · refine ⟨_, ?_, .sc _⟩
      show ((do pure (.bool (← Op.equal t (.bool a) (.bool b))) : Sem Value)).run P w = _
      simp only [Sem.run_bind, equal_bool hu, Result.andThen_ok, Sem.run_pure]
    · refine ⟨_, ?_, .sc _⟩
      show ((do pure (.bool (!(← Op.equal t (.bool a) (.bool b)))) : Sem Value)).run P w = _
      simp only [Sem.run_bind, equal_bool hu, Result.andThen_ok, Sem.run_pure]
  · cases e

theorem iun_sound {op : UnOp} {x z : IV} {u : Value} (hx : R F x u) (e : iun op x = some z) : ∃ r, (Op.unary op u).run P w = .ok r w ∧ R F z r := by
  unfold iun at e
  split at e <;> cases e <;> cases hx
  · exact ⟨_, by simp [Op.unary, Op.intArith], .sc _⟩
  · exact ⟨_, by simp [Op.unary, Op.intBits, ibits], .sc _⟩
  · exact ⟨_, by simp [Op.unary], .sc _⟩

theorem RO {F : Fix} {lo : Option IV} {vlo : Option Value} {o : Option Int} (hr : ∀ x, lo = some x → ∃ v, vlo = some v ∧ R F x v) (hn : lo = none → vlo = none) (e : ibound lo = some o) :
    (o = none ∧ vlo = none) ∨ ∃ k i, o = some i ∧ vlo = some (.int k i) := by
  unfold ibound at e
  split at e
  · cases e; exact .inl ⟨rfl, hn rfl⟩
  · cases e
    obtain ⟨v, h1, h2⟩ := hr _ rfl
    cases h2
    exact .inr ⟨_, _, rfl, h1⟩
  · cases e

theorem str_cut (s : ByteArray) (a b : Nat) : s.extract a b = ⟨⟨(s.data.toList.take b).drop a⟩⟩ := by
  apply WideShapes.bytes_inj
  rw [Lib.extract_data]
  show _ = (s.data.toList.take b).drop a
  rw [List.drop_take]

theorem sliceBound_run (k : IntKind) (i : Int) (y : Nat) (code : BoundsCode) (h0 : 0 ≤ i) (h1 : i ≤ y) : (Instr.sliceBound (.int k i) y code).run P w = .ok i.toNat w := run_sliceBound w k i y code h0 h1

theorem sliceBounds_run {isl : Bool} {len cap : Nat} {lo hi mx : Option Int} {vlo vhi vmx : Option Value}
    (hlo : (lo = none ∧ vlo = none) ∨ ∃ k i, lo = some i ∧ vlo = some (.int k i)) (hhi : (hi = none ∧ vhi = none) ∨ ∃ k i, hi = some i ∧ vhi = some (.int k i))
    (hmx : (mx = none ∧ vmx = none) ∨ ∃ k i, mx = some i ∧ vmx = some (.int k i)) {l hh m : Nat}
    (em : (mx = none ∧ m = cap) ∨ ∃ i, mx = some i ∧ 0 ≤ i ∧ i ≤ cap ∧ m = i.toNat) (eh : (hi = none ∧ mx = none ∧ hh = len) ∨ ∃ i, hi = some i ∧ 0 ≤ i ∧ i ≤ m ∧ hh = i.toNat)
    (el : (lo = none ∧ l = 0) ∨ ∃ i, lo = some i ∧ 0 ≤ i ∧ i ≤ hh ∧ l = i.toNat) :
    (Instr.sliceBounds isl len cap vlo vhi vmx).run P w = .ok (l, hh, m) w := by
  unfold Instr.sliceBounds
  rcases hmx with ⟨rfl, rfl⟩ | ⟨km, im, rfl, rfl⟩ <;> rcases hhi with ⟨rfl, rfl⟩ | ⟨kh, ih, rfl, rfl⟩ <;> rcases hlo with ⟨rfl, rfl⟩ | ⟨kl, il, rfl, rfl⟩ <;>
    rcases em with ⟨h1, rfl⟩ | ⟨i, h1, m1, m2, rfl⟩ <;> (try cases h1) <;> rcases eh with ⟨h2, h2', rfl⟩ | ⟨i2, h2, n1, n2, rfl⟩ <;> (try cases h2) <;> (try cases h2') <;>
    rcases el with ⟨h3, rfl⟩ | ⟨i3, h3, o1, o2, rfl⟩ <;> (try cases h3)
  all_goals simp (disch := assumption) only [Sem.run_bind, Sem.run_pure, Result.andThen_ok, sliceBound_run]

end
end Go.Idl
