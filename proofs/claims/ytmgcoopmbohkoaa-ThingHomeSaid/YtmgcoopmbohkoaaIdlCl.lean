/-
  Ideal states: cells of one kind.
-/
import Derived.Test.YtmgcoopmbohkoaaIdlZ
import Derived.ScopeJumps
namespace Go.Idl
open Go

/-- Cells of one kind: a list of words. -/
def cl {α : Type} (f : α → Value) (l : List α) : List IV := l.map fun x => .sc (f x)
section
variable {α : Type} {f : α → Value} {l a b : List α} {i n : Nat} {x : α}
theorem cl_length : (cl f l).length = l.length := by simp [cl]
theorem cl_getD [Inhabited α] (h : i < l.length) : (cl f l).getD i .any = .sc (f (l.getD i default)) := getD_map_sc h
theorem cl_drop : (cl f l).drop n = cl f (l.drop n) := by simp [cl, List.map_drop]
theorem cl_take : (cl f l).take n = cl f (l.take n) := by simp [cl, List.map_take]
theorem cl_app : cl f a ++ cl f b = cl f (a ++ b) := by simp [cl]
theorem cl_app' {r : List IV} : cl f a ++ (cl f b ++ r) = cl f (a ++ b) ++ r := by simp [cl]
theorem cl_snoc : cl f a ++ [.sc (f x)] = cl f (a ++ [x]) := by simp [cl]
theorem cl_set : (cl f a).set i (.sc (f x)) = cl f (a.set i x) := by simp [cl, List.map_set]
theorem cl_splice {o : Nat} : splice (cl f a) o (cl f b) = cl f (a.take o ++ (b ++ a.drop (o + b.length))) := by simp [splice, cl, List.map_take, List.map_drop]
theorem cl_closed : IV.closedL (cl f l) = true := closedL_mapf _ fun _ => rfl
theorem freshL_mapf {α : Type} {f : α → IV} (l : List α) (h : ∀ x, (f x).fresh = true) : IV.freshL (l.map f) = true := by
  induction l with
  | nil => rfl
  | cons x l ih => simp [IV.freshL, h, ih]
theorem relabL_mapf {α : Type} {f : α → IV} (l : List α) (h : ∀ x, (f x).relab = f x) : IV.relabL (l.map f) = l.map f := by
  induction l with
  | nil => rfl
  | cons x l ih => simp [IV.relabL, h, ih]
theorem renL_mapf {α : Type} {f : α → IV} {σ : Nat → Option Nat} (l : List α) (h : ∀ x, (f x).ren σ = f x) : IV.renL σ (l.map f) = l.map f := by
  induction l with
  | nil => rfl
  | cons x l ih => simp [IV.renL, h, ih]
theorem cl_fresh : IV.freshL (cl f l) = true := freshL_mapf _ fun _ => rfl
theorem cl_relab : IV.relabL (cl f l) = cl f l := relabL_mapf _ fun _ => by simp [IV.relab]
theorem cl_ren {σ : Nat → Option Nat} : IV.renL σ (cl f l) = cl f l := renL_mapf _ fun _ => by simp [IV.ren]
theorem cl_ones (h : ∀ x, (f x).oneCell' = true) : IV.ones (cl f l) = true := ones_map _ h
theorem cl_ones_int {k : IntKind} {l : List Int} : IV.ones (cl (Value.int k) l) = true := cl_ones fun _ => rfl
theorem cl_ones_bool {l : List Bool} : IV.ones (cl Value.bool l) = true := cl_ones fun _ => rfl
theorem cl_zeros_int {k : IntKind} : zrep n [.sc (.int k 0)] = cl (Value.int k) (List.replicate n 0) := by simp [cl, zrep]
theorem cl_zeros_bool {b : Bool} : zrep n [.sc (.bool b)] = cl Value.bool (List.replicate n b) := by simp [cl, zrep]
end
theorem int_default : (default : Int) = 0 := rfl
theorem bool_default : (default : Bool) = false := rfl
attribute [go_sem] cl_splice cl_length cl_getD cl_drop cl_take cl_app cl_app' cl_snoc cl_set cl_closed cl_fresh cl_relab cl_ren cl_ones_int cl_ones_bool cl_zeros_int cl_zeros_bool int_default bool_default

abbrev ints (l : List Int) : List IV := cl (Value.int .i64) l
abbrev bools (l : List Bool) : List IV := cl Value.bool l
/-- Frozen: new since the call began; not so. -/
abbrev isl (l : List Int) : IV := .fz true (cl (Value.int .i64) l) l.length
abbrev isl' (l : List Int) : IV := .fz false (cl (Value.int .i64) l) l.length
theorem isl_fresh (l : List Int) : (isl l).fresh = true := by simp [IV.fresh, cl_fresh]
attribute [go_sem] isl_fresh

/-! ### Bytes, texts, u64s -/
abbrev u8V (b : UInt8) : Value := .int .u8 (b.toNat : Int)
abbrev strV (l : List UInt8) : Value := .string ⟨⟨l⟩⟩
abbrev u8s (l : List UInt8) : List IV := cl u8V l
abbrev u64s (l : List Int) : List IV := cl (Value.int .u64) l
abbrev strs (l : List (List UInt8)) : List IV := cl strV l
theorem u8_fold {l : List UInt8} : (l.map fun b => IV.sc (Value.int .u8 (b.toNat : Int))) = cl u8V l := rfl
theorem u8_snoc {l : List UInt8} {m : Int} (h0 : 0 ≤ m) (h1 : m < 256) : cl u8V l ++ [.sc (.int .u8 m)] = cl u8V (l ++ [UInt8.ofNat m.toNat]) := by
  have : ((UInt8.ofNat m.toNat).toNat : Int) = m := by rw [UInt8.toNat_ofNat']; omega
  rw [← cl_snoc]; simp only [u8V, this]
theorem str_snoc {a : List (List UInt8)} {x : List UInt8} : cl strV a ++ [.sc (.string ⟨⟨x⟩⟩)] = cl strV (a ++ [x]) := cl_snoc
theorem u8_all {l : List UInt8} : (cl u8V l).all isByteV = true := by simp [cl, isByteV]
theorem u8_unbyte {l : List UInt8} : (cl u8V l).map unbyte = l := by
  unfold cl
  rw [List.map_map]
  have : (unbyte ∘ fun x => IV.sc (u8V x)) = id := by
    funext b; simp [unbyte]
  rw [this, List.map_id]
theorem cl_ones_u8 {l : List UInt8} : IV.ones (cl u8V l) = true := cl_ones fun _ => rfl
theorem cl_ones_str {l : List (List UInt8)} : IV.ones (cl strV l) = true := cl_ones fun _ => rfl
theorem list_default {α : Type} : (default : List α) = [] := rfl
theorem u8_default : (default : UInt8) = 0 := rfl
attribute [go_sem] u8_fold u8_snoc str_snoc u8_all u8_unbyte cl_ones_u8 cl_ones_str list_default u8_default

/-! ### A block is no longer said to be new -/
theorem HIn.unflag {F : Fix} {h : List HO} {w : World} (hi : HIn F h w) {n : Nat} {cs : List IV} (e : h[n]? = some (.arr true cs)) : HStep F F h (h.set n (.arr false cs)) w w := by
  have hlt := lt_of_get e
  have hlive : ∀ m, live (h.set n (.arr false cs)) m → live h m := by
    rintro m ⟨x, hx, hd⟩
    by_cases hm : n = m
    · subst hm; exact ⟨_, e, by simp⟩
    · rw [List.getElem?_set_ne hm] at hx; exact ⟨x, hx, hd⟩
  refine ⟨Ext.refl F, ⟨by simp [hi.N], hi.rd, fun m x hx => ?_, fun a b ha hb => hi.inj a b (hlive a ha) (hlive b hb), fun a ha => hi.dis a (hlive a ha)⟩, Fr.refl _ w, fun m hm hb => .inr ⟨m, hlive m hm, hb, rfl⟩, fun a v ha => .inl ha⟩
  by_cases hm : n = m
  · subst hm; rw [List.getElem?_set] at hx; simp [hlt] at hx; rw [← hx]
    rcases hi.obj n _ e with h1 | ⟨vs, ty, lo, hi', k1, k2, k3, k4, k5⟩
    · exact .inl h1
    · exact .inr ⟨vs, ty, lo, hi', k1, k2, k3, (fun h => by cases h), k5⟩
  · rw [List.getElem?_set_ne hm] at hx; exact hi.obj m x hx

section
variable {P : Program} {k nt : Nat} {env : List (Nat × IV)} {h : List HO} {Q : Exit → St → Prop} {x : Code}
theorem wO (n : Nat) {cs : List IV} {h' : List HO} (hw : IWP P k x Q ⟨nt, env, h'⟩) (hn : h[n]? = some (.arr true cs) := by first | exact rfl | fail) (hh : frcH (h.set n (.arr false cs)) = some h' := by first | exact rfl | fail) : IWP P k x Q ⟨nt, env, h⟩ := by
  have hh := frcH_eq hh
  subst hh
  refine IWP.le ?_ hw
  rintro cx a w ⟨F, hF⟩
  exact ⟨F, hF.defers, hF.size, hF.step.trans (hF.step.hin.unflag hn), hF.env, hF.base, hF.names, hF.n0⟩
end

/-! ### Labels, and jumps back -/
def noGotoI (Q : Exit → St → Prop) : Exit → St → Prop
  | .goto _, _ => False
  | e, s => Q e s
def jumpI (l : Nat) (J : St → Prop) (Q : Exit → St → Prop) : Exit → St → Prop
  | .goto l', s => l' = l ∧ J s
  | e, s => Q e s

section
variable {P : Program} {k : Nat} {s : St} {Q : Exit → St → Prop} {c : Code} {l id : Nat} {J : St → Prop}
theorem IWP_scope (h : IWP P k c (noGotoI Q) s) : IWP P k (.scope c) Q s := fun cx a w hs =>
  wp_scope_straight (wp_mono (h cx a w hs) fun e a' w' ⟨s', h1, h2⟩ => by
    cases e with
    | goto l => exact h1
    | _ => exact ⟨s', h1, h2⟩)
theorem noG_n (h : Q .normal s) : noGotoI Q .normal s := h
theorem noG_r (h : Q .ret s) : noGotoI Q .ret s := h
theorem noG_e (h : Q (.exit id) s) : noGotoI Q (.exit id) s := h
theorem jmp_n (h : Q .normal s) : jumpI l J Q .normal s := h
theorem jmp_r (h : Q .ret s) : jumpI l J Q .ret s := h
theorem jmp_e (h : Q (.exit id) s) : jumpI l J Q (.exit id) s := h
theorem jmp_g (h : J s) : jumpI l J Q (.goto l) s := ⟨rfl, h⟩
theorem thenI_g {n : St → Prop} (h : Q (.goto l) s) : thenI n Q (.goto l) s := h
theorem inB_g (h : Q (.goto l) s) : inBlockI id Q (.goto l) s := h

/-- A scope in which the run jumps back to one label. -/
theorem IWP_jumps {rest : Code} (l : Nat) (hf : findLabel c l = some rest) {α : Type} (S : α → St) (I : α → Prop) (μ : α → Nat)
    (first : IWP P k c (jumpI l (fun s' => ∃ x, I x ∧ Le k s' (S x)) Q) s)
    (pass : ∀ x, I x → IWP P k rest (jumpI l (fun s' => ∃ x', I x' ∧ μ x' < μ x ∧ Le k s' (S x')) Q) (S x)) : IWP P k (.scope c) Q s := fun cx a w hs => by
  intro b kk cs
  have hg : gotoIn l (.inScope c :: kk) = some (.code rest :: .inScope c :: kk) := by simp [gotoIn, hf]
  have key : ∀ n x, μ x = n → I x → ∀ a w, Sim cx k (S x) a w → ∃ e a' w', (∃ s', Q e s' ∧ Sim cx k s' a' w') ∧ Arrives P (lone (b.at a (.code rest :: .inScope c :: kk)) cs w) b kk cs e a' w' := by
    intro n
    induction n using Nat.strongRecOn with
    | _ n ih =>
      intro x hn hx a w hsx
      obtain ⟨e, a₁, w₁, ⟨s', hq, hs'⟩, harr⟩ := pass x hx cx a w hsx b (.inScope c :: kk) cs
      cases e with
      | normal => exact ⟨.normal, a₁, w₁, ⟨s', hq, hs'⟩, Steps.trans harr (.one step_inScope)⟩
      | exit id => exact ⟨.exit id, a₁, w₁, ⟨s', hq, hs'⟩, fun k' hk => harr k' (by simp [exitTo, hk])⟩
      | goto l' =>
        obtain ⟨rfl, x', hx', hlt, hle⟩ := hq
        obtain ⟨e₂, a₂, w₂, hq₂, harr₂⟩ := ih _ (by omega) x' rfl hx' a₁ w₁ (hle cx a₁ w₁ hs')
        exact ⟨e₂, a₂, w₂, hq₂, .of_steps (harr _ hg) harr₂⟩
      | ret => exact ⟨_, a₁, w₁, ⟨s', hq, hs'⟩, harr⟩
      | panic ch => exact ⟨_, a₁, w₁, ⟨s', hq, hs'⟩, harr⟩
      | outgrown => exact ⟨_, a₁, w₁, ⟨s', hq, hs'⟩, harr⟩
  obtain ⟨e, a₁, w₁, ⟨s', hq, hs'⟩, harr⟩ := first cx a w hs b (.inScope c :: kk) cs
  cases e with
  | normal => exact ⟨.normal, a₁, w₁, ⟨s', hq, hs'⟩, .head step_scope (Steps.trans harr (.one step_inScope))⟩
  | exit id => exact ⟨.exit id, a₁, w₁, ⟨s', hq, hs'⟩, fun k' hk => .head step_scope (harr k' (by simp [exitTo, hk]))⟩
  | goto l' =>
    obtain ⟨rfl, x, hx, hle⟩ := hq
    obtain ⟨e₂, a₂, w₂, hq₂, harr₂⟩ := key _ x rfl hx a₁ w₁ (hle cx a₁ w₁ hs')
    exact ⟨e₂, a₂, w₂, hq₂, .of_steps (.head step_scope (harr _ hg)) harr₂⟩
  | ret => exact ⟨_, a₁, w₁, ⟨s', hq, hs'⟩, .of_steps (.one step_scope) harr⟩
  | panic ch => exact ⟨_, a₁, w₁, ⟨s', hq, hs'⟩, .of_steps (.one step_scope) harr⟩
  | outgrown => exact ⟨_, a₁, w₁, ⟨s', hq, hs'⟩, .of_steps (.one step_scope) harr⟩
end
end Go.Idl
