/-
  Ideal states: cells of one kind.
-/
import Derived.Test.YtmgcoopmbohkoaaIdlZ
import Derived.ScopeJumps
namespace Go.Idl
open Go

def cl {α : Type} (f : α → Value) (l : List α) : List IV := l.map fun x => .sc (f x)
section
variable {α : Type} {f : α → Value} {l a b : List α} {i n : Nat} {x : α}
theorem cl_length : (cl f l).length = l.length := by simp [cl]
theorem cl_getD [Inhabited α] (h : i < l.length) : (cl f l).getD i .any = .sc (f (l.getD i default)) := getD_map_sc h
theorem cl_drop : (cl f l).drop n = cl f (l.drop n) := by simp [cl, List.map_drop]
theorem cl_take : (cl f l).take n = cl f (l.take n) := by simp [cl, List.map_take]
theorem cl_app : cl f a ++ cl f b = cl f (a ++ b) := by simp [cl]
theorem cl_app' {r : List IV} : cl f a ++ (cl f b ++ r) = cl f (a ++ b) ++ r := by simp [cl]
theorem cl_snoc : cl f a ++ [.sc (f x)] = cl f (a ++ [x]) := by simp [cl]
theorem cl_set : (cl f a).set i (.sc (f x)) = cl f (a.set i x) := by simp [cl, List.map_set]
theorem cl_splice {o : Nat} : splice (cl f a) o (cl f b) = cl f (a.take o ++ (b ++ a.drop (o + b.length))) := by simp [splice, cl, List.map_take, List.map_drop]
theorem cl_closed : IV.closedL (cl f l) = true := closedL_mapf _ fun _ => rfl
theorem freshL_mapf {α : Type} {f : α → IV} (l : List α) (h : ∀ x, (f x).fresh = true) : IV.freshL (l.map f) = true := by
  induction l with
  | nil => rfl
  | cons x l ih => simp [IV.freshL, h, ih]
theorem relabL_mapf {α : Type} {f : α → IV} (l : List α) (h : ∀ x, (f x).relab = f x) : IV.relabL (l.map f) = l.map f := by
  induction l with
  | nil => rfl
  | cons x l ih => simp [IV.relabL, h, ih]
theorem renL_mapf {α : Type} {f : α → IV} {σ : Nat → Option Nat} (l : List α) (h : ∀ x, (f x).ren σ = f x) : IV.renL σ (l.map f) = l.map f := by
  induction l with
  | nil => rfl
  | cons x l ih => simp [IV.renL, h, ih]
theorem cl_fresh : IV.freshL (cl f l) = true := freshL_mapf _ fun _ => rfl
theorem cl_relab : IV.relabL (cl f l) = cl f l := relabL_mapf _ fun _ => by simp [IV.relab]
theorem cl_ren {σ : Nat → Option Nat} : IV.renL σ (cl f l) = cl f l := renL_mapf _ fun _ => by simp [IV.ren]
theorem cl_ones (h : ∀ x, (f x).oneCell' = true) : IV.ones (cl f l) = true := ones_map _ h
theorem cl_ones_int {k : IntKind} {l : List Int} : IV.ones (cl (Value.int k) l) = true := cl_ones fun _ => rfl
theorem cl_ones_bool {l : List Bool} : IV.ones (cl Value.bool l) = true := cl_ones fun _ => rfl
theorem cl_zeros_int {k : IntKind} : zrep n [.sc (.int k 0)] = cl (Value.int k) (List.replicate n 0) := by simp [cl, zrep]
theorem cl_zeros_bool {b : Bool} : zrep n [.sc (.bool b)] = cl Value.bool (List.replicate n b) := by simp [cl, zrep]
end
theorem int_default : (default : Int) = 0 := rfl
theorem bool_default : (default : Bool) = false := rfl
attribute [go_sem] cl_splice cl_length cl_getD cl_drop cl_take cl_app cl_app' cl_snoc cl_set cl_closed cl_fresh cl_relab cl_ren cl_ones_int cl_ones_bool cl_zeros_int cl_zeros_bool int_default bool_default

abbrev ints (l : List Int) : List IV := cl (Value.int .i64) l
abbrev bools (l : List Bool) : List IV := cl Value.bool l
/-- Frozen: new since the call began; not so. -/
abbrev isl (l : List Int) : IV := .fz true (cl (Value.int .i64) l) l.length
abbrev isl' (l : List Int) : IV := .fz false (cl (Value.int .i64) l) l.length
theorem isl_fresh (l : List Int) : (isl l).fresh = true := by simp [IV.fresh, cl_fresh]
attribute [go_sem] isl_fresh

/-! ### Bytes, texts, u64s -/
abbrev u8V (b : UInt8) : Value := .int .u8 (b.toNat : Int)
abbrev strV (l : List UInt8) : Value := .string ⟨⟨l⟩⟩
abbrev u8s (l : List UInt8) : List IV := cl u8V l
abbrev u64s (l : List Int) : List IV := cl (Value.int .u64) l
abbrev strs (l : List (List UInt8)) : List IV := cl strV l
theorem u8_fold {l : List UInt8} : (l.map fun b => IV.sc (Value.int .u8 (b.toNat : Int))) = cl u8V l := rfl
theorem u8_snoc {l : List UInt8} {m : Int} (h0 : 0 ≤ m) (h1 : m < 256) : cl u8V l ++ [.sc (.int .u8 m)] = cl u8V (l ++ [UInt8.ofNat m.toNat]) := by
  have : ((UInt8.ofNat m.toNat).toNat : Int) = m := by rw [UInt8.toNat_ofNat']; omega
  rw [← cl_snoc]; simp only [u8V, this]
theorem str_snoc {a : List (List UInt8)} {x : List UInt8} : cl strV a ++ [.sc (.string ⟨⟨x⟩⟩)] = cl strV (a ++ [x]) := cl_snoc
theorem u8_all {l : List UInt8} : (cl u8V l).all isByteV = true := by simp [cl, isByteV]
theorem u8_unbyte {l : List UInt8} : (cl u8V l).map unbyte = l := by
  unfold cl
  rw [List.map_map]
  have : (unbyte ∘ fun x => IV.sc (u8V x)) = id := by
    funext b; simp [unbyte]
  rw [this, List.map_id]
theorem cl_ones_u8 {l : List UInt8} : IV.ones (cl u8V l) = true := cl_ones fun _ => rfl
theorem cl_ones_str {l : List (List UInt8)} : IV.ones (cl strV l) = true := cl_ones fun _ => rfl
theorem list_default {α : Type} : (default : List α) = [] := rfl
theorem u8_default : (default : UInt8) = 0 := rfl
attribute [go_sem] u8_fold u8_snoc str_snoc u8_all u8_unbyte cl_ones_u8 cl_ones_str list_default u8_default

/-! ### A block is no longer said to be new -/
section
variable {P : Program} {k nt : Nat} {env : List (Nat × IV)} {h : List HO} {Q : Exit → St → Prop} {x : Code}
end

/-! ### Labels, and jumps back -/
def noGotoI (Q : Exit → St → Prop) : Exit → St → Prop
  | .goto _, _ => False
  | e, s => Q e s
def jumpI (l : Nat) (J : St → Prop) (Q : Exit → St → Prop) : Exit → St → Prop
  | .goto l', s => l' = l ∧ J s
  | e, s => Q e s

section
variable {P : Program} {k : Nat} {s : St} {Q : Exit → St → Prop} {c : Code} {l id : Nat} {J : St → Prop}
theorem IWP_scope (h : IWP P k c (noGotoI Q) s) : IWP P k (.scope c) Q s := fun cx a w hs =>
  wp_scope_straight (wp_mono (h cx a w hs) fun e a' w' ⟨s', h1, h2⟩ => by
    cases e with
    | goto l => exact h1
    | _ => exact ⟨s', h1, h2⟩)
theorem noG_n (h : Q .normal s) : noGotoI Q .normal s := h
theorem noG_r (h : Q .ret s) : noGotoI Q .ret s := h
theorem noG_e (h : Q (.exit id) s) : noGotoI Q (.exit id) s := h
theorem jmp_n (h : Q .normal s) : jumpI l J Q .normal s := h
theorem jmp_r (h : Q .ret s) : jumpI l J Q .ret s := h
theorem jmp_e (h : Q (.exit id) s) : jumpI l J Q (.exit id) s := h
theorem jmp_g (h : J s) : jumpI l J Q (.goto l) s := ⟨rfl, h⟩
theorem thenI_g {n : St → Prop} (h : Q (.goto l) s) : thenI n Q (.goto l) s := h
theorem inB_g (h : Q (.goto l) s) : inBlockI id Q (.goto l) s := h

end
end Go.Idl
