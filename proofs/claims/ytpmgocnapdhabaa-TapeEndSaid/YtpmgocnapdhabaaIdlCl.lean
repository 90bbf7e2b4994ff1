/-
  Ideal states: cells of one kind.
-/
import Derived.Test.YtpmgocnapdhabaaIdlZ
namespace Go.Idl
open Go

/-- Cells of one kind: a list of words. -/
def cl {α : Type} (f : α → Value) (l : List α) : List IV := l.map fun x => .sc (f x)
section
variable {α : Type} {f : α → Value} {l a b : List α} {i n : Nat} {x : α}
theorem cl_length : (cl f l).length = l.length := by simp [cl]
theorem cl_getD [Inhabited α] (h : i < l.length) : (cl f l).getD i .any = .sc (f (l.getD i default)) := getD_map_sc h
theorem cl_drop : (cl f l).drop n = cl f (l.drop n) := by simp [cl, List.map_drop]
theorem cl_take : (cl f l).take n = cl f (l.take n) := by simp [cl, List.map_take]
theorem cl_app : cl f a ++ cl f b = cl f (a ++ b) := by simp [cl]
theorem cl_app' {r : List IV} : cl f a ++ (cl f b ++ r) = cl f (a ++ b) ++ r := by simp [cl]
theorem cl_snoc : cl f a ++ [.sc (f x)] = cl f (a ++ [x]) := by simp [cl]
theorem cl_set : (cl f a).set i (.sc (f x)) = cl f (a.set i x) := by simp [cl, List.map_set]
theorem cl_closed : IV.closedL (cl f l) = true := closedL_mapf _ fun _ => rfl
theorem freshL_mapf {α : Type} {f : α → IV} (l : List α) (h : ∀ x, (f x).fresh = true) : IV.freshL (l.map f) = true := by
  induction l with
  | nil => rfl
  | cons x l ih => simp [IV.freshL, h, ih]
theorem relabL_mapf {α : Type} {f : α → IV} (l : List α) (h : ∀ x, (f x).relab = f x) : IV.relabL (l.map f) = l.map f := by
  induction l with
  | nil => rfl
  | cons x l ih => simp [IV.relabL, h, ih]
theorem renL_mapf {α : Type} {f : α → IV} {σ : Nat → Option Nat} (l : List α) (h : ∀ x, (f x).ren σ = f x) : IV.renL σ (l.map f) = l.map f := by
  induction l with
  | nil => rfl
  | cons x l ih => simp [IV.renL, h, ih]
theorem cl_fresh : IV.freshL (cl f l) = true := freshL_mapf _ fun _ => rfl
theorem cl_relab : IV.relabL (cl f l) = cl f l := relabL_mapf _ fun _ => by simp [IV.relab]
theorem cl_ren {σ : Nat → Option Nat} : IV.renL σ (cl f l) = cl f l := renL_mapf _ fun _ => by simp [IV.ren]
theorem cl_ones (h : ∀ x, (f x).oneCell' = true) : IV.ones (cl f l) = true := ones_map _ h
theorem cl_ones_int {k : IntKind} {l : List Int} : IV.ones (cl (Value.int k) l) = true := cl_ones fun _ => rfl
theorem cl_ones_bool {l : List Bool} : IV.ones (cl Value.bool l) = true := cl_ones fun _ => rfl
theorem cl_zeros_int {k : IntKind} : zrep n [.sc (.int k 0)] = cl (Value.int k) (List.replicate n 0) := by simp [cl, zrep]
theorem cl_zeros_bool {b : Bool} : zrep n [.sc (.bool b)] = cl Value.bool (List.replicate n b) := by simp [cl, zrep]
end
theorem int_default : (default : Int) = 0 := rfl
theorem bool_default : (default : Bool) = false := rfl
attribute [go_sem] cl_length cl_getD cl_drop cl_take cl_app cl_app' cl_snoc cl_set cl_closed cl_fresh cl_relab cl_ren cl_ones_int cl_ones_bool cl_zeros_int cl_zeros_bool int_default bool_default

abbrev ints (l : List Int) : List IV := cl (Value.int .i64) l
abbrev bools (l : List Bool) : List IV := cl Value.bool l
/-- Frozen: new since the call began; not so. -/
abbrev isl (l : List Int) : IV := .fz true (cl (Value.int .i64) l) l.length
abbrev isl' (l : List Int) : IV := .fz false (cl (Value.int .i64) l) l.length
theorem isl_fresh (l : List Int) : (isl l).fresh = true := by simp [IV.fresh, cl_fresh]
attribute [go_sem] isl_fresh
end Go.Idl
