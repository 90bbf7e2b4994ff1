/-
  Ideal states: a block freezes whose slice lies within a value.
-/
import Derived.Test.YtmgcoopmbohkoaaIdlSeg
namespace Go.Idl
open Go
theorem RL.swapAt {F G : Fix} {x y : IV} {post : List IV} (hw : ∀ {x v}, R F x v → R G x v) (hx : ∀ v, R F x v → R G y v) : ∀ {pre : List IV} {vs : List Value}, RL F (pre ++ x :: post) vs → RL G (pre ++ y :: post) vs
  | [], _, .cons h t => .cons (hx _ h) (RL.map' hw t)
  | _ :: _, _, .cons h t => .cons (hw h) (RL.swapAt hw hx t)
where RL.map' {F G : Fix} (hw : ∀ {x v}, R F x v → R G x v) : ∀ {cs : List IV} {vs : List Value}, RL F cs vs → RL G cs vs
  | [], _, .nil => .nil
  | _ :: _, _, .cons h t => .cons (hw h) (RL.map' hw t)
section
variable {s : St} {k : Nat}
end
section
variable {P : Program} {T : TT} {k nt : Nat} {env : List (Nat × IV)} {h : List HO} {Q : Exit → St → Prop} {x : Code}
end
end Go.Idl
