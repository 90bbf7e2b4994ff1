/-
  Ideal states: maps: the rules as they are used (what can be computed is).
-/
import Derived.Test.YtmgcoopmbohkoaaIdlMp
namespace Go.Idl
open Go
set_option linter.unusedVariables false
section
variable {P : Program} {T : TT} {k nt d t ty n it since c0 clock kt et : Nat} {env : List (Nat × IV)} {h h' : List HO} {ops : Array Oper} {rest : List Oper} {K : St → Prop} {pos : String} {after : Array Edge} {g : Option (Nat × Bool)} {m kx x : Operand} {es : Array MapEntry} {seen : Array Nat}
theorem oMk (hn : IOps P k ops rest K ⟨nt, (d, .mp n) :: env, h'⟩) (hl : h.length = n := by first | exact rfl | fail) (hh : frcH (h ++ [.mp #[] 0]) = some h' := by first | exact rfl | fail)
    (hr : runsB ops ⟨some d, .makeMap t none, ty, pos, after, g⟩ ⟨nt, env, h⟩ = some true := by first | exact rfl | fail) (hd : Nat.blt d nt = true := by first | exact rfl | fail) :
    IOps P k ops (⟨some d, .makeMap t none, ty, pos, after, g⟩ :: rest) K ⟨nt, env, h⟩ := by
  have hh := frcH_eq hh; subst hh; subst hl; exact IOps_mk hr hd hn
theorem oMu (KL : Maps.Keyed P kt) {kv xv : Value} {lk : Lit} (hk : ((⟨nt, env, h⟩ : St).ev kx).val = some kv) (hx : ((⟨nt, env, h⟩ : St).ev x).val = some xv) (hlk : keyOf P kt kv = some lk) (hall : ∀ e ∈ es.toList, ∃ l, keyOf P kt e.key = some l) 
    (hn1 : (∀ e ∈ es.toList, e.key ≠ kv) → IOps P k ops rest K ⟨nt, env, h.set n (.mp (mpNew es kv xv clock) (clock + 1))⟩)
    (hn2 : ∀ j e, es.toList[j]? = some e → e.key = kv → IOps P k ops rest K ⟨nt, env, h.set n (.mp (mpOld es j kv xv) clock)⟩)
    (hu : P.underlying t = some (.map kt et) := by kernel_rfl) (hm : (⟨nt, env, h⟩ : St).ev m = .mp n := by first | exact rfl | fail) (hn : h[n]? = some (.mp es clock) := by first | exact rfl | fail)
    (hr : runsB ops ⟨none, .mapUpdate t m kx x, ty, pos, after, g⟩ ⟨nt, env, h⟩ = some true := by first | exact rfl | fail) :
    IOps P k ops (⟨none, .mapUpdate t m kx x, ty, pos, after, g⟩ :: rest) K ⟨nt, env, h⟩ := IOps_mu hr hu KL hm hk hx hn hlk hall hn1 hn2
theorem oMl (hn1 : IOps P k ops rest K ⟨nt, (d, .sc (.int .i64 es.size)) :: env, h⟩) (hu : P.underlying t = some (.map kt et) := by kernel_rfl) (hm : (⟨nt, env, h⟩ : St).ev m = .mp n := by first | exact rfl | fail) (hn : h[n]? = some (.mp es clock) := by first | exact rfl | fail)
    (hr : runsB ops ⟨some d, .call ⟨.builtin .len, #[m], #[t]⟩, ty, pos, after, g⟩ ⟨nt, env, h⟩ = some true := by first | exact rfl | fail) (hd : Nat.blt d nt = true := by first | exact rfl | fail) :
    IOps P k ops (⟨some d, .call ⟨.builtin .len, #[m], #[t]⟩, ty, pos, after, g⟩ :: rest) K ⟨nt, env, h⟩ := IOps_ml hr hd hu hm hn hn1
theorem oMr {j : Nat} (hn1 : IOps P k ops rest K ⟨nt, (d, .ptr j 0) :: env, h'⟩) (hu : P.underlying t = some (.map kt et) := by kernel_rfl) (hm : (⟨nt, env, h⟩ : St).ev m = .mp n := by first | exact rfl | fail) (hn : h[n]? = some (.mp es clock) := by first | exact rfl | fail)
    (hl : h.length = j := by first | exact rfl | fail) (hh : frcH (h ++ [.it n clock #[] clock]) = some h' := by first | exact rfl | fail)
    (hr : runsB ops ⟨some d, .range t m, ty, pos, after, g⟩ ⟨nt, env, h⟩ = some true := by first | exact rfl | fail) (hd : Nat.blt d nt = true := by first | exact rfl | fail) :
    IOps P k ops (⟨some d, .range t m, ty, pos, after, g⟩ :: rest) K ⟨nt, env, h⟩ := by
  have hh := frcH_eq hh; subst hh; subst hl; exact IOps_mr hr hd hu hm hn hn1
theorem oMn (hold : ∀ e ∈ es.toList, e.born < since) (hsc : since ≤ c0)
    (hn1 : (∀ e ∈ es.toList, e.born ∈ seen) → IOps P k ops rest K ⟨nt, (d, .tup [.sc (.bool false)]) :: env, h⟩)
    (hn2 : ∀ e ∈ es.toList, e.born ∉ seen → IOps P k ops rest K ⟨nt, (d, .tup [.sc (.bool true), ofV e.key, ofV e.val]) :: env, h.set it (.it n since (seen.push e.born) clock)⟩)
    (hx : (⟨nt, env, h⟩ : St).ev x = .ptr it 0 := by first | exact rfl | fail) (hit : h[it]? = some (.it n since seen c0) := by first | exact rfl | fail) (hn : h[n]? = some (.mp es clock) := by first | exact rfl | fail)
    (hr : runsB ops ⟨some d, .next x false, ty, pos, after, g⟩ ⟨nt, env, h⟩ = some true := by first | exact rfl | fail) (hd : Nat.blt d nt = true := by first | exact rfl | fail) :
    IOps P k ops (⟨some d, .next x false, ty, pos, after, g⟩ :: rest) K ⟨nt, env, h⟩ := IOps_mn hr hd hx hit hn hold hsc hn1 hn2
theorem oMe {e : MapEntry} (he : e ∈ es.toList) (hnd : (es.toList.map (·.born)).Nodup) (hn1 : IOps P k ops rest K ⟨nt, (d, .tup [ofV e.key, ofV e.val]) :: env, h⟩)
    (hx : (⟨nt, env, h⟩ : St).ev x = .ptr it 0 := by first | exact rfl | fail) (hit : h[it]? = some (.it n since (seen.push e.born) clock) := by first | exact rfl | fail) (hn : h[n]? = some (.mp es clock) := by first | exact rfl | fail)
    (hr : runsB ops ⟨some d, .entry x, ty, pos, after, g⟩ ⟨nt, env, h⟩ = some true := by first | exact rfl | fail) (hd : Nat.blt d nt = true := by first | exact rfl | fail) :
    IOps P k ops (⟨some d, .entry x, ty, pos, after, g⟩ :: rest) K ⟨nt, env, h⟩ := IOps_me hr hd hx hit hn he hnd hn1
end
end Go.Idl
