/-
  Ideal states: arrays whose cells name blocks, slices held against nil, keys that go: the rules as they are used.
-/
import Derived.Test.YtmgcoopmbohkoaaIdlNi
namespace Go.Idl
open Go
set_option linter.unusedVariables false
section
variable {P : Program} {T : TT} {k : Nat} {ops : Array Oper} {rest : List Oper} {K : St → Prop} {nt d ty t t2 e n clock kt kt' et len : Nat} {env : List (Nat × IV)} {h h' h0 : List HO} {op : Op} {pos : String} {after : Array Edge} {g : Option (Nat × Bool)} {ps : List Prop} {y y0 : IV} {m kx xo : Operand} {es : Array MapEntry}
  {opl : List Oper} {vs : List IV} {Hs : List (List HO)} {hl : List Nat} {s : St} {i q : Nat} {o : Oper} {Q : Exit → St → Prop} {x : Code} {b : Bool} {cs : List IV}
theorem oAB (hn : IOps P k ops rest K ⟨nt, (d, y) :: env, h'⟩) (hT : TOk P T := by first | exact tok | fail)
    (hr : runsB ops ⟨some d, op, ty, pos, after, g⟩ ⟨nt, env, h⟩ = some true := by first | exact rfl | fail) (e : frc3 (iexecB T ⟨nt, env, h⟩ op) = some (ps, y0, h0) := by first | exact rfl | fail)
    (hy : y0 = y := by (try simp (disch := first | omega | (simp only [List.length_append, List.length_cons, List.length_nil, List.length_set, List.length_map, List.length_replicate, List.length_take, List.length_drop]; omega)) only [go_sem, Int.reduceAdd, Int.reduceMul, Int.reduceSub, Int.reduceDiv, Int.reduceMod, Int.reduceNeg, Int.reduceLT, Int.reduceLE, Int.reduceEq, Nat.reduceAdd, Nat.reduceSub, Nat.reduceMul, Nat.reduceDiv, Nat.reduceMod, Nat.reduceLT, Nat.reduceLeDiff, Nat.reduceEqDiff, Int.reduceToNat, reduceIte]) <;> rfl) (hh : h0 = h' := by (try simp (disch := first | omega | (simp only [List.length_append, List.length_cons, List.length_nil, List.length_set, List.length_map, List.length_replicate, List.length_take, List.length_drop]; omega)) only [go_sem, Int.reduceAdd, Int.reduceMul, Int.reduceSub, Int.reduceDiv, Int.reduceMod, Int.reduceNeg, Int.reduceLT, Int.reduceLE, Int.reduceEq, Nat.reduceAdd, Nat.reduceSub, Nat.reduceMul, Nat.reduceDiv, Nat.reduceMod, Nat.reduceLT, Nat.reduceLeDiff, Nat.reduceEqDiff, Int.reduceToNat, reduceIte]) <;> rfl) (hd : Nat.blt d nt = true := by first | exact rfl | fail) (hp : AllP ps := by (try simp only [AllP, List.append_nil, List.cons_append, List.nil_append]) <;> (repeat' (first | exact trivial | refine And.intro ?_ ?_)) <;> (first | rfl | exact Nat.le_of_ble_eq_true rfl | exact ones_map _ (fun _ => rfl) | exact closedL_mapf _ (fun _ => rfl) | omega | (simp (disch := first | omega | (simp only [List.length_append, List.length_cons, List.length_nil, List.length_set, List.length_map, List.length_replicate, List.length_take, List.length_drop]; omega)) only [go_sem, Int.reduceAdd, Int.reduceMul, Int.reduceSub, Int.reduceDiv, Int.reduceMod, Int.reduceNeg, Int.reduceLT, Int.reduceLE, Int.reduceEq, Nat.reduceAdd, Nat.reduceSub, Nat.reduceMul, Nat.reduceDiv, Nat.reduceMod, Nat.reduceLT, Nat.reduceLeDiff, Nat.reduceEqDiff, Int.reduceToNat, reduceIte]; done) | (simp (disch := first | omega | (simp only [List.length_append, List.length_cons, List.length_nil, List.length_set, List.length_map, List.length_replicate, List.length_take, List.length_drop]; omega)) only [go_sem, Int.reduceAdd, Int.reduceMul, Int.reduceSub, Int.reduceDiv, Int.reduceMod, Int.reduceNeg, Int.reduceLT, Int.reduceLE, Int.reduceEq, Nat.reduceAdd, Nat.reduceSub, Nat.reduceMul, Nat.reduceDiv, Nat.reduceMod, Nat.reduceLT, Nat.reduceLeDiff, Nat.reduceEqDiff, Int.reduceToNat, reduceIte] <;> omega) | (show IV.closedL _ = true; (simp (disch := first | omega | (simp only [List.length_append, List.length_cons, List.length_nil, List.length_set, List.length_map, List.length_replicate, List.length_take, List.length_drop]; omega)) only [go_sem, Int.reduceAdd, Int.reduceMul, Int.reduceSub, Int.reduceDiv, Int.reduceMod, Int.reduceNeg, Int.reduceLT, Int.reduceLE, Int.reduceEq, Nat.reduceAdd, Nat.reduceSub, Nat.reduceMul, Nat.reduceDiv, Nat.reduceMod, Nat.reduceLT, Nat.reduceLeDiff, Nat.reduceEqDiff, Int.reduceToNat, reduceIte]; done)) | exact EqOk.of (by kernel_rfl))) :
    IOps P k ops (⟨some d, op, ty, pos, after, g⟩ :: rest) K ⟨nt, env, h⟩ := by
  subst hy; subst hh; exact IOps_g (OpG_b hT hr (frc3_eq e) hp) hd hn
theorem oNq (h1 : len = 0 → cs = [] → IOps P k ops rest K ⟨nt, (d, .sc (.bool true)) :: env, h⟩) (h2 : IOps P k ops rest K ⟨nt, (d, .sc (.bool false)) :: env, h⟩) (hu : P.underlying t = some (.slice e) := by kernel_rfl)
    (hx : (⟨nt, env, h⟩ : St).ev xo = .fz b cs len := by first | exact rfl | fail) (hr : runsB ops ⟨some d, .binOp .eql t xo (.const (.slice none 0 0)) t2, ty, pos, after, g⟩ ⟨nt, env, h⟩ = some true := by first | exact rfl | fail) (hd : Nat.blt d nt = true := by first | exact rfl | fail) :
    IOps P k ops (⟨some d, .binOp .eql t xo (.const (.slice none 0 0)) t2, ty, pos, after, g⟩ :: rest) K ⟨nt, env, h⟩ := IOps_nq hr hd hu hx h1 h2
theorem oMd0 (KL : Maps.Keyed P kt) {kv : Value} {lk : Lit} (hk : ((⟨nt, env, h⟩ : St).ev kx).val = some kv) (hlk : keyOf P kt kv = some lk) (hall : ∀ e ∈ es.toList, ∃ l, keyOf P kt e.key = some l)
    (hn1 : (∀ e ∈ es.toList, e.key ≠ kv) → IOps P k ops rest K ⟨nt, env, h⟩)
    (hn2 : ∀ j e, es.toList[j]? = some e → e.key = kv → IOps P k ops rest K ⟨nt, env, h.set n (.mp (mpDel es j) clock)⟩)
    (hu : P.underlying t = some (.map kt et) := by kernel_rfl) (hm : (⟨nt, env, h⟩ : St).ev m = .mp n := by first | exact rfl | fail) (hn : h[n]? = some (.mp es clock) := by first | exact rfl | fail)
    (hr : runsB ops ⟨none, .call ⟨.builtin .delete, #[m, kx], #[t, kt']⟩, ty, pos, after, g⟩ ⟨nt, env, h⟩ = some true := by first | exact rfl | fail) :
    IOps P k ops (⟨none, .call ⟨.builtin .delete, #[m, kx], #[t, kt']⟩, ty, pos, after, g⟩ :: rest) K ⟨nt, env, h⟩ := IOps_md0 hr hu KL hm hk hn hlk hall hn1 hn2
theorem wAB (n : Nat) {nw : Bool} (hw : IWP P k x Q ⟨nt, env, h'⟩) (hn : h[n]? = some (.arr nw cs) := by first | exact rfl | fail) (hh : frcH (h.set n (.box cs)) = some h' := by first | exact rfl | fail) : IWP P k x Q ⟨nt, env, h⟩ := by
  have hh := frcH_eq hh; subst hh
  refine IWP.le ?_ hw
  rintro cx a w ⟨F, hF⟩
  exact ⟨F, hF.defers, hF.size, hF.step.trans (hF.step.hin.unarr hn), hF.env, hF.base, hF.names, hF.n0⟩
theorem Le.own {s : St} {n : Nat} {cs : List IV} (hn : s.h[n]? = some (.box cs)) (hc : IV.closedL cs = true) (hk : k ≤ n) (hl : lowLive s.h k = true) : Le k s ⟨s.nt, s.env, s.h.set n (.arr true cs)⟩ := by
  rintro cx a w ⟨F, hF⟩
  have hin := hF.step.hin
  have hnl : live s.h n := ⟨_, hn, by simp⟩
  by_cases hbz : F.bsz n = 0
  · have hcs : cs = [] := by
      rcases hin.obj n _ hn with ⟨_, h1⟩ | ⟨vs, ty, lo, hi', k1, k2, k3, p, s, k5, k6⟩
      · exact h1
      · have h9 : p = [] := by have := congrArg List.length k5; simp at this; cases p with | nil => rfl | cons => simp at this; omega
        subst h9; cases k6; rfl
    subst hcs
    have hlt := lt_of_get hn
    have hlive : ∀ m, live (s.h.set n (.arr true [])) m → live s.h m := by
      rintro m ⟨x, hx, hd⟩
      by_cases hm : n = m
      · subst hm; exact ⟨_, hn, by simp⟩
      · rw [List.getElem?_set_ne hm] at hx; exact ⟨x, hx, hd⟩
    have st : HStep F F s.h (s.h.set n (.arr true [])) w w := by
      refine ⟨Ext.refl F, ⟨by simp [hin.N], hin.rd, fun m x hx => ?_, fun a b ha hb => hin.inj a b (hlive a ha) (hlive b hb), fun a ha => hin.dis a (hlive a ha)⟩, Fr.refl _ w, fun m hm hb => .inr ⟨m, hlive m hm, hb, rfl⟩, fun a v ha => .inl ha⟩
      by_cases hm : n = m
      · subst hm; rw [List.getElem?_set] at hx; simp [hlt] at hx; rw [← hx]; exact .inl ⟨hbz, rfl⟩
      · rw [List.getElem?_set_ne hm] at hx; exact hin.obj m x hx
    exact ⟨F, hF.defers, hF.size, hF.step.trans st, hF.env, hF.base, hF.names, hF.n0⟩
  · have hnew : cx.w0.heap.size ≤ F.blk n := by
      rcases hF.step.own n hnl hbz with h | ⟨m, hm, hmb, hme⟩
      · exact h
      · obtain ⟨o, ho, _⟩ := hm
        have hmk : m < k := by rw [← hF.names]; exact lt_of_get ho
        have hmN : m < cx.F0.N := by rw [hF.n0]; exact lt_of_get ho
        have := hin.inj m n (lowLive_at hl hmk) hnl (by rw [hF.step.ext.bsz m hmN]; exact hmb) hbz (by rw [hF.step.ext.blk m hmN]; exact hme)
        omega
    have hbase : F.base ≤ F.blk n := by rw [hF.step.ext.base]; exact Nat.le_trans hF.base hnew
    exact ⟨F, hF.defers, hF.size, hF.step.trans (hin.rearr hn hc hbase), hF.env, hF.base, hF.names, hF.n0⟩
theorem wBA (n : Nat) (hw : IWP P k x Q ⟨nt, env, h'⟩) (hn : h[n]? = some (.box cs) := by first | exact rfl | fail) (hc : IV.closedL cs = true := by first | exact rfl | (simp only [IV.closedL, IV.closed, go_sem, Bool.and_self, Bool.and_true]; done) | fail) (hk : k ≤ n := by first | exact Nat.zero_le _ | (simp; done) | omega) (hl : lowLive h k = true := by first | exact rfl | fail)
    (hh : frcH (h.set n (.arr true cs)) = some h' := by first | exact rfl | fail) : IWP P k x Q ⟨nt, env, h⟩ := by
  have hh := frcH_eq hh; subst hh
  exact IWP.le (Le.own (s := ⟨nt, env, h⟩) hn hc hk hl) hw
theorem wBx (b0 : Nat) (pre post : List IV) {n off len cap esz : Nat} {bs cs cs' bs' : List IV} {h' : List HO} (hw : IWP P k x Q ⟨nt, env, h'⟩) (hbs : bs = pre ++ .sl n off len cap esz :: post) (hbs' : pre ++ .fz true cs' len :: post = bs') (hb : h[b0]? = some (.box bs) := by first | exact rfl | fail) (hn : h[n]? = some (.arr true cs) := by first | exact rfl | fail)
    (hl : off + len * esz ≤ cs.length := by first | omega | (simp (disch := first | omega | (simp only [List.length_append, List.length_cons, List.length_nil, List.length_set, List.length_map, List.length_replicate, List.length_take, List.length_drop]; omega)) only [go_sem, Int.reduceAdd, Int.reduceMul, Int.reduceSub, Int.reduceDiv, Int.reduceMod, Int.reduceNeg, Int.reduceLT, Int.reduceLE, Int.reduceEq, Nat.reduceAdd, Nat.reduceSub, Nat.reduceMul, Nat.reduceDiv, Nat.reduceMod, Nat.reduceLT, Nat.reduceLeDiff, Nat.reduceEqDiff, Int.reduceToNat, reduceIte]; done) | (simp (disch := first | omega | (simp only [List.length_append, List.length_cons, List.length_nil, List.length_set, List.length_map, List.length_replicate, List.length_take, List.length_drop]; omega)) only [go_sem, Int.reduceAdd, Int.reduceMul, Int.reduceSub, Int.reduceDiv, Int.reduceMod, Int.reduceNeg, Int.reduceLT, Int.reduceLE, Int.reduceEq, Nat.reduceAdd, Nat.reduceSub, Nat.reduceMul, Nat.reduceDiv, Nat.reduceMod, Nat.reduceLT, Nat.reduceLeDiff, Nat.reduceEqDiff, Int.reduceToNat, reduceIte] <;> omega)) (hc : (cs.drop off).take (len * esz) = cs' := by (try simp (disch := first | omega | (simp only [List.length_append, List.length_cons, List.length_nil, List.length_set, List.length_map, List.length_replicate, List.length_take, List.length_drop]; omega)) only [go_sem, Int.reduceAdd, Int.reduceMul, Int.reduceSub, Int.reduceDiv, Int.reduceMod, Int.reduceNeg, Int.reduceLT, Int.reduceLE, Int.reduceEq, Nat.reduceAdd, Nat.reduceSub, Nat.reduceMul, Nat.reduceDiv, Nat.reduceMod, Nat.reduceLT, Nat.reduceLeDiff, Nat.reduceEqDiff, Int.reduceToNat, reduceIte]) <;> rfl) (hh : frcH ((h.set n .dead).set b0 (.box bs')) = some h' := by first | exact rfl | fail) : IWP P k x Q ⟨nt, env, h⟩ := by
  have hh := frcH_eq hh; subst hbs'; subst hc; subst hh; subst hbs
  exact IWP.le (Le.freezeB (s := ⟨nt, env, h⟩) hb hn hl) hw
end
theorem lQ {k : Nat} {s t : St} {H0 : List HO} (π : List Nat) (hn : nodupB π = true := by first | exact rfl | fail) (hr : rangeB k π = true := by first | exact rfl | fail) (hl : (π.all fun n => Nat.blt n s.h.length) = true := by first | exact rfl | fail) (h1 : t.nt = s.nt := by first | exact rfl | fail) (h2 : EnvLe s (inv π) t.env := by (repeat' (first | exact trivial | refine And.intro ?_ ?_)) <;> (first | rfl | (simp (disch := first | omega | (simp only [List.length_append, List.length_cons, List.length_nil, List.length_set, List.length_map, List.length_replicate, List.length_take, List.length_drop]; omega)) only [go_sem, Int.reduceAdd, Int.reduceMul, Int.reduceSub, Int.reduceDiv, Int.reduceMod, Int.reduceNeg, Int.reduceLT, Int.reduceLE, Int.reduceEq, Nat.reduceAdd, Nat.reduceSub, Nat.reduceMul, Nat.reduceDiv, Nat.reduceMod, Nat.reduceLT, Nat.reduceLeDiff, Nat.reduceEqDiff, Int.reduceToNat, reduceIte] <;> rfl) | (simp (disch := first | omega | (simp only [List.length_append, List.length_cons, List.length_nil, List.length_set, List.length_map, List.length_replicate, List.length_take, List.length_drop]; omega)) only [go_sem, Int.reduceAdd, Int.reduceMul, Int.reduceSub, Int.reduceDiv, Int.reduceMod, Int.reduceNeg, Int.reduceLT, Int.reduceLE, Int.reduceEq, Nat.reduceAdd, Nat.reduceSub, Nat.reduceMul, Nat.reduceDiv, Nat.reduceMod, Nat.reduceLT, Nat.reduceLeDiff, Nat.reduceEqDiff, Int.reduceToNat, reduceIte]; done) | (refine congrArg (fun z => IV.sc (Value.int _ z)) ?_; (try dsimp only); omega) | (congr 1 <;> (try dsimp only) <;> omega) | (simp (disch := first | omega | (simp only [List.length_append, List.length_cons, List.length_nil, List.length_set, List.length_map, List.length_replicate, List.length_take, List.length_drop]; omega)) only [go_sem, Int.reduceAdd, Int.reduceMul, Int.reduceSub, Int.reduceDiv, Int.reduceMod, Int.reduceNeg, Int.reduceLT, Int.reduceLE, Int.reduceEq, Nat.reduceAdd, Nat.reduceSub, Nat.reduceMul, Nat.reduceDiv, Nat.reduceMod, Nat.reduceLT, Nat.reduceLeDiff, Nat.reduceEqDiff, Int.reduceToNat, reduceIte] <;> congr 1 <;> omega)))
    (hh : frcH (pickH (inv π) s.h π) = some H0 := by first | exact rfl | fail) (h3 : H0 = t.h := by (try simp (disch := first | omega | (simp only [List.length_append, List.length_cons, List.length_nil, List.length_set, List.length_map, List.length_replicate, List.length_take, List.length_drop]; omega)) only [go_sem, Int.reduceAdd, Int.reduceMul, Int.reduceSub, Int.reduceDiv, Int.reduceMod, Int.reduceNeg, Int.reduceLT, Int.reduceLE, Int.reduceEq, Nat.reduceAdd, Nat.reduceSub, Nat.reduceMul, Nat.reduceDiv, Nat.reduceMod, Nat.reduceLT, Nat.reduceLeDiff, Nat.reduceEqDiff, Int.reduceToNat, reduceIte]) <;> rfl) : Le k s t := Le.pick π hn hr hl h1 h2 ((frcH_eq hh).trans h3)
end Go.Idl
