/-
  Ideal heaps: a new block; a name that dies; a block that freezes; a nil slice's name.
-/
import Derived.Test.YtmgcoopmbohkoaaIdlC
namespace Go.Idl
open Go

def Fix.more (F : Fix) (b s : Nat) : Fix := { F with N := F.N + 1, blk := fun n => if n = F.N then b else F.blk n, bsz := fun n => if n = F.N then s else F.bsz n }

theorem Fix.ext_more (F : Fix) (b s : Nat) : Ext F (F.more b s) :=
  ⟨rfl, Nat.le_succ _, fun _ _ h => h, fun n hn => by simp [Fix.more, Nat.ne_of_lt hn], fun n hn => by simp [Fix.more, Nat.ne_of_lt hn]⟩

theorem OIn.mono {F G : Fix} {w w' : World} {n : Nat} {x : HO} (h : OIn F w n x) (e : Ext F G) (hn : n < F.N)
    (hw : F.bsz n ≠ 0 → x ≠ .dead → w'.heap[F.blk n]? = w.heap[F.blk n]?) : OIn G w' n x := by
  have eb := e.blk n hn
  have es := e.bsz n hn
  cases x with
  | dead => trivial
  | arr nw cells =>
    rcases h with h | ⟨vs, ty, lo, hi, k1, k2, k3, k4, p, s, k5, k6⟩
    · exact .inl (by rw [es]; exact h)
    · by_cases hz : F.bsz n = 0
      · left; rw [es]; refine ⟨hz, ?_⟩
        have h9 : p = [] := by have := congrArg List.length k5; simp at this; cases p with | nil => rfl | cons => simp at this; omega
        subst h9; cases k6; rfl
      · exact .inr ⟨vs, ty, lo, hi, by rw [eb, hw hz (by simp)]; exact k1, by rw [es]; exact k2, k3, fun h => by rw [eb, e.base]; exact k4 h, p, s, k5, k6.mono e.weak.zero⟩
  | box cells =>
    rcases h with h | ⟨vs, ty, lo, hi, k1, k2, k3, p, s, k5, k6⟩
    · exact .inl (by rw [es]; exact h)
    · by_cases hz : F.bsz n = 0
      · left; rw [es]; refine ⟨hz, ?_⟩
        have h9 : p = [] := by have := congrArg List.length k5; simp at this; cases p with | nil => rfl | cons => simp at this; omega
        subst h9; cases k6; rfl
      · exact .inr ⟨vs, ty, lo, hi, by rw [eb, hw hz (by simp)]; exact k1, by rw [es]; exact k2, k3, p, s, k5, k6.mono e.weak⟩
  | mp es' c => exact ⟨by rw [es]; exact h.1, by rw [eb, hw (by rw [h.1]; decide) (by simp)]; exact h.2⟩
  | it m a b c => exact ⟨by rw [es]; exact h.1, Nat.lt_of_lt_of_le h.2.1 e.N, by rw [eb, hw (by rw [h.1]; decide) (by simp), e.blk m h.2.1]; exact h.2.2⟩

theorem live_append {h : List HO} {x : HO} {n : Nat} (hl : live (h ++ [x]) n) : (n < h.length ∧ live h n) ∨ n = h.length := by
  obtain ⟨o, ho, hd⟩ := hl
  rcases Nat.lt_or_ge n h.length with h1 | h1
  · rw [List.getElem?_append_left h1] at ho; exact .inl ⟨h1, o, ho, hd⟩
  · right; have := lt_of_get ho; simp at this; omega

theorem HIn.more {F : Fix} {h : List HO} {w w' : World} (hi : HIn F h w) {x : HO} {b s : Nat} (hx : OIn (F.more b s) w' F.N x)
    (hrd : ∀ a v, F.rd a = some v → w'.cell? a = some v) (hold : ∀ n, live h n → F.bsz n ≠ 0 → w'.heap[F.blk n]? = w.heap[F.blk n]?)
    (hb : s ≠ 0 → (∀ n, live h n → F.bsz n ≠ 0 → F.blk n ≠ b) ∧ ∀ a v, F.rd a = some v → a.block ≠ b) : HIn (F.more b s) (h ++ [x]) w' := by
  have hN := hi.N
  have old : ∀ n, n < h.length → (F.more b s).blk n = F.blk n ∧ (F.more b s).bsz n = F.bsz n := fun n hn => by
    have : n ≠ F.N := by omega
    simp [Fix.more, this]
  have new : (F.more b s).blk h.length = b ∧ (F.more b s).bsz h.length = s := by simp [Fix.more, hN]
  refine ⟨by simp [Fix.more, hN], hrd, fun n o ho => ?_, fun m n hm hn hbm hbn e => ?_, fun n hn hbn a v ha => ?_⟩
  · rcases Nat.lt_or_ge n h.length with h1 | h1
    · rw [List.getElem?_append_left h1] at ho
      exact (hi.obj n o ho).mono (F.ext_more b s) (by omega) fun hz hd => hold n ⟨o, ho, hd⟩ hz
    · have : n = h.length := by have := lt_of_get ho; simp at this; omega
      subst this
      simp at ho; subst ho
      rw [← hN]; exact hx
  · rcases live_append hm with ⟨m1, m2⟩ | m1 <;> rcases live_append hn with ⟨n1, n2⟩ | n1
    · rw [(old m m1).1, (old n n1).1] at e; rw [(old m m1).2] at hbm; rw [(old n n1).2] at hbn
      exact hi.inj m n m2 n2 hbm hbn e
    · subst n1; rw [(old m m1).1, new.1] at e; rw [(old m m1).2] at hbm; rw [new.2] at hbn
      exact absurd e ((hb hbn).1 m m2 hbm)
    · subst m1; rw [(old n n1).1, new.1] at e; rw [(old n n1).2] at hbn; rw [new.2] at hbm
      exact absurd e.symm ((hb hbm).1 n n2 hbn)
    · omega
  · rcases live_append hn with ⟨n1, n2⟩ | n1
    · rw [(old n n1).1]; rw [(old n n1).2] at hbn; exact hi.dis n n2 hbn a v ha
    · subst n1; rw [new.1]; rw [new.2] at hbn; exact (hb hbn).2 a v ha

theorem heap_alloc_lt (w : World) (o : Obj) {k : Nat} (hk : k < w.heap.size) : (w.alloc o).heap[k]? = w.heap[k]? := RowKit.Below.heap_alloc w o k hk
theorem heap_alloc_new (w : World) (o : Obj) : (w.alloc o).heap[w.heap.size]? = some o := by
  show (w.heap.push o)[w.heap.size]? = some o
  simp

theorem HIn.allocG {F : Fix} {h : List HO} {w w' : World} (hi : HIn F h w) (hbase : F.base ≤ w.heap.size) (vs : Array Value) (ty : TypeId) (lo hi' : Nat) {x : HO}
    (hx : (∃ cs, x = .box cs ∧ RL F cs vs.toList) ∨ ∃ nw cs pre suf, x = .arr nw cs ∧ vs.toList = pre ++ suf ∧ RL { F with N := 0 } cs pre)
    (w1 : ∀ k, k < w.heap.size → w'.heap[k]? = w.heap[k]?) (w2 : w'.heap[w.heap.size]? = some (.cells vs ty (lo, hi'))) (w3 : w.heap.size ≤ w'.heap.size) (w4 : w'.os = w.os) (w5 : w'.tape = w.tape) (w6 : w'.output = w.output)
    (w7 : ∀ o, o < vs.size → ¬(lo ≤ o ∧ o < hi')) :
    HStep F (F.more w.heap.size vs.size) h (h ++ [x]) w w' := by
  have e := F.ext_more w.heap.size vs.size
  have hblk : (F.more w.heap.size vs.size).blk F.N = w.heap.size := by simp [Fix.more]
  have hbsz : (F.more w.heap.size vs.size).bsz F.N = vs.size := by simp [Fix.more]
  refine ⟨e, hi.more ?_ (fun a v ha => ?_) (fun n hl hb => w1 _ (hi.blk_lt hl hb)) fun _ => ⟨fun n hl hb => Nat.ne_of_lt (hi.blk_lt hl hb), fun a v ha => ?_⟩, ⟨w4, w5, w6, w3, fun k hk _ => w1 _ hk⟩, fun n hl hb => ?_, fun a v ha => .inl ha⟩
  · rcases hx with ⟨cs, rfl, hr⟩ | ⟨nw, cs, pre, suf, rfl, h1, h2⟩
    · exact .inr ⟨vs, ty, lo, hi', by rw [hblk]; exact w2, hbsz.symm, w7, vs.toList, [], by simp, hr.mono e.weak⟩
    · exact .inr ⟨vs, ty, lo, hi', by rw [hblk]; exact w2, hbsz.symm, w7, fun _ => by rw [hblk, e.base]; exact hbase, pre, suf, h1, h2.mono e.weak.zero⟩
  · have := hi.rd a v ha
    rw [← this]; simp only [World.cell?]; rw [w1 _ (World.block_lt_of_cell? _ _ this)]
  · exact Nat.ne_of_lt (World.block_lt_of_cell? _ _ (hi.rd a v ha))
  · rcases live_append hl with ⟨n1, n2⟩ | n1
    · right
      have : n ≠ F.N := by have := hi.N; omega
      refine ⟨n, n2, by simpa [Fix.more, this] using hb, by simp [Fix.more, this]⟩
    · left; subst n1; rw [← hi.N, hblk]; exact Nat.le_refl _

theorem HIn.alloc {F : Fix} {h : List HO} {w : World} (hi : HIn F h w) (hbase : F.base ≤ w.heap.size) (vs : Array Value) (ty : TypeId) {x : HO}
    (hx : (∃ cs, x = .box cs ∧ RL F cs vs.toList) ∨ ∃ nw cs pre suf, x = .arr nw cs ∧ vs.toList = pre ++ suf ∧ RL { F with N := 0 } cs pre) :
    HStep F (F.more w.heap.size vs.size) h (h ++ [x]) w (w.alloc (.cells vs ty)) :=
  hi.allocG hbase vs ty 0 0 hx (fun k hk => heap_alloc_lt _ _ hk) (heap_alloc_new _ _) (by simp) rfl rfl rfl (fun o _ => by omega)

theorem HIn.kill {F : Fix} {h : List HO} {w : World} (hi : HIn F h w) (n : Nat) : HStep F F h (h.set n .dead) w w := by
  have hlive : ∀ m, live (h.set n .dead) m → live h m := by
    rintro m ⟨x, hx, hd⟩
    by_cases hm : n = m
    · subst hm; rw [List.getElem?_set] at hx; simp at hx; exact absurd hx.2.symm hd
    · rw [List.getElem?_set_ne hm] at hx; exact ⟨x, hx, hd⟩
  refine ⟨Ext.refl F, ⟨by simp [hi.N], hi.rd, fun m x hx => ?_, fun a b ha hb => hi.inj a b (hlive a ha) (hlive b hb), fun a ha => hi.dis a (hlive a ha)⟩, Fr.refl _ w, fun m hm hb => .inr ⟨m, hlive m hm, hb, rfl⟩, fun a v ha => .inl ha⟩
  by_cases hm : n = m
  · subst hm; rw [List.getElem?_set] at hx; simp at hx; rw [← hx.2]; trivial
  · rw [List.getElem?_set_ne hm] at hx; exact hi.obj m x hx

theorem HIn.virt {F : Fix} {h : List HO} {w : World} (hi : HIn F h w) (b : Bool) : HStep F (F.more 0 0) h (h ++ [.arr b []]) w w := by
  have e := F.ext_more 0 0
  have hbsz : (F.more 0 0).bsz F.N = 0 := by simp [Fix.more]
  refine ⟨e, hi.more (.inl ⟨hbsz, rfl⟩) hi.rd (fun _ _ _ => rfl) (fun h => absurd rfl h), Fr.refl _ w, fun n hl hb => ?_, fun a v ha => .inl ha⟩
  rcases live_append hl with ⟨n1, n2⟩ | n1
  · right
    have : n ≠ F.N := by have := hi.N; omega
    exact ⟨n, n2, by simpa [Fix.more, this] using hb, by simp [Fix.more, this]⟩
  · subst n1; rw [← hi.N] at hb; exact absurd hbsz hb

theorem HIn.freeze {F : Fix} {h : List HO} {w : World} (hi : HIn F h w) {n : Nat} {cs : List IV} (e : h[n]? = some (.arr true cs)) :
    ∃ G, HStep F G h (h.set n .dead) w w ∧ (∀ v off len cap esz, R F (.sl n off len cap esz) v → off + len * esz ≤ cs.length → R G (.fz true ((cs.drop off).take (len * esz)) len) v) := by
  by_cases hz : F.bsz n = 0
  · have hcs : cs = [] := by
      rcases hi.obj n _ e with ⟨_, h1⟩ | ⟨vs, ty, lo, hi', k1, k2, k3, k4, p, s, k5, k6⟩
      · exact h1
      · have h9 : p = [] := by have := congrArg List.length k5; simp at this; cases p with | nil => rfl | cons => simp at this; omega
        subst h9; cases k6; rfl
    refine ⟨F, hi.kill n, fun v off len cap esz hr hl => ?_⟩
    subst hcs
    simp only [List.drop_nil, List.take_nil]
    cases hr with
    | sl hn hl' hc ho hs => exact .fz (vs := []) (fun _ h => absurd rfl h) (fun j v hj => by simp at hj) .nil (Nat.le_trans hl' hc)
    | slnil hn => exact .fznil
  · rcases hi.obj n _ e with ⟨h1, _⟩ | ⟨vs, ty, lo, hi', k1, k2, k3, k4, p, s, k5, k6⟩
    · exact absurd h1 hz
    let G : Fix := { F with rd := fun a => if a.block = F.blk n ∧ a.spot = none ∧ a.off < p.length then p[a.off]? else F.rd a }
    have hnl : live h n := ⟨_, e, by simp⟩
    have hlive : ∀ m, live (h.set n .dead) m → live h m ∧ m ≠ n := by
      rintro m ⟨x, hx, hd⟩
      by_cases hm : n = m
      · subst hm; rw [List.getElem?_set] at hx; simp at hx; exact absurd hx.2.symm hd
      · rw [List.getElem?_set_ne hm] at hx; exact ⟨⟨x, hx, hd⟩, Ne.symm hm⟩
    have ext : Ext F G := ⟨rfl, Nat.le_refl _, fun a v ha => by
      have := hi.dis n hnl hz a v ha
      show (if _ then _ else _) = _
      rw [if_neg (fun h => this h.1)]; exact ha, fun _ _ => rfl, fun _ _ => rfl⟩
    refine ⟨G, ⟨ext, ⟨by simp [G, hi.N], fun a v ha => ?_, fun m x hx => ?_, fun a b ha hb h1 h2 => hi.inj a b (hlive a ha).1 (hlive b hb).1 h1 h2, fun m hm hb a v ha => ?_⟩, Fr.refl _ w, fun m hm hb => .inr ⟨m, (hlive m hm).1, hb, rfl⟩, fun a v ha => ?_⟩, fun v off len cap esz hr hl => ?_⟩
    · have ha' : (if a.block = F.blk n ∧ a.spot = none ∧ a.off < p.length then p[a.off]? else F.rd a) = some v := ha
      split at ha'
      · rename_i hc
        obtain ⟨c1, c2, c3⟩ := hc
        have : a = ⟨F.blk n, a.off, none⟩ := by cases a; simp_all
        rw [this, cell_of_heap k1, ← Array.getElem?_toList, k5, List.getElem?_append_left c3]; exact ha'
      · exact hi.rd a v ha'
    · by_cases hm : n = m
      · subst hm; rw [List.getElem?_set] at hx; simp at hx; rw [← hx.2]; trivial
      · rw [List.getElem?_set_ne hm] at hx
        exact (hi.obj m x hx).mono ext (by have := lt_of_get hx; have := hi.N; omega) fun _ _ => rfl
    · have ha' : (if a.block = F.blk n ∧ a.spot = none ∧ a.off < p.length then p[a.off]? else F.rd a) = some v := ha
      split at ha'
      · rename_i hc
        rw [hc.1]; exact fun h1 => (hlive m hm).2 (hi.inj m n (hlive m hm).1 hnl hb hz h1.symm)
      · exact hi.dis m (hlive m hm).1 hb a v ha'
    · have ha' : (if a.block = F.blk n ∧ a.spot = none ∧ a.off < p.length then p[a.off]? else F.rd a) = some v := ha
      split at ha'
      · rename_i hc; right; rw [hc.1]; exact k4 rfl
      · exact .inl ha'
    · have hl6 := k6.length
      cases hr with
      | slnil hn =>
        have h0 : (cs.drop off).take (0 * esz) = [] := by simp
        rw [h0]; exact .fznil
      | sl hn hl' hc ho hs =>
        rename_i cap' o
        by_cases h0 : len = 0
        · subst h0
          have : (cs.drop off).take (0 * esz) = [] := by simp
          rw [this]
          exact .fz (vs := []) (fun _ h => absurd rfl h) (fun j v hj => by simp at hj) .nil (Nat.zero_le _)
        · have ho' : o = off := ho (by omega)
          subst ho'
          refine .fz (vs := (p.drop o).take (len * esz)) (fun _ _ => k4 rfl) (fun j v hj => ?_) (((k6.mono ext.weak.zero).drop o).take _) (Nat.le_trans hl' hc)
          rw [List.getElem?_take] at hj
          split at hj
          · rw [List.getElem?_drop] at hj
            have := lt_of_get hj
            show (if _ then _ else _) = _
            rw [if_pos ⟨rfl, rfl, this⟩]; exact hj
          · cases hj

end Go.Idl
