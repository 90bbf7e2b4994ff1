/-
  Sorting, at texts: the whole.
-/
import Derived.Test.YtmgcoopmbohkoaaStrD
import Derived.Test.YtmgcoopmbohkoaaStX
import Derived.Test.YtmgcoopmbohkoaaStrF
namespace Go.Proofs.Ytmgcoopmbohkoaa
open Go Go.Idl
set_option linter.unusedSimpArgs false
set_option linter.unusedVariables false
set_option maxRecDepth 100000
set_option maxHeartbeats 1000000
theorem IWP_cut {P : Program} {k : Nat} {A C : Code} {Q Q' : Exit → St → Prop} {s : St} {α : Type} (S : α → St) (I : α → Prop)
    (hA : IWP P k A (thenI (fun s' => ∃ x', I x' ∧ Le k s' (S x')) Q) s) (hr : ∀ x, I x → IWP P k C Q' (S x)) : IWP P k A (thenI (fun s' => IWP P k C Q' s') Q) s := fun cx a w hs b kk cs => by
  obtain ⟨e, a', w', ⟨s', hq, hs'⟩, harr⟩ := hA cx a w hs b kk cs
  refine ⟨e, a', w', ⟨s', ?_, hs'⟩, harr⟩
  cases e with
  | normal =>
    obtain ⟨x', h1, h2⟩ := hq
    exact IWP.le h2 (hr x' h1)
  | _ => exact hq
attribute [local irreducible] Go.Idl.IWP Go.Idl.IOps Go.Idl.Obl Go.Idl.OpG Go.Idl.thenI Go.Idl.inBlockI Go.Idl.LoopU Go.Idl.noGotoI Go.Idl.jumpI
attribute [local go_sem] List.length_set
def Pre (a b : Nat) (M : List Ks) : Prop := 0 < a → ∀ q, a ≤ q → q < b → ¬ cS (gd M q) (gd M (a - 1)) < 0
theorem Pre.perm {a b : Nat} {M N : List Ks} (h : Pre a b M) (k : PS a b M N) : Pre a b N := fun h0 q h1 h2 => by
  obtain ⟨j, j1, j2, j3⟩ := k.inn q h1 h2
  rw [j3, k.out (a - 1) (by omega)]
  exact h h0 j j1 j2
theorem pdq_spec (cap : Nat) (oc : OrdL fun x y => decide (cS x y < 0)) : ∀ (n : Nat) (L : List Ks) (a b l : Nat), b - a < n → a ≤ b → b ≤ L.length → L.length ≤ 250 → l ≤ 64 → Pre a b L →
    Idl.Spec Try.prog 46 [.sl 0 0 L.length cap 1, .i64 a, .i64 b, .i64 l] [.arr false (strs L)]
      (Ex (fun M : List Ks => PS a b L M ∧ SS (fun x y => decide (cS x y < 0)) a b M) (fun _ => .tup []) (fun M => [.arr false (strs M)])) := by
  intro n
  induction n with
  | zero => intro L a b l h; omega
  | succ n ih =>
    intro L a b l hn hab hb hL hl64 hpre
    refine sE Try.func46 Try.ntmps46 ?_
    repeat' (first|refine IOps_nil ?_|refine oS ?_|refine IOps_s rfl rfl ?_|refine oT ?_|refine IOps_s0 rfl ?_|refine oC (π:=[]) (hs:=by first|exact less_spec _ _|fail) (hx:=?_)|refine oZ ?_|refine oI ?_|refine oAB ?_|refine thenI_n ?_|refine IWP_seq ?_|refine IWP_region ?_|refine IWP_ct rfl ?_|refine IWP_cf rfl ?_|refine IWP_skip ?_|refine IWP_ret ?_|refine IWP_block ?_|refine inB_n ?_|refine thenI_r ?_|refine thenI_e ?_|refine inB_r ?_|refine inB_hit ?_|refine inB_miss rfl ?_|refine IWP_exit ?_|refine IWP_scope ?_|refine IWP_label ?_|refine noG_n ?_|refine noG_r ?_|refine noG_e ?_|refine jmp_n ?_|refine jmp_r ?_|refine jmp_e ?_|refine jmp_g ?_|refine thenI_g ?_|refine inB_g ?_|refine IWP_goto ?_|refine Loop_n ?_|refine oD (id:=17) W46_17 [] O46_17 [_,_,_,_,_,_,_,_,_,_,_,_,_,_,_] [_] rfl (by repeat' (first|exact trivial|refine And.intro ?_ ?_|exact bS|exact bX|exact bZ|exact bI|exact bC (π:=[]) (hs:=by first|exact less_spec _ _|fail)|fail)) ?_|fail)
    refine IWP_loop (fun x : List Ks × Nat × Nat × Nat × Bool × Bool => ⟨134, [(0, .sl 0 0 L.length cap 1), (1, .i64 x.2.1), (2, .i64 x.2.2.1), (3, .i64 x.2.2.2.1), (8, .sc (.bool x.2.2.2.2.1)), (9, .sc (.bool x.2.2.2.2.2))], [.arr false (strs x.1)]⟩)
      (fun x => QI (fun x y => decide (cS x y < 0)) a b x.2.1 x.2.2.1 L x.1 ∧ Pre x.2.1 x.2.2.1 x.1 ∧ x.2.2.2.1 ≤ 64) (fun x => x.2.2.1 - x.2.1) (L, a, b, l, true, true) (lP [0]) ⟨.start hab hb, hpre, hl64⟩ ?_
    clear hpre hl64
    rintro ⟨M, a1, b1, l1, wb, wp⟩ ⟨hQ, hpre, hl64⟩
    replace hQ : QI (fun x y => decide (cS x y < 0)) a b a1 b1 L M := hQ
    have hlen := hQ.ps.len
    have q1 := hQ.h1; have q2 := hQ.h2; have q3 := hQ.h3; have q4 := hQ.bl
    simp only at hpre hl64 ⊢
    by_cases h12 : b1 - a1 ≤ 12
    · repeat' (first|refine IOps_nil ?_|refine oS ?_|refine IOps_s rfl rfl ?_|refine oT ?_|refine IOps_s0 rfl ?_|refine oC (π:=[]) (hs:=by first|exact less_spec _ _|fail) (hx:=?_)|refine oZ ?_|refine oI ?_|refine oAB ?_|refine thenI_n ?_|refine IWP_seq ?_|refine IWP_region ?_|refine IWP_ct rfl ?_|refine IWP_cf rfl ?_|refine IWP_skip ?_|refine IWP_ret ?_|refine IWP_block ?_|refine inB_n ?_|refine thenI_r ?_|refine thenI_e ?_|refine inB_r ?_|refine inB_hit ?_|refine inB_miss rfl ?_|refine IWP_exit ?_|refine IWP_scope ?_|refine IWP_label ?_|refine noG_n ?_|refine noG_r ?_|refine noG_e ?_|refine jmp_n ?_|refine jmp_r ?_|refine jmp_e ?_|refine jmp_g ?_|refine thenI_g ?_|refine inB_g ?_|refine IWP_goto ?_|refine Loop_n ?_|refine oD (id:=17) W46_17 [] O46_17 [_,_,_,_,_,_,_,_,_,_,_,_,_,_,_] [_] rfl (by repeat' (first|exact trivial|refine And.intro ?_ ?_|exact bS|exact bX|exact bZ|exact bI|exact bC (π:=[]) (hs:=by first|exact less_spec _ _|fail)|fail)) ?_|fail)
      have hsp := isort_spec M a1 b1 cap oc q2 (by omega) (by omega)
      rw [hlen] at hsp
      refine oE [0] (hs := hsp) (hx := ?_)
      rintro N ⟨hN, hS⟩
      repeat' (first|refine IOps_nil ?_|refine oS ?_|refine IOps_s rfl rfl ?_|refine oT ?_|refine IOps_s0 rfl ?_|refine oC (π:=[]) (hs:=by first|exact less_spec _ _|fail) (hx:=?_)|refine oZ ?_|refine oI ?_|refine oAB ?_|refine thenI_n ?_|refine IWP_seq ?_|refine IWP_region ?_|refine IWP_ct rfl ?_|refine IWP_cf rfl ?_|refine IWP_skip ?_|refine IWP_ret ?_|refine IWP_block ?_|refine inB_n ?_|refine thenI_r ?_|refine thenI_e ?_|refine inB_r ?_|refine inB_hit ?_|refine inB_miss rfl ?_|refine IWP_exit ?_|refine IWP_scope ?_|refine IWP_label ?_|refine noG_n ?_|refine noG_r ?_|refine noG_e ?_|refine jmp_n ?_|refine jmp_r ?_|refine jmp_e ?_|refine jmp_g ?_|refine thenI_g ?_|refine inB_g ?_|refine IWP_goto ?_|refine Loop_n ?_|refine oD (id:=17) W46_17 [] O46_17 [_,_,_,_,_,_,_,_,_,_,_,_,_,_,_] [_] rfl (by repeat' (first|exact trivial|refine And.intro ?_ ?_|exact bS|exact bX|exact bZ|exact bI|exact bC (π:=[]) (hs:=by first|exact less_spec _ _|fail)|fail)) ?_|fail)
      exact pX [0] N ⟨(hQ.perm hN).ps, (hQ.perm hN).done hS⟩ rfl
    · by_cases hl0 : l1 = 0
      · repeat' (first|refine IOps_nil ?_|refine oS ?_|refine IOps_s rfl rfl ?_|refine oT ?_|refine IOps_s0 rfl ?_|refine oC (π:=[]) (hs:=by first|exact less_spec _ _|fail) (hx:=?_)|refine oZ ?_|refine oI ?_|refine oAB ?_|refine thenI_n ?_|refine IWP_seq ?_|refine IWP_region ?_|refine IWP_ct rfl ?_|refine IWP_cf rfl ?_|refine IWP_skip ?_|refine IWP_ret ?_|refine IWP_block ?_|refine inB_n ?_|refine thenI_r ?_|refine thenI_e ?_|refine inB_r ?_|refine inB_hit ?_|refine inB_miss rfl ?_|refine IWP_exit ?_|refine IWP_scope ?_|refine IWP_label ?_|refine noG_n ?_|refine noG_r ?_|refine noG_e ?_|refine jmp_n ?_|refine jmp_r ?_|refine jmp_e ?_|refine jmp_g ?_|refine thenI_g ?_|refine inB_g ?_|refine IWP_goto ?_|refine Loop_n ?_|refine oD (id:=17) W46_17 [] O46_17 [_,_,_,_,_,_,_,_,_,_,_,_,_,_,_] [_] rfl (by repeat' (first|exact trivial|refine And.intro ?_ ?_|exact bS|exact bX|exact bZ|exact bI|exact bC (π:=[]) (hs:=by first|exact less_spec _ _|fail)|fail)) ?_|fail)
        have hsp := hsort_spec M a1 b1 cap oc q2 (by omega) (by omega)
        rw [hlen] at hsp
        refine oE [0] (hs := hsp) (hx := ?_)
        rintro N ⟨hN, hS⟩
        repeat' (first|refine IOps_nil ?_|refine oS ?_|refine IOps_s rfl rfl ?_|refine oT ?_|refine IOps_s0 rfl ?_|refine oC (π:=[]) (hs:=by first|exact less_spec _ _|fail) (hx:=?_)|refine oZ ?_|refine oI ?_|refine oAB ?_|refine thenI_n ?_|refine IWP_seq ?_|refine IWP_region ?_|refine IWP_ct rfl ?_|refine IWP_cf rfl ?_|refine IWP_skip ?_|refine IWP_ret ?_|refine IWP_block ?_|refine inB_n ?_|refine thenI_r ?_|refine thenI_e ?_|refine inB_r ?_|refine inB_hit ?_|refine inB_miss rfl ?_|refine IWP_exit ?_|refine IWP_scope ?_|refine IWP_label ?_|refine noG_n ?_|refine noG_r ?_|refine noG_e ?_|refine jmp_n ?_|refine jmp_r ?_|refine jmp_e ?_|refine jmp_g ?_|refine thenI_g ?_|refine inB_g ?_|refine IWP_goto ?_|refine Loop_n ?_|refine oD (id:=17) W46_17 [] O46_17 [_,_,_,_,_,_,_,_,_,_,_,_,_,_,_] [_] rfl (by repeat' (first|exact trivial|refine And.intro ?_ ?_|exact bS|exact bX|exact bZ|exact bI|exact bC (π:=[]) (hs:=by first|exact less_spec _ _|fail)|fail)) ?_|fail)
        exact pX [0] N ⟨(hQ.perm hN).ps, (hQ.perm hN).done hS⟩ rfl
      · repeat' (first|refine IOps_nil ?_|refine oS ?_|refine IOps_s rfl rfl ?_|refine oT ?_|refine IOps_s0 rfl ?_|refine oC (π:=[]) (hs:=by first|exact less_spec _ _|fail) (hx:=?_)|refine oZ ?_|refine oI ?_|refine oAB ?_|refine thenI_n ?_|refine IWP_seq ?_|refine IWP_region ?_|refine IWP_ct rfl ?_|refine IWP_cf rfl ?_|refine IWP_skip ?_|refine IWP_ret ?_|refine IWP_block ?_|refine inB_n ?_|refine thenI_r ?_|refine thenI_e ?_|refine inB_r ?_|refine inB_hit ?_|refine inB_miss rfl ?_|refine IWP_exit ?_|refine IWP_scope ?_|refine IWP_label ?_|refine noG_n ?_|refine noG_r ?_|refine noG_e ?_|refine jmp_n ?_|refine jmp_r ?_|refine jmp_e ?_|refine jmp_g ?_|refine thenI_g ?_|refine inB_g ?_|refine IWP_goto ?_|refine Loop_n ?_|refine oD (id:=17) W46_17 [] O46_17 [_,_,_,_,_,_,_,_,_,_,_,_,_,_,_] [_] rfl (by repeat' (first|exact trivial|refine And.intro ?_ ?_|exact bS|exact bX|exact bZ|exact bI|exact bC (π:=[]) (hs:=by first|exact less_spec _ _|fail)|fail)) ?_|fail)
        refine IWP_cut (fun x : List Ks × Nat => ⟨134, [(0, .sl 0 0 L.length cap 1), (1, .i64 a1), (2, .i64 b1), (3, .i64 x.2), (8, .sc (.bool wb)), (9, .sc (.bool wp)), (10, .i64 ((b1 : Int) - a1))], [.arr false (strs x.1)]⟩) (fun x => QI (fun x y => decide (cS x y < 0)) a b a1 b1 L x.1 ∧ Pre a1 b1 x.1 ∧ x.2 ≤ 64) ?_ ?_
        · cases wb
          · repeat' (first|refine IOps_nil ?_|refine oS ?_|refine IOps_s rfl rfl ?_|refine oT ?_|refine IOps_s0 rfl ?_|refine oC (π:=[]) (hs:=by first|exact less_spec _ _|fail) (hx:=?_)|refine oZ ?_|refine oI ?_|refine oAB ?_|refine thenI_n ?_|refine IWP_seq ?_|refine IWP_region ?_|refine IWP_ct rfl ?_|refine IWP_cf rfl ?_|refine IWP_skip ?_|refine IWP_ret ?_|refine IWP_block ?_|refine inB_n ?_|refine thenI_r ?_|refine thenI_e ?_|refine inB_r ?_|refine inB_hit ?_|refine inB_miss rfl ?_|refine IWP_exit ?_|refine IWP_scope ?_|refine IWP_label ?_|refine noG_n ?_|refine noG_r ?_|refine noG_e ?_|refine jmp_n ?_|refine jmp_r ?_|refine jmp_e ?_|refine jmp_g ?_|refine thenI_g ?_|refine inB_g ?_|refine IWP_goto ?_|refine Loop_n ?_|refine oD (id:=17) W46_17 [] O46_17 [_,_,_,_,_,_,_,_,_,_,_,_,_,_,_] [_] rfl (by repeat' (first|exact trivial|refine And.intro ?_ ?_|exact bS|exact bX|exact bZ|exact bI|exact bC (π:=[]) (hs:=by first|exact less_spec _ _|fail)|fail)) ?_|fail)
            have hsp := break_spec M a1 b1 cap q2 (by omega) (by omega)
            rw [hlen] at hsp
            refine oE [0] (hs := hsp) (hx := ?_)
            rintro N hN
            repeat' (first|refine IOps_nil ?_|refine oS ?_|refine IOps_s rfl rfl ?_|refine oT ?_|refine IOps_s0 rfl ?_|refine oC (π:=[]) (hs:=by first|exact less_spec _ _|fail) (hx:=?_)|refine oZ ?_|refine oI ?_|refine oAB ?_|refine thenI_n ?_|refine IWP_seq ?_|refine IWP_region ?_|refine IWP_ct rfl ?_|refine IWP_cf rfl ?_|refine IWP_skip ?_|refine IWP_ret ?_|refine IWP_block ?_|refine inB_n ?_|refine thenI_r ?_|refine thenI_e ?_|refine inB_r ?_|refine inB_hit ?_|refine inB_miss rfl ?_|refine IWP_exit ?_|refine IWP_scope ?_|refine IWP_label ?_|refine noG_n ?_|refine noG_r ?_|refine noG_e ?_|refine jmp_n ?_|refine jmp_r ?_|refine jmp_e ?_|refine jmp_g ?_|refine thenI_g ?_|refine inB_g ?_|refine IWP_goto ?_|refine Loop_n ?_|refine oD (id:=17) W46_17 [] O46_17 [_,_,_,_,_,_,_,_,_,_,_,_,_,_,_] [_] rfl (by repeat' (first|exact trivial|refine And.intro ?_ ?_|exact bS|exact bX|exact bZ|exact bI|exact bC (π:=[]) (hs:=by first|exact less_spec _ _|fail)|fail)) ?_|fail)
            exact ⟨(N, l1 - 1), ⟨hQ.perm hN, hpre.perm hN, by simp only; omega⟩, lP [0]⟩
          · repeat' (first|refine IOps_nil ?_|refine oS ?_|refine IOps_s rfl rfl ?_|refine oT ?_|refine IOps_s0 rfl ?_|refine oC (π:=[]) (hs:=by first|exact less_spec _ _|fail) (hx:=?_)|refine oZ ?_|refine oI ?_|refine oAB ?_|refine thenI_n ?_|refine IWP_seq ?_|refine IWP_region ?_|refine IWP_ct rfl ?_|refine IWP_cf rfl ?_|refine IWP_skip ?_|refine IWP_ret ?_|refine IWP_block ?_|refine inB_n ?_|refine thenI_r ?_|refine thenI_e ?_|refine inB_r ?_|refine inB_hit ?_|refine inB_miss rfl ?_|refine IWP_exit ?_|refine IWP_scope ?_|refine IWP_label ?_|refine noG_n ?_|refine noG_r ?_|refine noG_e ?_|refine jmp_n ?_|refine jmp_r ?_|refine jmp_e ?_|refine jmp_g ?_|refine thenI_g ?_|refine inB_g ?_|refine IWP_goto ?_|refine Loop_n ?_|refine oD (id:=17) W46_17 [] O46_17 [_,_,_,_,_,_,_,_,_,_,_,_,_,_,_] [_] rfl (by repeat' (first|exact trivial|refine And.intro ?_ ?_|exact bS|exact bX|exact bZ|exact bI|exact bC (π:=[]) (hs:=by first|exact less_spec _ _|fail)|fail)) ?_|fail)
            exact ⟨(M, l1), ⟨hQ, hpre, hl64⟩, lP [0]⟩
        clear hpre hl64 hQ hlen q4 hl0
        clear l1 M
        rintro ⟨M, l1⟩ ⟨hQ, hpre, hl64⟩
        replace hQ : QI (fun x y => decide (cS x y < 0)) a b a1 b1 L M := hQ
        have hlen := hQ.ps.len
        have q4 := hQ.bl
        simp only at hpre hl64 ⊢
        repeat' (first|refine IOps_nil ?_|refine oS ?_|refine IOps_s rfl rfl ?_|refine oT ?_|refine IOps_s0 rfl ?_|refine oC (π:=[]) (hs:=by first|exact less_spec _ _|fail) (hx:=?_)|refine oZ ?_|refine oI ?_|refine oAB ?_|refine thenI_n ?_|refine IWP_seq ?_|refine IWP_region ?_|refine IWP_ct rfl ?_|refine IWP_cf rfl ?_|refine IWP_skip ?_|refine IWP_ret ?_|refine IWP_block ?_|refine inB_n ?_|refine thenI_r ?_|refine thenI_e ?_|refine inB_r ?_|refine inB_hit ?_|refine inB_miss rfl ?_|refine IWP_exit ?_|refine IWP_scope ?_|refine IWP_label ?_|refine noG_n ?_|refine noG_r ?_|refine noG_e ?_|refine jmp_n ?_|refine jmp_r ?_|refine jmp_e ?_|refine jmp_g ?_|refine thenI_g ?_|refine inB_g ?_|refine IWP_goto ?_|refine Loop_n ?_|refine oD (id:=17) W46_17 [] O46_17 [_,_,_,_,_,_,_,_,_,_,_,_,_,_,_] [_] rfl (by repeat' (first|exact trivial|refine And.intro ?_ ?_|exact bS|exact bX|exact bZ|exact bI|exact bC (π:=[]) (hs:=by first|exact less_spec _ _|fail)|fail)) ?_|fail)
        have hsp := choose_spec M a1 b1 cap (by omega) (by omega) (by omega)
        rw [hlen] at hsp
        refine oE [0] (hs := hsp) (hx := ?_)
        rintro ⟨p, hint⟩ ⟨hp1, hp2⟩
        simp only at hp1 hp2 ⊢
        repeat' (first|refine IOps_nil ?_|refine oS ?_|refine IOps_s rfl rfl ?_|refine oT ?_|refine IOps_s0 rfl ?_|refine oC (π:=[]) (hs:=by first|exact less_spec _ _|fail) (hx:=?_)|refine oZ ?_|refine oI ?_|refine oAB ?_|refine thenI_n ?_|refine IWP_seq ?_|refine IWP_region ?_|refine IWP_ct rfl ?_|refine IWP_cf rfl ?_|refine IWP_skip ?_|refine IWP_ret ?_|refine IWP_block ?_|refine inB_n ?_|refine thenI_r ?_|refine thenI_e ?_|refine inB_r ?_|refine inB_hit ?_|refine inB_miss rfl ?_|refine IWP_exit ?_|refine IWP_scope ?_|refine IWP_label ?_|refine noG_n ?_|refine noG_r ?_|refine noG_e ?_|refine jmp_n ?_|refine jmp_r ?_|refine jmp_e ?_|refine jmp_g ?_|refine thenI_g ?_|refine inB_g ?_|refine IWP_goto ?_|refine Loop_n ?_|refine oD (id:=17) W46_17 [] O46_17 [_,_,_,_,_,_,_,_,_,_,_,_,_,_,_] [_] rfl (by repeat' (first|exact trivial|refine And.intro ?_ ?_|exact bS|exact bX|exact bZ|exact bI|exact bC (π:=[]) (hs:=by first|exact less_spec _ _|fail)|fail)) ?_|fail)
        refine IWP_cut (fun x : List Ks × Nat × Int => ⟨134, [(0, .sl 0 0 L.length cap 1), (1, .i64 a1), (2, .i64 b1), (3, .i64 l1), (8, .sc (.bool wb)), (9, .sc (.bool wp)), (10, .i64 ((b1 : Int) - a1)), (11, .i64 x.2.1), (12, .i64 x.2.2)], [.arr false (strs x.1)]⟩) (fun x => QI (fun x y => decide (cS x y < 0)) a b a1 b1 L x.1 ∧ Pre a1 b1 x.1 ∧ a1 ≤ x.2.1 ∧ x.2.1 < b1) ?_ ?_
        · refine IWP_cp rfl (fun hh => ?_) (fun hh => ?_)
          · repeat' (first|refine IOps_nil ?_|refine oS ?_|refine IOps_s rfl rfl ?_|refine oT ?_|refine IOps_s0 rfl ?_|refine oC (π:=[]) (hs:=by first|exact less_spec _ _|fail) (hx:=?_)|refine oZ ?_|refine oI ?_|refine oAB ?_|refine thenI_n ?_|refine IWP_seq ?_|refine IWP_region ?_|refine IWP_ct rfl ?_|refine IWP_cf rfl ?_|refine IWP_skip ?_|refine IWP_ret ?_|refine IWP_block ?_|refine inB_n ?_|refine thenI_r ?_|refine thenI_e ?_|refine inB_r ?_|refine inB_hit ?_|refine inB_miss rfl ?_|refine IWP_exit ?_|refine IWP_scope ?_|refine IWP_label ?_|refine noG_n ?_|refine noG_r ?_|refine noG_e ?_|refine jmp_n ?_|refine jmp_r ?_|refine jmp_e ?_|refine jmp_g ?_|refine thenI_g ?_|refine inB_g ?_|refine IWP_goto ?_|refine Loop_n ?_|refine oD (id:=17) W46_17 [] O46_17 [_,_,_,_,_,_,_,_,_,_,_,_,_,_,_] [_] rfl (by repeat' (first|exact trivial|refine And.intro ?_ ?_|exact bS|exact bX|exact bZ|exact bI|exact bC (π:=[]) (hs:=by first|exact less_spec _ _|fail)|fail)) ?_|fail)
            have hsp := rev_spec M a1 b1 cap q2 (by omega) (by omega)
            rw [hlen] at hsp
            refine oE [0] (hs := hsp) (hx := ?_)
            rintro N hN
            repeat' (first|refine IOps_nil ?_|refine oS ?_|refine IOps_s rfl rfl ?_|refine oT ?_|refine IOps_s0 rfl ?_|refine oC (π:=[]) (hs:=by first|exact less_spec _ _|fail) (hx:=?_)|refine oZ ?_|refine oI ?_|refine oAB ?_|refine thenI_n ?_|refine IWP_seq ?_|refine IWP_region ?_|refine IWP_ct rfl ?_|refine IWP_cf rfl ?_|refine IWP_skip ?_|refine IWP_ret ?_|refine IWP_block ?_|refine inB_n ?_|refine thenI_r ?_|refine thenI_e ?_|refine inB_r ?_|refine inB_hit ?_|refine inB_miss rfl ?_|refine IWP_exit ?_|refine IWP_scope ?_|refine IWP_label ?_|refine noG_n ?_|refine noG_r ?_|refine noG_e ?_|refine jmp_n ?_|refine jmp_r ?_|refine jmp_e ?_|refine jmp_g ?_|refine thenI_g ?_|refine inB_g ?_|refine IWP_goto ?_|refine Loop_n ?_|refine oD (id:=17) W46_17 [] O46_17 [_,_,_,_,_,_,_,_,_,_,_,_,_,_,_] [_] rfl (by repeat' (first|exact trivial|refine And.intro ?_ ?_|exact bS|exact bX|exact bZ|exact bI|exact bC (π:=[]) (hs:=by first|exact less_spec _ _|fail)|fail)) ?_|fail)
            exact ⟨(N, b1 - 1 - (p - a1), 1), ⟨hQ.perm hN, hpre.perm hN, by simp only; omega, by simp only; omega⟩, lP [0]⟩
          · repeat' (first|refine IOps_nil ?_|refine oS ?_|refine IOps_s rfl rfl ?_|refine oT ?_|refine IOps_s0 rfl ?_|refine oC (π:=[]) (hs:=by first|exact less_spec _ _|fail) (hx:=?_)|refine oZ ?_|refine oI ?_|refine oAB ?_|refine thenI_n ?_|refine IWP_seq ?_|refine IWP_region ?_|refine IWP_ct rfl ?_|refine IWP_cf rfl ?_|refine IWP_skip ?_|refine IWP_ret ?_|refine IWP_block ?_|refine inB_n ?_|refine thenI_r ?_|refine thenI_e ?_|refine inB_r ?_|refine inB_hit ?_|refine inB_miss rfl ?_|refine IWP_exit ?_|refine IWP_scope ?_|refine IWP_label ?_|refine noG_n ?_|refine noG_r ?_|refine noG_e ?_|refine jmp_n ?_|refine jmp_r ?_|refine jmp_e ?_|refine jmp_g ?_|refine thenI_g ?_|refine inB_g ?_|refine IWP_goto ?_|refine Loop_n ?_|refine oD (id:=17) W46_17 [] O46_17 [_,_,_,_,_,_,_,_,_,_,_,_,_,_,_] [_] rfl (by repeat' (first|exact trivial|refine And.intro ?_ ?_|exact bS|exact bX|exact bZ|exact bI|exact bC (π:=[]) (hs:=by first|exact less_spec _ _|fail)|fail)) ?_|fail)
            exact ⟨(M, p, hint), ⟨hQ, hpre, hp1, hp2⟩, lP [0]⟩
        clear hpre hQ hlen q4 hp1 hp2 hsp
        clear hint p M
        rintro ⟨M, p, hint⟩ ⟨hQ, hpre, hp1, hp2⟩
        replace hQ : QI (fun x y => decide (cS x y < 0)) a b a1 b1 L M := hQ
        have hlen := hQ.ps.len
        have q4 := hQ.bl
        simp only at hpre hp1 hp2 ⊢
        refine IWP_seq ?_
        refine IWP_cut (fun x : List Ks => ⟨134, [(0, .sl 0 0 L.length cap 1), (1, .i64 a1), (2, .i64 b1), (3, .i64 l1), (8, .sc (.bool wb)), (9, .sc (.bool wp)), (10, .i64 ((b1 : Int) - a1)), (11, .i64 p)], [.arr false (strs x)]⟩) (fun x => QI (fun x y => decide (cS x y < 0)) a b a1 b1 L x ∧ Pre a1 b1 x) ?_ ?_
        · by_cases hw : wb = true ∧ wp = true ∧ hint = 1
          · obtain ⟨rfl, rfl, rfl⟩ := hw
            repeat' (first|refine IOps_nil ?_|refine oS ?_|refine IOps_s rfl rfl ?_|refine oT ?_|refine IOps_s0 rfl ?_|refine oC (π:=[]) (hs:=by first|exact less_spec _ _|fail) (hx:=?_)|refine oZ ?_|refine oI ?_|refine oAB ?_|refine thenI_n ?_|refine IWP_seq ?_|refine IWP_region ?_|refine IWP_ct rfl ?_|refine IWP_cf rfl ?_|refine IWP_skip ?_|refine IWP_ret ?_|refine IWP_block ?_|refine inB_n ?_|refine thenI_r ?_|refine thenI_e ?_|refine inB_r ?_|refine inB_hit ?_|refine inB_miss rfl ?_|refine IWP_exit ?_|refine IWP_scope ?_|refine IWP_label ?_|refine noG_n ?_|refine noG_r ?_|refine noG_e ?_|refine jmp_n ?_|refine jmp_r ?_|refine jmp_e ?_|refine jmp_g ?_|refine thenI_g ?_|refine inB_g ?_|refine IWP_goto ?_|refine Loop_n ?_|refine oD (id:=17) W46_17 [] O46_17 [_,_,_,_,_,_,_,_,_,_,_,_,_,_,_] [_] rfl (by repeat' (first|exact trivial|refine And.intro ?_ ?_|exact bS|exact bX|exact bZ|exact bI|exact bC (π:=[]) (hs:=by first|exact less_spec _ _|fail)|fail)) ?_|fail)
            have hsp := partial_spec M a1 b1 cap oc (by omega) (by omega) (by omega) hpre
            rw [hlen] at hsp
            refine oE [0] (hs := hsp) (hx := ?_)
            rintro ⟨N, g⟩ ⟨hN, hS⟩
            replace hN : PS a1 b1 M N := hN
            simp only at hS ⊢
            cases g
            · repeat' (first|refine IOps_nil ?_|refine oS ?_|refine IOps_s rfl rfl ?_|refine oT ?_|refine IOps_s0 rfl ?_|refine oC (π:=[]) (hs:=by first|exact less_spec _ _|fail) (hx:=?_)|refine oZ ?_|refine oI ?_|refine oAB ?_|refine thenI_n ?_|refine IWP_seq ?_|refine IWP_region ?_|refine IWP_ct rfl ?_|refine IWP_cf rfl ?_|refine IWP_skip ?_|refine IWP_ret ?_|refine IWP_block ?_|refine inB_n ?_|refine thenI_r ?_|refine thenI_e ?_|refine inB_r ?_|refine inB_hit ?_|refine inB_miss rfl ?_|refine IWP_exit ?_|refine IWP_scope ?_|refine IWP_label ?_|refine noG_n ?_|refine noG_r ?_|refine noG_e ?_|refine jmp_n ?_|refine jmp_r ?_|refine jmp_e ?_|refine jmp_g ?_|refine thenI_g ?_|refine inB_g ?_|refine IWP_goto ?_|refine Loop_n ?_|refine oD (id:=17) W46_17 [] O46_17 [_,_,_,_,_,_,_,_,_,_,_,_,_,_,_] [_] rfl (by repeat' (first|exact trivial|refine And.intro ?_ ?_|exact bS|exact bX|exact bZ|exact bI|exact bC (π:=[]) (hs:=by first|exact less_spec _ _|fail)|fail)) ?_|fail)
              exact ⟨N, ⟨hQ.perm hN, hpre.perm hN⟩, lP [0]⟩
            · repeat' (first|refine IOps_nil ?_|refine oS ?_|refine IOps_s rfl rfl ?_|refine oT ?_|refine IOps_s0 rfl ?_|refine oC (π:=[]) (hs:=by first|exact less_spec _ _|fail) (hx:=?_)|refine oZ ?_|refine oI ?_|refine oAB ?_|refine thenI_n ?_|refine IWP_seq ?_|refine IWP_region ?_|refine IWP_ct rfl ?_|refine IWP_cf rfl ?_|refine IWP_skip ?_|refine IWP_ret ?_|refine IWP_block ?_|refine inB_n ?_|refine thenI_r ?_|refine thenI_e ?_|refine inB_r ?_|refine inB_hit ?_|refine inB_miss rfl ?_|refine IWP_exit ?_|refine IWP_scope ?_|refine IWP_label ?_|refine noG_n ?_|refine noG_r ?_|refine noG_e ?_|refine jmp_n ?_|refine jmp_r ?_|refine jmp_e ?_|refine jmp_g ?_|refine thenI_g ?_|refine inB_g ?_|refine IWP_goto ?_|refine Loop_n ?_|refine oD (id:=17) W46_17 [] O46_17 [_,_,_,_,_,_,_,_,_,_,_,_,_,_,_] [_] rfl (by repeat' (first|exact trivial|refine And.intro ?_ ?_|exact bS|exact bX|exact bZ|exact bI|exact bC (π:=[]) (hs:=by first|exact less_spec _ _|fail)|fail)) ?_|fail)
              exact pX [0] N ⟨(hQ.perm hN).ps, (hQ.perm hN).done (hS rfl)⟩ rfl
          · cases wb
            · repeat' (first|refine IOps_nil ?_|refine oS ?_|refine IOps_s rfl rfl ?_|refine oT ?_|refine IOps_s0 rfl ?_|refine oC (π:=[]) (hs:=by first|exact less_spec _ _|fail) (hx:=?_)|refine oZ ?_|refine oI ?_|refine oAB ?_|refine thenI_n ?_|refine IWP_seq ?_|refine IWP_region ?_|refine IWP_ct rfl ?_|refine IWP_cf rfl ?_|refine IWP_skip ?_|refine IWP_ret ?_|refine IWP_block ?_|refine inB_n ?_|refine thenI_r ?_|refine thenI_e ?_|refine inB_r ?_|refine inB_hit ?_|refine inB_miss rfl ?_|refine IWP_exit ?_|refine IWP_scope ?_|refine IWP_label ?_|refine noG_n ?_|refine noG_r ?_|refine noG_e ?_|refine jmp_n ?_|refine jmp_r ?_|refine jmp_e ?_|refine jmp_g ?_|refine thenI_g ?_|refine inB_g ?_|refine IWP_goto ?_|refine Loop_n ?_|refine oD (id:=17) W46_17 [] O46_17 [_,_,_,_,_,_,_,_,_,_,_,_,_,_,_] [_] rfl (by repeat' (first|exact trivial|refine And.intro ?_ ?_|exact bS|exact bX|exact bZ|exact bI|exact bC (π:=[]) (hs:=by first|exact less_spec _ _|fail)|fail)) ?_|fail)
              exact ⟨M, ⟨hQ, hpre⟩, lP [0]⟩
            · cases wp
              · repeat' (first|refine IOps_nil ?_|refine oS ?_|refine IOps_s rfl rfl ?_|refine oT ?_|refine IOps_s0 rfl ?_|refine oC (π:=[]) (hs:=by first|exact less_spec _ _|fail) (hx:=?_)|refine oZ ?_|refine oI ?_|refine oAB ?_|refine thenI_n ?_|refine IWP_seq ?_|refine IWP_region ?_|refine IWP_ct rfl ?_|refine IWP_cf rfl ?_|refine IWP_skip ?_|refine IWP_ret ?_|refine IWP_block ?_|refine inB_n ?_|refine thenI_r ?_|refine thenI_e ?_|refine inB_r ?_|refine inB_hit ?_|refine inB_miss rfl ?_|refine IWP_exit ?_|refine IWP_scope ?_|refine IWP_label ?_|refine noG_n ?_|refine noG_r ?_|refine noG_e ?_|refine jmp_n ?_|refine jmp_r ?_|refine jmp_e ?_|refine jmp_g ?_|refine thenI_g ?_|refine inB_g ?_|refine IWP_goto ?_|refine Loop_n ?_|refine oD (id:=17) W46_17 [] O46_17 [_,_,_,_,_,_,_,_,_,_,_,_,_,_,_] [_] rfl (by repeat' (first|exact trivial|refine And.intro ?_ ?_|exact bS|exact bX|exact bZ|exact bI|exact bC (π:=[]) (hs:=by first|exact less_spec _ _|fail)|fail)) ?_|fail)
                exact ⟨M, ⟨hQ, hpre⟩, lP [0]⟩
              · have hh : hint ≠ 1 := fun h => hw ⟨rfl, rfl, h⟩
                repeat' (first|refine IOps_nil ?_|refine oS ?_|refine IOps_s rfl rfl ?_|refine oT ?_|refine IOps_s0 rfl ?_|refine oC (π:=[]) (hs:=by first|exact less_spec _ _|fail) (hx:=?_)|refine oZ ?_|refine oI ?_|refine oAB ?_|refine thenI_n ?_|refine IWP_seq ?_|refine IWP_region ?_|refine IWP_ct rfl ?_|refine IWP_cf rfl ?_|refine IWP_skip ?_|refine IWP_ret ?_|refine IWP_block ?_|refine inB_n ?_|refine thenI_r ?_|refine thenI_e ?_|refine inB_r ?_|refine inB_hit ?_|refine inB_miss rfl ?_|refine IWP_exit ?_|refine IWP_scope ?_|refine IWP_label ?_|refine noG_n ?_|refine noG_r ?_|refine noG_e ?_|refine jmp_n ?_|refine jmp_r ?_|refine jmp_e ?_|refine jmp_g ?_|refine thenI_g ?_|refine inB_g ?_|refine IWP_goto ?_|refine Loop_n ?_|refine oD (id:=17) W46_17 [] O46_17 [_,_,_,_,_,_,_,_,_,_,_,_,_,_,_] [_] rfl (by repeat' (first|exact trivial|refine And.intro ?_ ?_|exact bS|exact bX|exact bZ|exact bI|exact bC (π:=[]) (hs:=by first|exact less_spec _ _|fail)|fail)) ?_|fail)
                exact ⟨M, ⟨hQ, hpre⟩, lP [0]⟩
        clear hpre hQ hlen q4
        clear hint M
        rintro M ⟨hQ, hpre⟩
        have hlen := hQ.ps.len
        have q4 := hQ.bl
        refine IWP_seq ?_
        refine IWP_cut (fun _ : Unit => ⟨134, [(0, .sl 0 0 L.length cap 1), (1, .i64 a1), (2, .i64 b1), (3, .i64 l1), (8, .sc (.bool wb)), (9, .sc (.bool wp)), (10, .i64 ((b1 : Int) - a1)), (11, .i64 p)], [.arr false (strs M)]⟩) (fun _ => True) ?_ ?_
        · by_cases hd : 0 < a1
          · by_cases he : cS (gd M (a1 - 1)) (gd M p) < 0
            · repeat' (first|refine IOps_nil ?_|refine oS ?_|refine IOps_s rfl rfl ?_|refine oT ?_|refine IOps_s0 rfl ?_|refine oC (π:=[]) (hs:=by first|exact less_spec _ _|fail) (hx:=?_)|refine oZ ?_|refine oI ?_|refine oAB ?_|refine thenI_n ?_|refine IWP_seq ?_|refine IWP_region ?_|refine IWP_ct rfl ?_|refine IWP_cf rfl ?_|refine IWP_skip ?_|refine IWP_ret ?_|refine IWP_block ?_|refine inB_n ?_|refine thenI_r ?_|refine thenI_e ?_|refine inB_r ?_|refine inB_hit ?_|refine inB_miss rfl ?_|refine IWP_exit ?_|refine IWP_scope ?_|refine IWP_label ?_|refine noG_n ?_|refine noG_r ?_|refine noG_e ?_|refine jmp_n ?_|refine jmp_r ?_|refine jmp_e ?_|refine jmp_g ?_|refine thenI_g ?_|refine inB_g ?_|refine IWP_goto ?_|refine Loop_n ?_|refine oD (id:=17) W46_17 [] O46_17 [_,_,_,_,_,_,_,_,_,_,_,_,_,_,_] [_] rfl (by repeat' (first|exact trivial|refine And.intro ?_ ?_|exact bS|exact bX|exact bZ|exact bI|exact bC (π:=[]) (hs:=by first|exact less_spec _ _|fail)|fail)) ?_|fail)
              exact ⟨(), trivial, lP [0]⟩
            · repeat' (first|refine IOps_nil ?_|refine oS ?_|refine IOps_s rfl rfl ?_|refine oT ?_|refine IOps_s0 rfl ?_|refine oC (π:=[]) (hs:=by first|exact less_spec _ _|fail) (hx:=?_)|refine oZ ?_|refine oI ?_|refine oAB ?_|refine thenI_n ?_|refine IWP_seq ?_|refine IWP_region ?_|refine IWP_ct rfl ?_|refine IWP_cf rfl ?_|refine IWP_skip ?_|refine IWP_ret ?_|refine IWP_block ?_|refine inB_n ?_|refine thenI_r ?_|refine thenI_e ?_|refine inB_r ?_|refine inB_hit ?_|refine inB_miss rfl ?_|refine IWP_exit ?_|refine IWP_scope ?_|refine IWP_label ?_|refine noG_n ?_|refine noG_r ?_|refine noG_e ?_|refine jmp_n ?_|refine jmp_r ?_|refine jmp_e ?_|refine jmp_g ?_|refine thenI_g ?_|refine inB_g ?_|refine IWP_goto ?_|refine Loop_n ?_|refine oD (id:=17) W46_17 [] O46_17 [_,_,_,_,_,_,_,_,_,_,_,_,_,_,_] [_] rfl (by repeat' (first|exact trivial|refine And.intro ?_ ?_|exact bS|exact bX|exact bZ|exact bI|exact bC (π:=[]) (hs:=by first|exact less_spec _ _|fail)|fail)) ?_|fail)
              have hsp := parteq_spec M a1 b1 p cap oc hp1 hp2 (by omega) (by omega)
              rw [hlen] at hsp
              refine oE [0] (hs := hsp) (hx := ?_)
              rintro ⟨N, m⟩ ⟨hN, hm1, hm2, hk1, hk2⟩
              replace hN : PS a1 b1 M N := hN
              simp only at hm1 hm2 hk1 hk2 ⊢
              repeat' (first|refine IOps_nil ?_|refine oS ?_|refine IOps_s rfl rfl ?_|refine oT ?_|refine IOps_s0 rfl ?_|refine oC (π:=[]) (hs:=by first|exact less_spec _ _|fail) (hx:=?_)|refine oZ ?_|refine oI ?_|refine oAB ?_|refine thenI_n ?_|refine IWP_seq ?_|refine IWP_region ?_|refine IWP_ct rfl ?_|refine IWP_cf rfl ?_|refine IWP_skip ?_|refine IWP_ret ?_|refine IWP_block ?_|refine inB_n ?_|refine thenI_r ?_|refine thenI_e ?_|refine inB_r ?_|refine inB_hit ?_|refine inB_miss rfl ?_|refine IWP_exit ?_|refine IWP_scope ?_|refine IWP_label ?_|refine noG_n ?_|refine noG_r ?_|refine noG_e ?_|refine jmp_n ?_|refine jmp_r ?_|refine jmp_e ?_|refine jmp_g ?_|refine thenI_g ?_|refine inB_g ?_|refine IWP_goto ?_|refine Loop_n ?_|refine oD (id:=17) W46_17 [] O46_17 [_,_,_,_,_,_,_,_,_,_,_,_,_,_,_] [_] rfl (by repeat' (first|exact trivial|refine And.intro ?_ ?_|exact bS|exact bX|exact bZ|exact bI|exact bC (π:=[]) (hs:=by first|exact less_spec _ _|fail)|fail)) ?_|fail)
              have hpN := hpre.perm hN
              have hx : cS (gd N (a1 - 1)) (gd M p) < 0 ↔ False := by rw [hN.out (a1 - 1) (by omega)]; exact iff_false_intro he
              exact ⟨(N, m, b1, l1, wb, wp), ⟨QI.like oc (hQ.perm hN) (Nat.le_of_lt hm1) hm2 (gd M p) (fun q h1 h2 => ⟨oc.trans _ _ _ (decide_eq_false (hpN hd q h1 (Nat.lt_of_lt_of_le h2 hm2))) (decide_eq_false (fun h => hx.1 h)), decide_eq_false (hk1 q h1 h2)⟩) (fun q h1 h2 => decide_eq_true (hk2 q h1 h2)),
                fun h0 q h1 h2 h3 => absurd (oc.trans _ _ _ (oc.asym _ _ (decide_eq_true (hk2 q h1 h2))) (decide_eq_false (hk1 (m - 1) (by omega) (by omega)))) (by simpa using h3), hl64⟩, by simp only; omega, lP [0]⟩
          · repeat' (first|refine IOps_nil ?_|refine oS ?_|refine IOps_s rfl rfl ?_|refine oT ?_|refine IOps_s0 rfl ?_|refine oC (π:=[]) (hs:=by first|exact less_spec _ _|fail) (hx:=?_)|refine oZ ?_|refine oI ?_|refine oAB ?_|refine thenI_n ?_|refine IWP_seq ?_|refine IWP_region ?_|refine IWP_ct rfl ?_|refine IWP_cf rfl ?_|refine IWP_skip ?_|refine IWP_ret ?_|refine IWP_block ?_|refine inB_n ?_|refine thenI_r ?_|refine thenI_e ?_|refine inB_r ?_|refine inB_hit ?_|refine inB_miss rfl ?_|refine IWP_exit ?_|refine IWP_scope ?_|refine IWP_label ?_|refine noG_n ?_|refine noG_r ?_|refine noG_e ?_|refine jmp_n ?_|refine jmp_r ?_|refine jmp_e ?_|refine jmp_g ?_|refine thenI_g ?_|refine inB_g ?_|refine IWP_goto ?_|refine Loop_n ?_|refine oD (id:=17) W46_17 [] O46_17 [_,_,_,_,_,_,_,_,_,_,_,_,_,_,_] [_] rfl (by repeat' (first|exact trivial|refine And.intro ?_ ?_|exact bS|exact bX|exact bZ|exact bI|exact bC (π:=[]) (hs:=by first|exact less_spec _ _|fail)|fail)) ?_|fail)
            exact ⟨(), trivial, lP [0]⟩
        rintro - -
        repeat' (first|refine IOps_nil ?_|refine oS ?_|refine IOps_s rfl rfl ?_|refine oT ?_|refine IOps_s0 rfl ?_|refine oC (π:=[]) (hs:=by first|exact less_spec _ _|fail) (hx:=?_)|refine oZ ?_|refine oI ?_|refine oAB ?_|refine thenI_n ?_|refine IWP_seq ?_|refine IWP_region ?_|refine IWP_ct rfl ?_|refine IWP_cf rfl ?_|refine IWP_skip ?_|refine IWP_ret ?_|refine IWP_block ?_|refine inB_n ?_|refine thenI_r ?_|refine thenI_e ?_|refine inB_r ?_|refine inB_hit ?_|refine inB_miss rfl ?_|refine IWP_exit ?_|refine IWP_scope ?_|refine IWP_label ?_|refine noG_n ?_|refine noG_r ?_|refine noG_e ?_|refine jmp_n ?_|refine jmp_r ?_|refine jmp_e ?_|refine jmp_g ?_|refine thenI_g ?_|refine inB_g ?_|refine IWP_goto ?_|refine Loop_n ?_|refine oD (id:=17) W46_17 [] O46_17 [_,_,_,_,_,_,_,_,_,_,_,_,_,_,_] [_] rfl (by repeat' (first|exact trivial|refine And.intro ?_ ?_|exact bS|exact bX|exact bZ|exact bI|exact bC (π:=[]) (hs:=by first|exact less_spec _ _|fail)|fail)) ?_|fail)
        have hsp := part_spec M a1 b1 p cap oc hp1 hp2 (by omega) (by omega)
        rw [hlen] at hsp
        refine oE [0] (hs := hsp) (hx := ?_)
        rintro ⟨N, m, f⟩ ⟨hN, hP⟩
        replace hN : PS a1 b1 M N := hN
        replace hP : Part (fun x y => decide (cS x y < 0)) a1 b1 m N := hP
        have hm1 := hP.lo; have hm2 := hP.hi
        have hlN := hN.len
        have hpN := hpre.perm hN
        have hQN := hQ.perm hN
        simp only at ⊢
        by_cases hlr : (m : Int) - a1 < (b1 : Int) - m
        · repeat' (first|refine IOps_nil ?_|refine oS ?_|refine IOps_s rfl rfl ?_|refine oT ?_|refine IOps_s0 rfl ?_|refine oC (π:=[]) (hs:=by first|exact less_spec _ _|fail) (hx:=?_)|refine oZ ?_|refine oI ?_|refine oAB ?_|refine thenI_n ?_|refine IWP_seq ?_|refine IWP_region ?_|refine IWP_ct rfl ?_|refine IWP_cf rfl ?_|refine IWP_skip ?_|refine IWP_ret ?_|refine IWP_block ?_|refine inB_n ?_|refine thenI_r ?_|refine thenI_e ?_|refine inB_r ?_|refine inB_hit ?_|refine inB_miss rfl ?_|refine IWP_exit ?_|refine IWP_scope ?_|refine IWP_label ?_|refine noG_n ?_|refine noG_r ?_|refine noG_e ?_|refine jmp_n ?_|refine jmp_r ?_|refine jmp_e ?_|refine jmp_g ?_|refine thenI_g ?_|refine inB_g ?_|refine IWP_goto ?_|refine Loop_n ?_|refine oD (id:=17) W46_17 [] O46_17 [_,_,_,_,_,_,_,_,_,_,_,_,_,_,_] [_] rfl (by repeat' (first|exact trivial|refine And.intro ?_ ?_|exact bS|exact bX|exact bZ|exact bI|exact bC (π:=[]) (hs:=by first|exact less_spec _ _|fail)|fail)) ?_|fail)
          have hsp := ih N a1 m l1 (by omega) hm1 (by omega) (by omega) hl64 (fun h0 q h1 h2 => hpN h0 q h1 (by omega))
          rw [hlN, hlen] at hsp
          refine oE [0] (hs := hsp) (hx := ?_)
          rintro N2 ⟨hN2, hS2⟩
          repeat' (first|refine IOps_nil ?_|refine oS ?_|refine IOps_s rfl rfl ?_|refine oT ?_|refine IOps_s0 rfl ?_|refine oC (π:=[]) (hs:=by first|exact less_spec _ _|fail) (hx:=?_)|refine oZ ?_|refine oI ?_|refine oAB ?_|refine thenI_n ?_|refine IWP_seq ?_|refine IWP_region ?_|refine IWP_ct rfl ?_|refine IWP_cf rfl ?_|refine IWP_skip ?_|refine IWP_ret ?_|refine IWP_block ?_|refine inB_n ?_|refine thenI_r ?_|refine thenI_e ?_|refine inB_r ?_|refine inB_hit ?_|refine inB_miss rfl ?_|refine IWP_exit ?_|refine IWP_scope ?_|refine IWP_label ?_|refine noG_n ?_|refine noG_r ?_|refine noG_e ?_|refine jmp_n ?_|refine jmp_r ?_|refine jmp_e ?_|refine jmp_g ?_|refine thenI_g ?_|refine inB_g ?_|refine IWP_goto ?_|refine Loop_n ?_|refine oD (id:=17) W46_17 [] O46_17 [_,_,_,_,_,_,_,_,_,_,_,_,_,_,_] [_] rfl (by repeat' (first|exact trivial|refine And.intro ?_ ?_|exact bS|exact bX|exact bZ|exact bI|exact bC (π:=[]) (hs:=by first|exact less_spec _ _|fail)|fail)) ?_|fail)
          have hP2 := hP.left hN2
          exact ⟨(N2, m + 1, b1, l1, decide ((m : Int) - a1 ≥ ((b1 : Int) - a1) / 8), f), ⟨QI.left oc (hQN.perm (hN2.widen (Nat.le_refl _) (by omega))) hP2 hS2, fun _ q h1 h2 h3 => absurd (hP2.more q (Nat.lt_of_succ_le h1) h2) (by simpa using h3), hl64⟩, by simp only; omega, lP [0]⟩
        · repeat' (first|refine IOps_nil ?_|refine oS ?_|refine IOps_s rfl rfl ?_|refine oT ?_|refine IOps_s0 rfl ?_|refine oC (π:=[]) (hs:=by first|exact less_spec _ _|fail) (hx:=?_)|refine oZ ?_|refine oI ?_|refine oAB ?_|refine thenI_n ?_|refine IWP_seq ?_|refine IWP_region ?_|refine IWP_ct rfl ?_|refine IWP_cf rfl ?_|refine IWP_skip ?_|refine IWP_ret ?_|refine IWP_block ?_|refine inB_n ?_|refine thenI_r ?_|refine thenI_e ?_|refine inB_r ?_|refine inB_hit ?_|refine inB_miss rfl ?_|refine IWP_exit ?_|refine IWP_scope ?_|refine IWP_label ?_|refine noG_n ?_|refine noG_r ?_|refine noG_e ?_|refine jmp_n ?_|refine jmp_r ?_|refine jmp_e ?_|refine jmp_g ?_|refine thenI_g ?_|refine inB_g ?_|refine IWP_goto ?_|refine Loop_n ?_|refine oD (id:=17) W46_17 [] O46_17 [_,_,_,_,_,_,_,_,_,_,_,_,_,_,_] [_] rfl (by repeat' (first|exact trivial|refine And.intro ?_ ?_|exact bS|exact bX|exact bZ|exact bI|exact bC (π:=[]) (hs:=by first|exact less_spec _ _|fail)|fail)) ?_|fail)
          have hsp := ih N (m + 1) b1 l1 (by omega) (by omega) (by omega) (by omega) hl64 (fun _ q h1 h2 h3 => absurd (hP.more q (Nat.lt_of_succ_le h1) h2) (by simpa using h3))
          rw [hlN, hlen] at hsp
          refine oE [0] (hs := hsp) (hx := ?_)
          rintro N2 ⟨hN2, hS2⟩
          repeat' (first|refine IOps_nil ?_|refine oS ?_|refine IOps_s rfl rfl ?_|refine oT ?_|refine IOps_s0 rfl ?_|refine oC (π:=[]) (hs:=by first|exact less_spec _ _|fail) (hx:=?_)|refine oZ ?_|refine oI ?_|refine oAB ?_|refine thenI_n ?_|refine IWP_seq ?_|refine IWP_region ?_|refine IWP_ct rfl ?_|refine IWP_cf rfl ?_|refine IWP_skip ?_|refine IWP_ret ?_|refine IWP_block ?_|refine inB_n ?_|refine thenI_r ?_|refine thenI_e ?_|refine inB_r ?_|refine inB_hit ?_|refine inB_miss rfl ?_|refine IWP_exit ?_|refine IWP_scope ?_|refine IWP_label ?_|refine noG_n ?_|refine noG_r ?_|refine noG_e ?_|refine jmp_n ?_|refine jmp_r ?_|refine jmp_e ?_|refine jmp_g ?_|refine thenI_g ?_|refine inB_g ?_|refine IWP_goto ?_|refine Loop_n ?_|refine oD (id:=17) W46_17 [] O46_17 [_,_,_,_,_,_,_,_,_,_,_,_,_,_,_] [_] rfl (by repeat' (first|exact trivial|refine And.intro ?_ ?_|exact bS|exact bX|exact bZ|exact bI|exact bC (π:=[]) (hs:=by first|exact less_spec _ _|fail)|fail)) ?_|fail)
          have hP2 := hP.right hN2
          exact ⟨(N2, a1, m, l1, decide ((b1 : Int) - m ≥ ((b1 : Int) - a1) / 8), f), ⟨QI.right oc (hQN.perm (hN2.widen (by omega) (Nat.le_refl _))) hP2 hS2, fun h0 q h1 h2 => hpN.perm (hN2.widen (by omega) (Nat.le_refl _)) h0 q h1 (Nat.lt_trans h2 hm2), hl64⟩, by simp only; omega, lP [0]⟩
end Go.Proofs.Ytmgcoopmbohkoaa

namespace Go.Proofs.Ytmgcoopmbohkoaa
open Go Go.Idl
set_option linter.unusedSimpArgs false
set_option linter.unusedVariables false
set_option maxRecDepth 100000
set_option maxHeartbeats 1000000
attribute [local irreducible] Go.Idl.IWP Go.Idl.IOps Go.Idl.Obl Go.Idl.OpG Go.Idl.thenI Go.Idl.inBlockI Go.Idl.LoopU Go.Idl.noGotoI Go.Idl.jumpI
attribute [local go_sem] List.length_set
theorem sort_spec (L : List Ks) (cap : Nat) (oc : OrdL fun x y => decide (cS x y < 0)) (hL : L.length ≤ 250) :
    Idl.Spec Try.prog 36 [.sl 0 0 L.length cap 1] [.arr false (strs L)]
      (Ex (fun M : List Ks => M.length = L.length ∧ M.Perm L ∧ M.Pairwise fun x y => ¬ cS y x < 0) (fun _ => .tup []) (fun M => [.arr false (strs M)])) := by
  refine sE Try.func36 Try.ntmps36 ?_
  repeat' (first|refine IOps_nil ?_|refine oS ?_|refine IOps_s rfl rfl ?_|refine oT ?_|refine IOps_s0 rfl ?_|refine oC (π:=[]) (hs:=by first|exact less_spec _ _|fail) (hx:=?_)|refine oZ ?_|refine oI ?_|refine oAB ?_|refine thenI_n ?_|refine IWP_seq ?_|refine IWP_region ?_|refine IWP_ct rfl ?_|refine IWP_cf rfl ?_|refine IWP_skip ?_|refine IWP_ret ?_|refine IWP_block ?_|refine inB_n ?_|refine thenI_r ?_|refine thenI_e ?_|refine inB_r ?_|refine inB_hit ?_|refine inB_miss rfl ?_|refine IWP_exit ?_|refine IWP_scope ?_|refine IWP_label ?_|refine noG_n ?_|refine noG_r ?_|refine noG_e ?_|refine jmp_n ?_|refine jmp_r ?_|refine jmp_e ?_|refine jmp_g ?_|refine thenI_g ?_|refine inB_g ?_|refine IWP_goto ?_|refine Loop_n ?_|fail)
  refine oE [] (hs := len_spec L.length (by omega)) (hx := ?_)
  rintro n ⟨hn, -⟩
  repeat' (first|refine IOps_nil ?_|refine oS ?_|refine IOps_s rfl rfl ?_|refine oT ?_|refine IOps_s0 rfl ?_|refine oC (π:=[]) (hs:=by first|exact less_spec _ _|fail) (hx:=?_)|refine oZ ?_|refine oI ?_|refine oAB ?_|refine thenI_n ?_|refine IWP_seq ?_|refine IWP_region ?_|refine IWP_ct rfl ?_|refine IWP_cf rfl ?_|refine IWP_skip ?_|refine IWP_ret ?_|refine IWP_block ?_|refine inB_n ?_|refine thenI_r ?_|refine thenI_e ?_|refine inB_r ?_|refine inB_hit ?_|refine inB_miss rfl ?_|refine IWP_exit ?_|refine IWP_scope ?_|refine IWP_label ?_|refine noG_n ?_|refine noG_r ?_|refine noG_e ?_|refine jmp_n ?_|refine jmp_r ?_|refine jmp_e ?_|refine jmp_g ?_|refine thenI_g ?_|refine inB_g ?_|refine IWP_goto ?_|refine Loop_n ?_|fail)
  have hsp := pdq_spec cap oc (L.length + 1) L 0 L.length n (by omega) (by omega) (Nat.le_refl _) hL (by omega) (fun h => by omega)
  refine oE [0] (hs := hsp) (hx := ?_)
  rintro M ⟨hM, hS⟩
  repeat' (first|refine IOps_nil ?_|refine oS ?_|refine IOps_s rfl rfl ?_|refine oT ?_|refine IOps_s0 rfl ?_|refine oC (π:=[]) (hs:=by first|exact less_spec _ _|fail) (hx:=?_)|refine oZ ?_|refine oI ?_|refine oAB ?_|refine thenI_n ?_|refine IWP_seq ?_|refine IWP_region ?_|refine IWP_ct rfl ?_|refine IWP_cf rfl ?_|refine IWP_skip ?_|refine IWP_ret ?_|refine IWP_block ?_|refine inB_n ?_|refine thenI_r ?_|refine thenI_e ?_|refine inB_r ?_|refine inB_hit ?_|refine inB_miss rfl ?_|refine IWP_exit ?_|refine IWP_scope ?_|refine IWP_label ?_|refine noG_n ?_|refine noG_r ?_|refine noG_e ?_|refine jmp_n ?_|refine jmp_r ?_|refine jmp_e ?_|refine jmp_g ?_|refine thenI_g ?_|refine inB_g ?_|refine IWP_goto ?_|refine Loop_n ?_|fail)
  exact pX [0] M ⟨hM.len, hM.perm, (SS.pairwise (hM.len ▸ hS)).imp fun h => by simpa using h⟩ rfl
end Go.Proofs.Ytmgcoopmbohkoaa
