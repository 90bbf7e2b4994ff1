/-
  No cell of these rows narrows 'for every input' (looked for: loops, veiled, ifaces, maps, wideKeys, modest, calm, conditions, laid).
  DERIVED. THE GIVEN ROWS OF THIS SEAT. 6 by the template 'for every input the law returns true; each argument reads behind the call as it read before'; 0 by the template 'total and deterministic' (their statements: YtpmgocnapdhabaaTotals.lean).
  GIVEN WITH THE SEED: the statements are not yours to turn. If you find one false, say at which input.
  Laid BY PROGRAM, IN A SANDBOX (cutbox-rows.mjs): the forced cells as the released guide's own fill.sh prints them over the translation 3f74e3f3ce5b5e45… (all of the seat's roots in one cut). By AI agents, Wed Nov 11 2026. No macro, syntax, notation, axiom, sorry.
-/
import Derived.Test.YtpmgocnapdhabaaChecked
import GoSem.Claim
import GoSem.ClaimJoined
import GoSem.ClaimMapViews
import Derived.JoinedTies
import Derived.KernelRfl
namespace Go.Proofs.Ytpmgocnapdhabaa
/- THE CELL 'sum', in the pinned program and in every row, IS THE sha256 OF THE DUMP (.gsa) THAT YtpmgocnapdhabaaProg.lean LOADS. Nothing in Lean hashes anything: it is a label: what it is worth is what the hold of that sum in a sandbox is worth. -/
noncomputable def Try.pinned : Pinned := { name := "ytpmgocnapdhabaa", sum := "3f74e3f3ce5b5e45069cc9dfdc5672a344fc74608d09e8559796a4ef7b0d4a2d", checked := Try.checked }
namespace Rows
def none {H : Type} : Left H := { results := [], args := [] }

/-- 'linhaylaw08.TapeTells': WHATEVER THE INPUT: true; the input reads as it did. -/
def tapeTellsSpec : ChangeSpec := { name := "tapeTells", fn := fun _ => fun
  | [d1, d2, d3] => { results := [.lit (.bool true)], args := [d1, d2, d3] }
  | _ => none }
def tapeTellsRow : OpenClaim := { program := "ytpmgocnapdhabaa", sum := "3f74e3f3ce5b5e45069cc9dfdc5672a344fc74608d09e8559796a4ef7b0d4a2d", func := "linhay/linhaylaw08.TapeTells", spec := "tapeTells", apart := false }
def TapeTellsSaid : Prop := tapeTellsRow.holds Try.pinned (OpenSpec.ofChange tapeTellsSpec)

/-- ITS FALSE NEIGHBOUR: 'it returns false'. Refute it at one input. -/
def tapeTellsWrong : ChangeSpec := { name := "tapeTells", fn := fun _ => fun
  | [d1, d2, d3] => { results := [.lit (.bool false)], args := [d1, d2, d3] }
  | _ => none }
def TapeTellsWrongFalsely : Prop := tapeTellsRow.holds Try.pinned (OpenSpec.ofChange tapeTellsWrong)

/-- 'linhaylaw08.TapeOrder': WHATEVER THE INPUT: true; the input reads as it did. -/
def tapeOrderSpec : ChangeSpec := { name := "tapeOrder", fn := fun _ => fun
  | [d] => { results := [.lit (.bool true)], args := [d] }
  | _ => none }
def tapeOrderRow : OpenClaim := { program := "ytpmgocnapdhabaa", sum := "3f74e3f3ce5b5e45069cc9dfdc5672a344fc74608d09e8559796a4ef7b0d4a2d", func := "linhay/linhaylaw08.TapeOrder", spec := "tapeOrder", apart := false }
def TapeOrderSaid : Prop := tapeOrderRow.holds Try.pinned (OpenSpec.ofChange tapeOrderSpec)

/-- ITS FALSE NEIGHBOUR: 'it returns false'. Refute it at one input. -/
def tapeOrderWrong : ChangeSpec := { name := "tapeOrder", fn := fun _ => fun
  | [d] => { results := [.lit (.bool false)], args := [d] }
  | _ => none }
def TapeOrderWrongFalsely : Prop := tapeOrderRow.holds Try.pinned (OpenSpec.ofChange tapeOrderWrong)

/-- 'linhaylaw08.TapePicks': WHATEVER THE INPUT: true; the input reads as it did. -/
def tapePicksSpec : ChangeSpec := { name := "tapePicks", fn := fun _ => fun
  | [d1, d2, d3] => { results := [.lit (.bool true)], args := [d1, d2, d3] }
  | _ => none }
def tapePicksRow : OpenClaim := { program := "ytpmgocnapdhabaa", sum := "3f74e3f3ce5b5e45069cc9dfdc5672a344fc74608d09e8559796a4ef7b0d4a2d", func := "linhay/linhaylaw08.TapePicks", spec := "tapePicks", apart := false }
def TapePicksSaid : Prop := tapePicksRow.holds Try.pinned (OpenSpec.ofChange tapePicksSpec)

/-- ITS FALSE NEIGHBOUR: 'it returns false'. Refute it at one input. -/
def tapePicksWrong : ChangeSpec := { name := "tapePicks", fn := fun _ => fun
  | [d1, d2, d3] => { results := [.lit (.bool false)], args := [d1, d2, d3] }
  | _ => none }
def TapePicksWrongFalsely : Prop := tapePicksRow.holds Try.pinned (OpenSpec.ofChange tapePicksWrong)

/-- 'linhaylaw08.TapeSome': WHATEVER THE INPUT: true; the input reads as it did. -/
def tapeSomeSpec : ChangeSpec := { name := "tapeSome", fn := fun _ => fun
  | [d1, d2, d3] => { results := [.lit (.bool true)], args := [d1, d2, d3] }
  | _ => none }
def tapeSomeRow : OpenClaim := { program := "ytpmgocnapdhabaa", sum := "3f74e3f3ce5b5e45069cc9dfdc5672a344fc74608d09e8559796a4ef7b0d4a2d", func := "linhay/linhaylaw08.TapeSome", spec := "tapeSome", apart := false }
def TapeSomeSaid : Prop := tapeSomeRow.holds Try.pinned (OpenSpec.ofChange tapeSomeSpec)

/-- ITS FALSE NEIGHBOUR: 'it returns false'. Refute it at one input. -/
def tapeSomeWrong : ChangeSpec := { name := "tapeSome", fn := fun _ => fun
  | [d1, d2, d3] => { results := [.lit (.bool false)], args := [d1, d2, d3] }
  | _ => none }
def TapeSomeWrongFalsely : Prop := tapeSomeRow.holds Try.pinned (OpenSpec.ofChange tapeSomeWrong)

/-- 'linhaylaw08.TapeEnd': WHATEVER THE INPUT: true; the input reads as it did. -/
def tapeEndSpec : ChangeSpec := { name := "tapeEnd", fn := fun _ => fun
  | [d1, d2] => { results := [.lit (.bool true)], args := [d1, d2] }
  | _ => none }
def tapeEndRow : OpenClaim := { program := "ytpmgocnapdhabaa", sum := "3f74e3f3ce5b5e45069cc9dfdc5672a344fc74608d09e8559796a4ef7b0d4a2d", func := "linhay/linhaylaw08.TapeEnd", spec := "tapeEnd", apart := false }
def TapeEndSaid : Prop := tapeEndRow.holds Try.pinned (OpenSpec.ofChange tapeEndSpec)

/-- ITS FALSE NEIGHBOUR: 'it returns false'. Refute it at one input. -/
def tapeEndWrong : ChangeSpec := { name := "tapeEnd", fn := fun _ => fun
  | [d1, d2] => { results := [.lit (.bool false)], args := [d1, d2] }
  | _ => none }
def TapeEndWrongFalsely : Prop := tapeEndRow.holds Try.pinned (OpenSpec.ofChange tapeEndWrong)

/-- 'linhaylaw08.TapeBytes': WHATEVER THE INPUT: true; the input reads as it did. -/
def tapeBytesSpec : ChangeSpec := { name := "tapeBytes", fn := fun _ => fun
  | [d1, d2, d3] => { results := [.lit (.bool true)], args := [d1, d2, d3] }
  | _ => none }
def tapeBytesRow : OpenClaim := { program := "ytpmgocnapdhabaa", sum := "3f74e3f3ce5b5e45069cc9dfdc5672a344fc74608d09e8559796a4ef7b0d4a2d", func := "linhay/linhaylaw08.TapeBytes", spec := "tapeBytes", apart := false }
def TapeBytesSaid : Prop := tapeBytesRow.holds Try.pinned (OpenSpec.ofChange tapeBytesSpec)

/-- ITS FALSE NEIGHBOUR: 'it returns false'. Refute it at one input. -/
def tapeBytesWrong : ChangeSpec := { name := "tapeBytes", fn := fun _ => fun
  | [d1, d2, d3] => { results := [.lit (.bool false)], args := [d1, d2, d3] }
  | _ => none }
def TapeBytesWrongFalsely : Prop := tapeBytesRow.holds Try.pinned (OpenSpec.ofChange tapeBytesWrong)

/- THE SECOND FORM. 'bulk': how many values and letters a reading holds, each counted each time it is reached (what is shared counts as often as it is met; a slice's spare places count too). A statement '..UptoSaid' is the law's where the arguments, and the package variables that the reading takes, are together of bulk at most 1048576: NARROWER than '..Said'. Prove '..Said' where nothing that the law and all that it calls make is longer than what came in: it says more and counts as full. Else prove '..UptoSaid'. A law counts once. -/
mutual
def uptoBulk {H : Type} : DataW H → Nat
  | .lit (.string bytes) => bytes.length + 1
  | .lit _ => 1
  | .nil => 1
  | .ptr d => uptoBulk d + 1
  | .slice elems spare => uptoBulkAll elems + uptoBulkAll spare + 1
  | .agg parts => uptoBulkAll parts + 1
  | .iface _ d => uptoBulk d + 1
  | .map entries => uptoBulkEntries entries + 1
  | .held _ => 1
def uptoBulkAll {H : Type} : List (DataW H) → Nat
  | [] => 0
  | d :: r => uptoBulk d + uptoBulkAll r
def uptoBulkEntries {H : Type} : List (Lit × DataW H) → Nat
  | [] => 0
  | x :: r => uptoBulkEntry x + uptoBulkEntries r
def uptoBulkEntry {H : Type} : Lit × DataW H → Nat
  | (.string bytes, d) => bytes.length + uptoBulk d + 1
  | (_, d) => uptoBulk d + 1
 end
def uptoSmall : (H : Type) → List (DataW H) → Bool := fun _ ds => decide (uptoBulkAll ds ≤ 1048576)
def OpenSpec.upto (s : _root_.Go.ChangeSpec) : _root_.Go.OpenSpec := { _root_.Go.OpenSpec.ofChange s with cond := some uptoSmall }

/-- 'linhaylaw08.TapeTells', WHERE WHAT IT READS IS OF BULK AT MOST 1048576: true; the input reads as it did. -/
def tapeTellsUptoRow : OpenClaim := { program := "ytpmgocnapdhabaa", sum := "3f74e3f3ce5b5e45069cc9dfdc5672a344fc74608d09e8559796a4ef7b0d4a2d", func := "linhay/linhaylaw08.TapeTells", spec := "tapeTells", apart := false, narrowed := true }
def TapeTellsUptoSaid : Prop := tapeTellsUptoRow.holds Try.pinned (OpenSpec.upto tapeTellsSpec)

/-- 'linhaylaw08.TapeOrder', WHERE WHAT IT READS IS OF BULK AT MOST 1048576: true; the input reads as it did. -/
def tapeOrderUptoRow : OpenClaim := { program := "ytpmgocnapdhabaa", sum := "3f74e3f3ce5b5e45069cc9dfdc5672a344fc74608d09e8559796a4ef7b0d4a2d", func := "linhay/linhaylaw08.TapeOrder", spec := "tapeOrder", apart := false, narrowed := true }
def TapeOrderUptoSaid : Prop := tapeOrderUptoRow.holds Try.pinned (OpenSpec.upto tapeOrderSpec)

/-- 'linhaylaw08.TapePicks', WHERE WHAT IT READS IS OF BULK AT MOST 1048576: true; the input reads as it did. -/
def tapePicksUptoRow : OpenClaim := { program := "ytpmgocnapdhabaa", sum := "3f74e3f3ce5b5e45069cc9dfdc5672a344fc74608d09e8559796a4ef7b0d4a2d", func := "linhay/linhaylaw08.TapePicks", spec := "tapePicks", apart := false, narrowed := true }
def TapePicksUptoSaid : Prop := tapePicksUptoRow.holds Try.pinned (OpenSpec.upto tapePicksSpec)

/-- 'linhaylaw08.TapeSome', WHERE WHAT IT READS IS OF BULK AT MOST 1048576: true; the input reads as it did. -/
def tapeSomeUptoRow : OpenClaim := { program := "ytpmgocnapdhabaa", sum := "3f74e3f3ce5b5e45069cc9dfdc5672a344fc74608d09e8559796a4ef7b0d4a2d", func := "linhay/linhaylaw08.TapeSome", spec := "tapeSome", apart := false, narrowed := true }
def TapeSomeUptoSaid : Prop := tapeSomeUptoRow.holds Try.pinned (OpenSpec.upto tapeSomeSpec)

/-- 'linhaylaw08.TapeEnd', WHERE WHAT IT READS IS OF BULK AT MOST 1048576: true; the input reads as it did. -/
def tapeEndUptoRow : OpenClaim := { program := "ytpmgocnapdhabaa", sum := "3f74e3f3ce5b5e45069cc9dfdc5672a344fc74608d09e8559796a4ef7b0d4a2d", func := "linhay/linhaylaw08.TapeEnd", spec := "tapeEnd", apart := false, narrowed := true }
def TapeEndUptoSaid : Prop := tapeEndUptoRow.holds Try.pinned (OpenSpec.upto tapeEndSpec)

/-- 'linhaylaw08.TapeBytes', WHERE WHAT IT READS IS OF BULK AT MOST 1048576: true; the input reads as it did. -/
def tapeBytesUptoRow : OpenClaim := { program := "ytpmgocnapdhabaa", sum := "3f74e3f3ce5b5e45069cc9dfdc5672a344fc74608d09e8559796a4ef7b0d4a2d", func := "linhay/linhaylaw08.TapeBytes", spec := "tapeBytes", apart := false, narrowed := true }
def TapeBytesUptoSaid : Prop := tapeBytesUptoRow.holds Try.pinned (OpenSpec.upto tapeBytesSpec)

end Rows
end Go.Proofs.Ytpmgocnapdhabaa
