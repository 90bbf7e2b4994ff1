/-
  No cell of these rows narrows 'for every input' (looked for: loops, veiled, ifaces, maps, wideKeys, modest, calm, conditions, laid).
  DERIVED. THE GIVEN ROWS OF THIS SEAT. 11 by the template 'for every input the law returns true; each argument reads behind the call as it read before'; 0 by the template 'total and deterministic' (their statements: YtnlelckfhlcbgaaTotals.lean).
  GIVEN WITH THE SEED: the statements are not yours to turn. If you find one false, say at which input.
  Laid BY PROGRAM, IN A SANDBOX (cutbox-rows.mjs): the forced cells as the released guide's own fill.sh prints them over the translation 6b6ace143927ddcc… (all of the seat's roots in one cut). By AI agents, Wed Nov 11 2026. No macro, syntax, notation, axiom, sorry.
-/
import Derived.Test.YtnlelckfhlcbgaaChecked
import GoSem.Claim
import GoSem.ClaimJoined
import GoSem.ClaimMapViews
import Derived.JoinedTies
import Derived.KernelRfl
namespace Go.Proofs.Ytnlelckfhlcbgaa
/- THE CELL 'sum', in the pinned program and in every row, IS THE sha256 OF THE DUMP (.gsa) THAT YtnlelckfhlcbgaaProg.lean LOADS. Nothing in Lean hashes anything: it is a label: what it is worth is what the hold of that sum in a sandbox is worth. -/
noncomputable def Try.pinned : Pinned := { name := "ytnlelckfhlcbgaa", sum := "6b6ace143927ddcc25b912a045e36d3f64417e64ce4b49feb22a487aca9bebe5", checked := Try.checked }
namespace Rows
def none {H : Type} : Left H := { results := [], args := [] }

/-- 'linhaylaw14.HeapTells': WHATEVER THE INPUT: true; the input reads as it did. -/
def heapTellsSpec : ChangeSpec := { name := "heapTells", fn := fun _ => fun
  | [d1, d2, d3, d4] => { results := [.lit (.bool true)], args := [d1, d2, d3, d4] }
  | _ => none }
def heapTellsRow : OpenClaim := { program := "ytnlelckfhlcbgaa", sum := "6b6ace143927ddcc25b912a045e36d3f64417e64ce4b49feb22a487aca9bebe5", func := "linhay/linhaylaw14.HeapTells", spec := "heapTells", unfollowed := true, recurses := true, apart := false }
def HeapTellsSaid : Prop := heapTellsRow.holds Try.pinned (OpenSpec.ofChange heapTellsSpec)

/-- ITS FALSE NEIGHBOUR: 'it returns false'. Refute it at one input. -/
def heapTellsWrong : ChangeSpec := { name := "heapTells", fn := fun _ => fun
  | [d1, d2, d3, d4] => { results := [.lit (.bool false)], args := [d1, d2, d3, d4] }
  | _ => none }
def HeapTellsWrongFalsely : Prop := heapTellsRow.holds Try.pinned (OpenSpec.ofChange heapTellsWrong)

/-- 'linhaylaw14.HeapSteps': WHATEVER THE INPUT: true; the input reads as it did. -/
def heapStepsSpec : ChangeSpec := { name := "heapSteps", fn := fun _ => fun
  | [d1, d2] => { results := [.lit (.bool true)], args := [d1, d2] }
  | _ => none }
def heapStepsRow : OpenClaim := { program := "ytnlelckfhlcbgaa", sum := "6b6ace143927ddcc25b912a045e36d3f64417e64ce4b49feb22a487aca9bebe5", func := "linhay/linhaylaw14.HeapSteps", spec := "heapSteps", unfollowed := true, recurses := true, apart := false }
def HeapStepsSaid : Prop := heapStepsRow.holds Try.pinned (OpenSpec.ofChange heapStepsSpec)

/-- ITS FALSE NEIGHBOUR: 'it returns false'. Refute it at one input. -/
def heapStepsWrong : ChangeSpec := { name := "heapSteps", fn := fun _ => fun
  | [d1, d2] => { results := [.lit (.bool false)], args := [d1, d2] }
  | _ => none }
def HeapStepsWrongFalsely : Prop := heapStepsRow.holds Try.pinned (OpenSpec.ofChange heapStepsWrong)

/-- 'linhaylaw14.HeapDrains': WHATEVER THE INPUT: true; the input reads as it did. -/
def heapDrainsSpec : ChangeSpec := { name := "heapDrains", fn := fun _ => fun
  | [d] => { results := [.lit (.bool true)], args := [d] }
  | _ => none }
def heapDrainsRow : OpenClaim := { program := "ytnlelckfhlcbgaa", sum := "6b6ace143927ddcc25b912a045e36d3f64417e64ce4b49feb22a487aca9bebe5", func := "linhay/linhaylaw14.HeapDrains", spec := "heapDrains", unfollowed := true, recurses := true, apart := false }
def HeapDrainsSaid : Prop := heapDrainsRow.holds Try.pinned (OpenSpec.ofChange heapDrainsSpec)

/-- ITS FALSE NEIGHBOUR: 'it returns false'. Refute it at one input. -/
def heapDrainsWrong : ChangeSpec := { name := "heapDrains", fn := fun _ => fun
  | [d] => { results := [.lit (.bool false)], args := [d] }
  | _ => none }
def HeapDrainsWrongFalsely : Prop := heapDrainsRow.holds Try.pinned (OpenSpec.ofChange heapDrainsWrong)

/-- 'linhaylaw14.HeapSets': WHATEVER THE INPUT: true; the input reads as it did. -/
def heapSetsSpec : ChangeSpec := { name := "heapSets", fn := fun _ => fun
  | [d1, d2, d3] => { results := [.lit (.bool true)], args := [d1, d2, d3] }
  | _ => none }
def heapSetsRow : OpenClaim := { program := "ytnlelckfhlcbgaa", sum := "6b6ace143927ddcc25b912a045e36d3f64417e64ce4b49feb22a487aca9bebe5", func := "linhay/linhaylaw14.HeapSets", spec := "heapSets", unfollowed := true, recurses := true, apart := false }
def HeapSetsSaid : Prop := heapSetsRow.holds Try.pinned (OpenSpec.ofChange heapSetsSpec)

/-- ITS FALSE NEIGHBOUR: 'it returns false'. Refute it at one input. -/
def heapSetsWrong : ChangeSpec := { name := "heapSets", fn := fun _ => fun
  | [d1, d2, d3] => { results := [.lit (.bool false)], args := [d1, d2, d3] }
  | _ => none }
def HeapSetsWrongFalsely : Prop := heapSetsRow.holds Try.pinned (OpenSpec.ofChange heapSetsWrong)

/-- 'linhaylaw14.HeapOrder': WHATEVER THE INPUT: true; the input reads as it did. -/
def heapOrderSpec : ChangeSpec := { name := "heapOrder", fn := fun _ => fun
  | [d1, d2, d3] => { results := [.lit (.bool true)], args := [d1, d2, d3] }
  | _ => none }
def heapOrderRow : OpenClaim := { program := "ytnlelckfhlcbgaa", sum := "6b6ace143927ddcc25b912a045e36d3f64417e64ce4b49feb22a487aca9bebe5", func := "linhay/linhaylaw14.HeapOrder", spec := "heapOrder", unfollowed := true, recurses := true, apart := false }
def HeapOrderSaid : Prop := heapOrderRow.holds Try.pinned (OpenSpec.ofChange heapOrderSpec)

/-- ITS FALSE NEIGHBOUR: 'it returns false'. Refute it at one input. -/
def heapOrderWrong : ChangeSpec := { name := "heapOrder", fn := fun _ => fun
  | [d1, d2, d3] => { results := [.lit (.bool false)], args := [d1, d2, d3] }
  | _ => none }
def HeapOrderWrongFalsely : Prop := heapOrderRow.holds Try.pinned (OpenSpec.ofChange heapOrderWrong)

/-- 'linhaylaw14.HeapFirst': WHATEVER THE INPUT: true; the input reads as it did. -/
def heapFirstSpec : ChangeSpec := { name := "heapFirst", fn := fun _ => fun
  | [d1, d2] => { results := [.lit (.bool true)], args := [d1, d2] }
  | _ => none }
def heapFirstRow : OpenClaim := { program := "ytnlelckfhlcbgaa", sum := "6b6ace143927ddcc25b912a045e36d3f64417e64ce4b49feb22a487aca9bebe5", func := "linhay/linhaylaw14.HeapFirst", spec := "heapFirst", unfollowed := true, recurses := true, apart := false }
def HeapFirstSaid : Prop := heapFirstRow.holds Try.pinned (OpenSpec.ofChange heapFirstSpec)

/-- ITS FALSE NEIGHBOUR: 'it returns false'. Refute it at one input. -/
def heapFirstWrong : ChangeSpec := { name := "heapFirst", fn := fun _ => fun
  | [d1, d2] => { results := [.lit (.bool false)], args := [d1, d2] }
  | _ => none }
def HeapFirstWrongFalsely : Prop := heapFirstRow.holds Try.pinned (OpenSpec.ofChange heapFirstWrong)

/-- 'linhaylaw17.ExpiryOnce': WHATEVER THE INPUT: true; the input reads as it did. -/
def expiryOnceSpec : ChangeSpec := { name := "expiryOnce", fn := fun _ => fun
  | [d1, d2] => { results := [.lit (.bool true)], args := [d1, d2] }
  | _ => none }
def expiryOnceRow : OpenClaim := { program := "ytnlelckfhlcbgaa", sum := "6b6ace143927ddcc25b912a045e36d3f64417e64ce4b49feb22a487aca9bebe5", func := "linhay/linhaylaw17.ExpiryOnce", spec := "expiryOnce", unfollowed := true, recurses := true, apart := false }
def ExpiryOnceSaid : Prop := expiryOnceRow.holds Try.pinned (OpenSpec.ofChange expiryOnceSpec)

/-- ITS FALSE NEIGHBOUR: 'it returns false'. Refute it at one input. -/
def expiryOnceWrong : ChangeSpec := { name := "expiryOnce", fn := fun _ => fun
  | [d1, d2] => { results := [.lit (.bool false)], args := [d1, d2] }
  | _ => none }
def ExpiryOnceWrongFalsely : Prop := expiryOnceRow.holds Try.pinned (OpenSpec.ofChange expiryOnceWrong)

/-- 'linhaylaw17.ExpiryTicks': WHATEVER THE INPUT: true; the input reads as it did. -/
def expiryTicksSpec : ChangeSpec := { name := "expiryTicks", fn := fun _ => fun
  | [d1, d2, d3] => { results := [.lit (.bool true)], args := [d1, d2, d3] }
  | _ => none }
def expiryTicksRow : OpenClaim := { program := "ytnlelckfhlcbgaa", sum := "6b6ace143927ddcc25b912a045e36d3f64417e64ce4b49feb22a487aca9bebe5", func := "linhay/linhaylaw17.ExpiryTicks", spec := "expiryTicks", unfollowed := true, recurses := true, apart := false }
def ExpiryTicksSaid : Prop := expiryTicksRow.holds Try.pinned (OpenSpec.ofChange expiryTicksSpec)

/-- ITS FALSE NEIGHBOUR: 'it returns false'. Refute it at one input. -/
def expiryTicksWrong : ChangeSpec := { name := "expiryTicks", fn := fun _ => fun
  | [d1, d2, d3] => { results := [.lit (.bool false)], args := [d1, d2, d3] }
  | _ => none }
def ExpiryTicksWrongFalsely : Prop := expiryTicksRow.holds Try.pinned (OpenSpec.ofChange expiryTicksWrong)

/-- 'linhaylaw17.ExpiryNext': WHATEVER THE INPUT: true; the input reads as it did. -/
def expiryNextSpec : ChangeSpec := { name := "expiryNext", fn := fun _ => fun
  | [d] => { results := [.lit (.bool true)], args := [d] }
  | _ => none }
def expiryNextRow : OpenClaim := { program := "ytnlelckfhlcbgaa", sum := "6b6ace143927ddcc25b912a045e36d3f64417e64ce4b49feb22a487aca9bebe5", func := "linhay/linhaylaw17.ExpiryNext", spec := "expiryNext", unfollowed := true, recurses := true, apart := false }
def ExpiryNextSaid : Prop := expiryNextRow.holds Try.pinned (OpenSpec.ofChange expiryNextSpec)

/-- ITS FALSE NEIGHBOUR: 'it returns false'. Refute it at one input. -/
def expiryNextWrong : ChangeSpec := { name := "expiryNext", fn := fun _ => fun
  | [d] => { results := [.lit (.bool false)], args := [d] }
  | _ => none }
def ExpiryNextWrongFalsely : Prop := expiryNextRow.holds Try.pinned (OpenSpec.ofChange expiryNextWrong)

/-- 'linhaylaw17.ExpirySets': WHATEVER THE INPUT: true; the input reads as it did. -/
def expirySetsSpec : ChangeSpec := { name := "expirySets", fn := fun _ => fun
  | [d1, d2, d3, d4] => { results := [.lit (.bool true)], args := [d1, d2, d3, d4] }
  | _ => none }
def expirySetsRow : OpenClaim := { program := "ytnlelckfhlcbgaa", sum := "6b6ace143927ddcc25b912a045e36d3f64417e64ce4b49feb22a487aca9bebe5", func := "linhay/linhaylaw17.ExpirySets", spec := "expirySets", unfollowed := true, recurses := true, apart := false }
def ExpirySetsSaid : Prop := expirySetsRow.holds Try.pinned (OpenSpec.ofChange expirySetsSpec)

/-- ITS FALSE NEIGHBOUR: 'it returns false'. Refute it at one input. -/
def expirySetsWrong : ChangeSpec := { name := "expirySets", fn := fun _ => fun
  | [d1, d2, d3, d4] => { results := [.lit (.bool false)], args := [d1, d2, d3, d4] }
  | _ => none }
def ExpirySetsWrongFalsely : Prop := expirySetsRow.holds Try.pinned (OpenSpec.ofChange expirySetsWrong)

/-- 'linhaylaw17.ExpiryTurns': WHATEVER THE INPUT: true; the input reads as it did. -/
def expiryTurnsSpec : ChangeSpec := { name := "expiryTurns", fn := fun _ => fun
  | [d1, d2, d3, d4, d5] => { results := [.lit (.bool true)], args := [d1, d2, d3, d4, d5] }
  | _ => none }
def expiryTurnsRow : OpenClaim := { program := "ytnlelckfhlcbgaa", sum := "6b6ace143927ddcc25b912a045e36d3f64417e64ce4b49feb22a487aca9bebe5", func := "linhay/linhaylaw17.ExpiryTurns", spec := "expiryTurns", unfollowed := true, recurses := true, apart := false }
def ExpiryTurnsSaid : Prop := expiryTurnsRow.holds Try.pinned (OpenSpec.ofChange expiryTurnsSpec)

/-- ITS FALSE NEIGHBOUR: 'it returns false'. Refute it at one input. -/
def expiryTurnsWrong : ChangeSpec := { name := "expiryTurns", fn := fun _ => fun
  | [d1, d2, d3, d4, d5] => { results := [.lit (.bool false)], args := [d1, d2, d3, d4, d5] }
  | _ => none }
def ExpiryTurnsWrongFalsely : Prop := expiryTurnsRow.holds Try.pinned (OpenSpec.ofChange expiryTurnsWrong)

/- THE SECOND FORM. 'bulk': how many values and letters a reading holds, each counted each time it is reached (what is shared counts as often as it is met; a slice's spare places count too). A statement '..UptoSaid' is the law's where the arguments, and the package variables that the reading takes, are together of bulk at most 1048576: NARROWER than '..Said'. Prove '..Said' where nothing that the law and all that it calls make is longer than what came in: it says more and counts as full. Else prove '..UptoSaid'. A law counts once. -/
mutual
def uptoBulk {H : Type} : DataW H → Nat
  | .lit (.string bytes) => bytes.length + 1
  | .lit _ => 1
  | .nil => 1
  | .ptr d => uptoBulk d + 1
  | .slice elems spare => uptoBulkAll elems + uptoBulkAll spare + 1
  | .agg parts => uptoBulkAll parts + 1
  | .iface _ d => uptoBulk d + 1
  | .map entries => uptoBulkEntries entries + 1
  | .held _ => 1
def uptoBulkAll {H : Type} : List (DataW H) → Nat
  | [] => 0
  | d :: r => uptoBulk d + uptoBulkAll r
def uptoBulkEntries {H : Type} : List (Lit × DataW H) → Nat
  | [] => 0
  | x :: r => uptoBulkEntry x + uptoBulkEntries r
def uptoBulkEntry {H : Type} : Lit × DataW H → Nat
  | (.string bytes, d) => bytes.length + uptoBulk d + 1
  | (_, d) => uptoBulk d + 1
 end
def uptoSmall : (H : Type) → List (DataW H) → Bool := fun _ ds => decide (uptoBulkAll ds ≤ 1048576)
def OpenSpec.upto (s : _root_.Go.ChangeSpec) : _root_.Go.OpenSpec := { _root_.Go.OpenSpec.ofChange s with cond := some uptoSmall }

/-- 'linhaylaw14.HeapTells', WHERE WHAT IT READS IS OF BULK AT MOST 1048576: true; the input reads as it did. -/
def heapTellsUptoRow : OpenClaim := { program := "ytnlelckfhlcbgaa", sum := "6b6ace143927ddcc25b912a045e36d3f64417e64ce4b49feb22a487aca9bebe5", func := "linhay/linhaylaw14.HeapTells", spec := "heapTells", unfollowed := true, recurses := true, apart := false, narrowed := true }
def HeapTellsUptoSaid : Prop := heapTellsUptoRow.holds Try.pinned (OpenSpec.upto heapTellsSpec)

/-- 'linhaylaw14.HeapSteps', WHERE WHAT IT READS IS OF BULK AT MOST 1048576: true; the input reads as it did. -/
def heapStepsUptoRow : OpenClaim := { program := "ytnlelckfhlcbgaa", sum := "6b6ace143927ddcc25b912a045e36d3f64417e64ce4b49feb22a487aca9bebe5", func := "linhay/linhaylaw14.HeapSteps", spec := "heapSteps", unfollowed := true, recurses := true, apart := false, narrowed := true }
def HeapStepsUptoSaid : Prop := heapStepsUptoRow.holds Try.pinned (OpenSpec.upto heapStepsSpec)

/-- 'linhaylaw14.HeapDrains', WHERE WHAT IT READS IS OF BULK AT MOST 1048576: true; the input reads as it did. -/
def heapDrainsUptoRow : OpenClaim := { program := "ytnlelckfhlcbgaa", sum := "6b6ace143927ddcc25b912a045e36d3f64417e64ce4b49feb22a487aca9bebe5", func := "linhay/linhaylaw14.HeapDrains", spec := "heapDrains", unfollowed := true, recurses := true, apart := false, narrowed := true }
def HeapDrainsUptoSaid : Prop := heapDrainsUptoRow.holds Try.pinned (OpenSpec.upto heapDrainsSpec)

/-- 'linhaylaw14.HeapSets', WHERE WHAT IT READS IS OF BULK AT MOST 1048576: true; the input reads as it did. -/
def heapSetsUptoRow : OpenClaim := { program := "ytnlelckfhlcbgaa", sum := "6b6ace143927ddcc25b912a045e36d3f64417e64ce4b49feb22a487aca9bebe5", func := "linhay/linhaylaw14.HeapSets", spec := "heapSets", unfollowed := true, recurses := true, apart := false, narrowed := true }
def HeapSetsUptoSaid : Prop := heapSetsUptoRow.holds Try.pinned (OpenSpec.upto heapSetsSpec)

/-- 'linhaylaw14.HeapOrder', WHERE WHAT IT READS IS OF BULK AT MOST 1048576: true; the input reads as it did. -/
def heapOrderUptoRow : OpenClaim := { program := "ytnlelckfhlcbgaa", sum := "6b6ace143927ddcc25b912a045e36d3f64417e64ce4b49feb22a487aca9bebe5", func := "linhay/linhaylaw14.HeapOrder", spec := "heapOrder", unfollowed := true, recurses := true, apart := false, narrowed := true }
def HeapOrderUptoSaid : Prop := heapOrderUptoRow.holds Try.pinned (OpenSpec.upto heapOrderSpec)

/-- 'linhaylaw14.HeapFirst', WHERE WHAT IT READS IS OF BULK AT MOST 1048576: true; the input reads as it did. -/
def heapFirstUptoRow : OpenClaim := { program := "ytnlelckfhlcbgaa", sum := "6b6ace143927ddcc25b912a045e36d3f64417e64ce4b49feb22a487aca9bebe5", func := "linhay/linhaylaw14.HeapFirst", spec := "heapFirst", unfollowed := true, recurses := true, apart := false, narrowed := true }
def HeapFirstUptoSaid : Prop := heapFirstUptoRow.holds Try.pinned (OpenSpec.upto heapFirstSpec)

/-- 'linhaylaw17.ExpiryOnce', WHERE WHAT IT READS IS OF BULK AT MOST 1048576: true; the input reads as it did. -/
def expiryOnceUptoRow : OpenClaim := { program := "ytnlelckfhlcbgaa", sum := "6b6ace143927ddcc25b912a045e36d3f64417e64ce4b49feb22a487aca9bebe5", func := "linhay/linhaylaw17.ExpiryOnce", spec := "expiryOnce", unfollowed := true, recurses := true, apart := false, narrowed := true }
def ExpiryOnceUptoSaid : Prop := expiryOnceUptoRow.holds Try.pinned (OpenSpec.upto expiryOnceSpec)

/-- 'linhaylaw17.ExpiryTicks', WHERE WHAT IT READS IS OF BULK AT MOST 1048576: true; the input reads as it did. -/
def expiryTicksUptoRow : OpenClaim := { program := "ytnlelckfhlcbgaa", sum := "6b6ace143927ddcc25b912a045e36d3f64417e64ce4b49feb22a487aca9bebe5", func := "linhay/linhaylaw17.ExpiryTicks", spec := "expiryTicks", unfollowed := true, recurses := true, apart := false, narrowed := true }
def ExpiryTicksUptoSaid : Prop := expiryTicksUptoRow.holds Try.pinned (OpenSpec.upto expiryTicksSpec)

/-- 'linhaylaw17.ExpiryNext', WHERE WHAT IT READS IS OF BULK AT MOST 1048576: true; the input reads as it did. -/
def expiryNextUptoRow : OpenClaim := { program := "ytnlelckfhlcbgaa", sum := "6b6ace143927ddcc25b912a045e36d3f64417e64ce4b49feb22a487aca9bebe5", func := "linhay/linhaylaw17.ExpiryNext", spec := "expiryNext", unfollowed := true, recurses := true, apart := false, narrowed := true }
def ExpiryNextUptoSaid : Prop := expiryNextUptoRow.holds Try.pinned (OpenSpec.upto expiryNextSpec)

/-- 'linhaylaw17.ExpirySets', WHERE WHAT IT READS IS OF BULK AT MOST 1048576: true; the input reads as it did. -/
def expirySetsUptoRow : OpenClaim := { program := "ytnlelckfhlcbgaa", sum := "6b6ace143927ddcc25b912a045e36d3f64417e64ce4b49feb22a487aca9bebe5", func := "linhay/linhaylaw17.ExpirySets", spec := "expirySets", unfollowed := true, recurses := true, apart := false, narrowed := true }
def ExpirySetsUptoSaid : Prop := expirySetsUptoRow.holds Try.pinned (OpenSpec.upto expirySetsSpec)

/-- 'linhaylaw17.ExpiryTurns', WHERE WHAT IT READS IS OF BULK AT MOST 1048576: true; the input reads as it did. -/
def expiryTurnsUptoRow : OpenClaim := { program := "ytnlelckfhlcbgaa", sum := "6b6ace143927ddcc25b912a045e36d3f64417e64ce4b49feb22a487aca9bebe5", func := "linhay/linhaylaw17.ExpiryTurns", spec := "expiryTurns", unfollowed := true, recurses := true, apart := false, narrowed := true }
def ExpiryTurnsUptoSaid : Prop := expiryTurnsUptoRow.holds Try.pinned (OpenSpec.upto expiryTurnsSpec)

end Rows
end Go.Proofs.Ytnlelckfhlcbgaa
