/-
  No cell of these rows narrows 'for every input' (looked for: loops, veiled, ifaces, maps, wideKeys, modest, calm, conditions, laid).
  DERIVED. THE GIVEN ROWS OF THIS SEAT. 5 by the template 'for every input the law returns true; each argument reads behind the call as it read before'; 0 by the template 'total and deterministic' (their statements: YtgchgdfigbonhaaTotals.lean).
  GIVEN WITH THE SEED: the statements are not yours to turn. If you find one false, say at which input.
  Laid BY PROGRAM, IN A SANDBOX (cutbox-rows.mjs): the forced cells as the released guide's own fill.sh prints them over the translation 297d7e85be098e25… (all of the seat's roots in one cut). By AI agents, Wed Nov 11 2026. No macro, syntax, notation, axiom, sorry.
-/
import Derived.Test.YtgchgdfigbonhaaChecked
import GoSem.Claim
import GoSem.ClaimJoined
import GoSem.ClaimMapViews
import Derived.JoinedTies
import Derived.KernelRfl
namespace Go.Proofs.Ytgchgdfigbonhaa
/- THE CELL 'sum', in the pinned program and in every row, IS THE sha256 OF THE DUMP (.gsa) THAT YtgchgdfigbonhaaProg.lean LOADS. Nothing in Lean hashes anything: it is a label: what it is worth is what the hold of that sum in a sandbox is worth. -/
noncomputable def Try.pinned : Pinned := { name := "ytgchgdfigbonhaa", sum := "297d7e85be098e258b823d131ff50d0a42ee131b3dca877d1f00fd869eaa179c", checked := Try.checked }
namespace Rows
def none {H : Type} : Left H := { results := [], args := [] }

/-- 'linhaylaw13.TableModel': WHATEVER THE INPUT: true; the input reads as it did. -/
def tableModelSpec : ChangeSpec := { name := "tableModel", fn := fun _ => fun
  | [d1, d2] => { results := [.lit (.bool true)], args := [d1, d2] }
  | _ => none }
def tableModelRow : OpenClaim := { program := "ytgchgdfigbonhaa", sum := "297d7e85be098e258b823d131ff50d0a42ee131b3dca877d1f00fd869eaa179c", func := "linhay/linhaylaw13.TableModel", spec := "tableModel", unfollowed := true, recurses := true, apart := false }
def TableModelSaid : Prop := tableModelRow.holds Try.pinned (OpenSpec.ofChange tableModelSpec)

/-- ITS FALSE NEIGHBOUR: 'it returns false'. Refute it at one input. -/
def tableModelWrong : ChangeSpec := { name := "tableModel", fn := fun _ => fun
  | [d1, d2] => { results := [.lit (.bool false)], args := [d1, d2] }
  | _ => none }
def TableModelWrongFalsely : Prop := tableModelRow.holds Try.pinned (OpenSpec.ofChange tableModelWrong)

/-- 'linhaylaw13.TableBack': WHATEVER THE INPUT: true; the input reads as it did. -/
def tableBackSpec : ChangeSpec := { name := "tableBack", fn := fun _ => fun
  | [d1, d2, d3, d4] => { results := [.lit (.bool true)], args := [d1, d2, d3, d4] }
  | _ => none }
def tableBackRow : OpenClaim := { program := "ytgchgdfigbonhaa", sum := "297d7e85be098e258b823d131ff50d0a42ee131b3dca877d1f00fd869eaa179c", func := "linhay/linhaylaw13.TableBack", spec := "tableBack", unfollowed := true, recurses := true, apart := false }
def TableBackSaid : Prop := tableBackRow.holds Try.pinned (OpenSpec.ofChange tableBackSpec)

/-- ITS FALSE NEIGHBOUR: 'it returns false'. Refute it at one input. -/
def tableBackWrong : ChangeSpec := { name := "tableBack", fn := fun _ => fun
  | [d1, d2, d3, d4] => { results := [.lit (.bool false)], args := [d1, d2, d3, d4] }
  | _ => none }
def TableBackWrongFalsely : Prop := tableBackRow.holds Try.pinned (OpenSpec.ofChange tableBackWrong)

/-- 'linhaylaw13.TableFull': WHATEVER THE INPUT: true; the input reads as it did. -/
def tableFullSpec : ChangeSpec := { name := "tableFull", fn := fun _ => fun
  | [d1, d2] => { results := [.lit (.bool true)], args := [d1, d2] }
  | _ => none }
def tableFullRow : OpenClaim := { program := "ytgchgdfigbonhaa", sum := "297d7e85be098e258b823d131ff50d0a42ee131b3dca877d1f00fd869eaa179c", func := "linhay/linhaylaw13.TableFull", spec := "tableFull", unfollowed := true, recurses := true, apart := false }
def TableFullSaid : Prop := tableFullRow.holds Try.pinned (OpenSpec.ofChange tableFullSpec)

/-- ITS FALSE NEIGHBOUR: 'it returns false'. Refute it at one input. -/
def tableFullWrong : ChangeSpec := { name := "tableFull", fn := fun _ => fun
  | [d1, d2] => { results := [.lit (.bool false)], args := [d1, d2] }
  | _ => none }
def TableFullWrongFalsely : Prop := tableFullRow.holds Try.pinned (OpenSpec.ofChange tableFullWrong)

/-- 'linhaylaw13.TableKeys': WHATEVER THE INPUT: true; the input reads as it did. -/
def tableKeysSpec : ChangeSpec := { name := "tableKeys", fn := fun _ => fun
  | [d] => { results := [.lit (.bool true)], args := [d] }
  | _ => none }
def tableKeysRow : OpenClaim := { program := "ytgchgdfigbonhaa", sum := "297d7e85be098e258b823d131ff50d0a42ee131b3dca877d1f00fd869eaa179c", func := "linhay/linhaylaw13.TableKeys", spec := "tableKeys", unfollowed := true, recurses := true, apart := false }
def TableKeysSaid : Prop := tableKeysRow.holds Try.pinned (OpenSpec.ofChange tableKeysSpec)

/-- ITS FALSE NEIGHBOUR: 'it returns false'. Refute it at one input. -/
def tableKeysWrong : ChangeSpec := { name := "tableKeys", fn := fun _ => fun
  | [d] => { results := [.lit (.bool false)], args := [d] }
  | _ => none }
def TableKeysWrongFalsely : Prop := tableKeysRow.holds Try.pinned (OpenSpec.ofChange tableKeysWrong)

/-- 'linhaylaw13.TableTurns': WHATEVER THE INPUT: true; the input reads as it did. -/
def tableTurnsSpec : ChangeSpec := { name := "tableTurns", fn := fun _ => fun
  | [d1, d2, d3] => { results := [.lit (.bool true)], args := [d1, d2, d3] }
  | _ => none }
def tableTurnsRow : OpenClaim := { program := "ytgchgdfigbonhaa", sum := "297d7e85be098e258b823d131ff50d0a42ee131b3dca877d1f00fd869eaa179c", func := "linhay/linhaylaw13.TableTurns", spec := "tableTurns", unfollowed := true, recurses := true, apart := false }
def TableTurnsSaid : Prop := tableTurnsRow.holds Try.pinned (OpenSpec.ofChange tableTurnsSpec)

/-- ITS FALSE NEIGHBOUR: 'it returns false'. Refute it at one input. -/
def tableTurnsWrong : ChangeSpec := { name := "tableTurns", fn := fun _ => fun
  | [d1, d2, d3] => { results := [.lit (.bool false)], args := [d1, d2, d3] }
  | _ => none }
def TableTurnsWrongFalsely : Prop := tableTurnsRow.holds Try.pinned (OpenSpec.ofChange tableTurnsWrong)

/- THE SECOND FORM. 'bulk': how many values and letters a reading holds, each counted each time it is reached (what is shared counts as often as it is met; a slice's spare places count too). A statement '..UptoSaid' is the law's where the arguments, and the package variables that the reading takes, are together of bulk at most 1048576: NARROWER than '..Said'. Prove '..Said' where nothing that the law and all that it calls make is longer than what came in: it says more and counts as full. Else prove '..UptoSaid'. A law counts once. -/
mutual
def uptoBulk {H : Type} : DataW H → Nat
  | .lit (.string bytes) => bytes.length + 1
  | .lit _ => 1
  | .nil => 1
  | .ptr d => uptoBulk d + 1
  | .slice elems spare => uptoBulkAll elems + uptoBulkAll spare + 1
  | .agg parts => uptoBulkAll parts + 1
  | .iface _ d => uptoBulk d + 1
  | .map entries => uptoBulkEntries entries + 1
  | .held _ => 1
def uptoBulkAll {H : Type} : List (DataW H) → Nat
  | [] => 0
  | d :: r => uptoBulk d + uptoBulkAll r
def uptoBulkEntries {H : Type} : List (Lit × DataW H) → Nat
  | [] => 0
  | x :: r => uptoBulkEntry x + uptoBulkEntries r
def uptoBulkEntry {H : Type} : Lit × DataW H → Nat
  | (.string bytes, d) => bytes.length + uptoBulk d + 1
  | (_, d) => uptoBulk d + 1
 end
def uptoSmall : (H : Type) → List (DataW H) → Bool := fun _ ds => decide (uptoBulkAll ds ≤ 1048576)
def OpenSpec.upto (s : _root_.Go.ChangeSpec) : _root_.Go.OpenSpec := { _root_.Go.OpenSpec.ofChange s with cond := some uptoSmall }

/-- 'linhaylaw13.TableModel', WHERE WHAT IT READS IS OF BULK AT MOST 1048576: true; the input reads as it did. -/
def tableModelUptoRow : OpenClaim := { program := "ytgchgdfigbonhaa", sum := "297d7e85be098e258b823d131ff50d0a42ee131b3dca877d1f00fd869eaa179c", func := "linhay/linhaylaw13.TableModel", spec := "tableModel", unfollowed := true, recurses := true, apart := false, narrowed := true }
def TableModelUptoSaid : Prop := tableModelUptoRow.holds Try.pinned (OpenSpec.upto tableModelSpec)

/-- 'linhaylaw13.TableBack', WHERE WHAT IT READS IS OF BULK AT MOST 1048576: true; the input reads as it did. -/
def tableBackUptoRow : OpenClaim := { program := "ytgchgdfigbonhaa", sum := "297d7e85be098e258b823d131ff50d0a42ee131b3dca877d1f00fd869eaa179c", func := "linhay/linhaylaw13.TableBack", spec := "tableBack", unfollowed := true, recurses := true, apart := false, narrowed := true }
def TableBackUptoSaid : Prop := tableBackUptoRow.holds Try.pinned (OpenSpec.upto tableBackSpec)

/-- 'linhaylaw13.TableFull', WHERE WHAT IT READS IS OF BULK AT MOST 1048576: true; the input reads as it did. -/
def tableFullUptoRow : OpenClaim := { program := "ytgchgdfigbonhaa", sum := "297d7e85be098e258b823d131ff50d0a42ee131b3dca877d1f00fd869eaa179c", func := "linhay/linhaylaw13.TableFull", spec := "tableFull", unfollowed := true, recurses := true, apart := false, narrowed := true }
def TableFullUptoSaid : Prop := tableFullUptoRow.holds Try.pinned (OpenSpec.upto tableFullSpec)

/-- 'linhaylaw13.TableKeys', WHERE WHAT IT READS IS OF BULK AT MOST 1048576: true; the input reads as it did. -/
def tableKeysUptoRow : OpenClaim := { program := "ytgchgdfigbonhaa", sum := "297d7e85be098e258b823d131ff50d0a42ee131b3dca877d1f00fd869eaa179c", func := "linhay/linhaylaw13.TableKeys", spec := "tableKeys", unfollowed := true, recurses := true, apart := false, narrowed := true }
def TableKeysUptoSaid : Prop := tableKeysUptoRow.holds Try.pinned (OpenSpec.upto tableKeysSpec)

/-- 'linhaylaw13.TableTurns', WHERE WHAT IT READS IS OF BULK AT MOST 1048576: true; the input reads as it did. -/
def tableTurnsUptoRow : OpenClaim := { program := "ytgchgdfigbonhaa", sum := "297d7e85be098e258b823d131ff50d0a42ee131b3dca877d1f00fd869eaa179c", func := "linhay/linhaylaw13.TableTurns", spec := "tableTurns", unfollowed := true, recurses := true, apart := false, narrowed := true }
def TableTurnsUptoSaid : Prop := tableTurnsUptoRow.holds Try.pinned (OpenSpec.upto tableTurnsSpec)

end Rows
end Go.Proofs.Ytgchgdfigbonhaa
