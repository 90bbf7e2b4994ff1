/-
  No cell of these rows narrows 'for every input' (looked for: loops, veiled, ifaces, maps, wideKeys, modest, calm, conditions, laid).
  DERIVED. THE GIVEN ROWS OF THIS SEAT. 9 by the template 'for every input the law returns true; each argument reads behind the call as it read before'; 0 by the template 'total and deterministic' (their statements: YtmgcoopmbohkoaaTotals.lean).
  GIVEN WITH THE SEED: the statements are not yours to turn. If you find one false, say at which input.
  Laid BY PROGRAM, IN A SANDBOX (cutbox-rows.mjs): the forced cells as the released guide's own fill.sh prints them over the translation 3e17e4b4b440a730… (all of the seat's roots in one cut). By AI agents, Wed Nov 11 2026. No macro, syntax, notation, axiom, sorry.
-/
import Derived.Test.YtmgcoopmbohkoaaChecked
import GoSem.Claim
import GoSem.ClaimJoined
import GoSem.ClaimMapViews
import Derived.JoinedTies
import Derived.KernelRfl
namespace Go.Proofs.Ytmgcoopmbohkoaa
/- THE CELL 'sum', in the pinned program and in every row, IS THE sha256 OF THE DUMP (.gsa) THAT YtmgcoopmbohkoaaProg.lean LOADS. Nothing in Lean hashes anything: it is a label: what it is worth is what the hold of that sum in a sandbox is worth. -/
noncomputable def Try.pinned : Pinned := { name := "ytmgcoopmbohkoaa", sum := "3e17e4b4b440a7308ebe0143fc77e65ea8a973942389c56e3e4fe062be0feb4b", checked := Try.checked }
namespace Rows
def none {H : Type} : Left H := { results := [], args := [] }

/-- 'linhaylaw09.ThingTells': WHATEVER THE INPUT: true; the input reads as it did. -/
def thingTellsSpec : ChangeSpec := { name := "thingTells", fn := fun _ => fun
  | [d1, d2, d3] => { results := [.lit (.bool true)], args := [d1, d2, d3] }
  | _ => none }
def thingTellsRow : OpenClaim := { program := "ytmgcoopmbohkoaa", sum := "3e17e4b4b440a7308ebe0143fc77e65ea8a973942389c56e3e4fe062be0feb4b", func := "linhay/linhaylaw09.ThingTells", spec := "thingTells", recurses := true, plainKeys := false, apart := false }
def ThingTellsSaid : Prop := thingTellsRow.holds Try.pinned (OpenSpec.ofChange thingTellsSpec)

/-- ITS FALSE NEIGHBOUR: 'it returns false'. Refute it at one input. -/
def thingTellsWrong : ChangeSpec := { name := "thingTells", fn := fun _ => fun
  | [d1, d2, d3] => { results := [.lit (.bool false)], args := [d1, d2, d3] }
  | _ => none }
def ThingTellsWrongFalsely : Prop := thingTellsRow.holds Try.pinned (OpenSpec.ofChange thingTellsWrong)

/-- 'linhaylaw09.ThingTags': WHATEVER THE INPUT: true; the input reads as it did. -/
def thingTagsSpec : ChangeSpec := { name := "thingTags", fn := fun _ => fun
  | [d1, d2] => { results := [.lit (.bool true)], args := [d1, d2] }
  | _ => none }
def thingTagsRow : OpenClaim := { program := "ytmgcoopmbohkoaa", sum := "3e17e4b4b440a7308ebe0143fc77e65ea8a973942389c56e3e4fe062be0feb4b", func := "linhay/linhaylaw09.ThingTags", spec := "thingTags", recurses := true, plainKeys := false, apart := false }
def ThingTagsSaid : Prop := thingTagsRow.holds Try.pinned (OpenSpec.ofChange thingTagsSpec)

/-- ITS FALSE NEIGHBOUR: 'it returns false'. Refute it at one input. -/
def thingTagsWrong : ChangeSpec := { name := "thingTags", fn := fun _ => fun
  | [d1, d2] => { results := [.lit (.bool false)], args := [d1, d2] }
  | _ => none }
def ThingTagsWrongFalsely : Prop := thingTagsRow.holds Try.pinned (OpenSpec.ofChange thingTagsWrong)

/-- 'linhaylaw09.ThingFew': WHATEVER THE INPUT: true; the input reads as it did. -/
def thingFewSpec : ChangeSpec := { name := "thingFew", fn := fun _ => fun
  | [d] => { results := [.lit (.bool true)], args := [d] }
  | _ => none }
def thingFewRow : OpenClaim := { program := "ytmgcoopmbohkoaa", sum := "3e17e4b4b440a7308ebe0143fc77e65ea8a973942389c56e3e4fe062be0feb4b", func := "linhay/linhaylaw09.ThingFew", spec := "thingFew", recurses := true, plainKeys := false, apart := false }
def ThingFewSaid : Prop := thingFewRow.holds Try.pinned (OpenSpec.ofChange thingFewSpec)

/-- ITS FALSE NEIGHBOUR: 'it returns false'. Refute it at one input. -/
def thingFewWrong : ChangeSpec := { name := "thingFew", fn := fun _ => fun
  | [d] => { results := [.lit (.bool false)], args := [d] }
  | _ => none }
def ThingFewWrongFalsely : Prop := thingFewRow.holds Try.pinned (OpenSpec.ofChange thingFewWrong)

/-- 'linhaylaw09.ThingHash': WHATEVER THE INPUT: true; the input reads as it did. -/
def thingHashSpec : ChangeSpec := { name := "thingHash", fn := fun _ => fun
  | [d1, d2, d3] => { results := [.lit (.bool true)], args := [d1, d2, d3] }
  | _ => none }
def thingHashRow : OpenClaim := { program := "ytmgcoopmbohkoaa", sum := "3e17e4b4b440a7308ebe0143fc77e65ea8a973942389c56e3e4fe062be0feb4b", func := "linhay/linhaylaw09.ThingHash", spec := "thingHash", recurses := true, plainKeys := false, apart := false }
def ThingHashSaid : Prop := thingHashRow.holds Try.pinned (OpenSpec.ofChange thingHashSpec)

/-- ITS FALSE NEIGHBOUR: 'it returns false'. Refute it at one input. -/
def thingHashWrong : ChangeSpec := { name := "thingHash", fn := fun _ => fun
  | [d1, d2, d3] => { results := [.lit (.bool false)], args := [d1, d2, d3] }
  | _ => none }
def ThingHashWrongFalsely : Prop := thingHashRow.holds Try.pinned (OpenSpec.ofChange thingHashWrong)

/-- 'linhaylaw09.ThingHome': WHATEVER THE INPUT: true; the input reads as it did. -/
def thingHomeSpec : ChangeSpec := { name := "thingHome", fn := fun _ => fun
  | [d1, d2, d3] => { results := [.lit (.bool true)], args := [d1, d2, d3] }
  | _ => none }
def thingHomeRow : OpenClaim := { program := "ytmgcoopmbohkoaa", sum := "3e17e4b4b440a7308ebe0143fc77e65ea8a973942389c56e3e4fe062be0feb4b", func := "linhay/linhaylaw09.ThingHome", spec := "thingHome", recurses := true, plainKeys := false, apart := false }
def ThingHomeSaid : Prop := thingHomeRow.holds Try.pinned (OpenSpec.ofChange thingHomeSpec)

/-- ITS FALSE NEIGHBOUR: 'it returns false'. Refute it at one input. -/
def thingHomeWrong : ChangeSpec := { name := "thingHome", fn := fun _ => fun
  | [d1, d2, d3] => { results := [.lit (.bool false)], args := [d1, d2, d3] }
  | _ => none }
def ThingHomeWrongFalsely : Prop := thingHomeRow.holds Try.pinned (OpenSpec.ofChange thingHomeWrong)

/-- 'linhaylaw16.TagsModel': WHATEVER THE INPUT: true; the input reads as it did. -/
def tagsModelSpec : ChangeSpec := { name := "tagsModel", fn := fun _ => fun
  | [d1, d2] => { results := [.lit (.bool true)], args := [d1, d2] }
  | _ => none }
def tagsModelRow : OpenClaim := { program := "ytmgcoopmbohkoaa", sum := "3e17e4b4b440a7308ebe0143fc77e65ea8a973942389c56e3e4fe062be0feb4b", func := "linhay/linhaylaw16.TagsModel", spec := "tagsModel", unfollowed := true, recurses := true, plainKeys := false, apart := false }
def TagsModelSaid : Prop := tagsModelRow.holds Try.pinned (OpenSpec.ofChange tagsModelSpec)

/-- ITS FALSE NEIGHBOUR: 'it returns false'. Refute it at one input. -/
def tagsModelWrong : ChangeSpec := { name := "tagsModel", fn := fun _ => fun
  | [d1, d2] => { results := [.lit (.bool false)], args := [d1, d2] }
  | _ => none }
def TagsModelWrongFalsely : Prop := tagsModelRow.holds Try.pinned (OpenSpec.ofChange tagsModelWrong)

/-- 'linhaylaw16.TagsBoth': WHATEVER THE INPUT: true; the input reads as it did. -/
def tagsBothSpec : ChangeSpec := { name := "tagsBoth", fn := fun _ => fun
  | [d1, d2] => { results := [.lit (.bool true)], args := [d1, d2] }
  | _ => none }
def tagsBothRow : OpenClaim := { program := "ytmgcoopmbohkoaa", sum := "3e17e4b4b440a7308ebe0143fc77e65ea8a973942389c56e3e4fe062be0feb4b", func := "linhay/linhaylaw16.TagsBoth", spec := "tagsBoth", unfollowed := true, recurses := true, plainKeys := false, apart := false }
def TagsBothSaid : Prop := tagsBothRow.holds Try.pinned (OpenSpec.ofChange tagsBothSpec)

/-- ITS FALSE NEIGHBOUR: 'it returns false'. Refute it at one input. -/
def tagsBothWrong : ChangeSpec := { name := "tagsBoth", fn := fun _ => fun
  | [d1, d2] => { results := [.lit (.bool false)], args := [d1, d2] }
  | _ => none }
def TagsBothWrongFalsely : Prop := tagsBothRow.holds Try.pinned (OpenSpec.ofChange tagsBothWrong)

/-- 'linhaylaw16.TagsBack': WHATEVER THE INPUT: true; the input reads as it did. -/
def tagsBackSpec : ChangeSpec := { name := "tagsBack", fn := fun _ => fun
  | [d1, d2, d3, d4] => { results := [.lit (.bool true)], args := [d1, d2, d3, d4] }
  | _ => none }
def tagsBackRow : OpenClaim := { program := "ytmgcoopmbohkoaa", sum := "3e17e4b4b440a7308ebe0143fc77e65ea8a973942389c56e3e4fe062be0feb4b", func := "linhay/linhaylaw16.TagsBack", spec := "tagsBack", unfollowed := true, recurses := true, plainKeys := false, apart := false }
def TagsBackSaid : Prop := tagsBackRow.holds Try.pinned (OpenSpec.ofChange tagsBackSpec)

/-- ITS FALSE NEIGHBOUR: 'it returns false'. Refute it at one input. -/
def tagsBackWrong : ChangeSpec := { name := "tagsBack", fn := fun _ => fun
  | [d1, d2, d3, d4] => { results := [.lit (.bool false)], args := [d1, d2, d3, d4] }
  | _ => none }
def TagsBackWrongFalsely : Prop := tagsBackRow.holds Try.pinned (OpenSpec.ofChange tagsBackWrong)

/-- 'linhaylaw16.TagsOrder': WHATEVER THE INPUT: true; the input reads as it did. -/
def tagsOrderSpec : ChangeSpec := { name := "tagsOrder", fn := fun _ => fun
  | [d1, d2, d3, d4, d5] => { results := [.lit (.bool true)], args := [d1, d2, d3, d4, d5] }
  | _ => none }
def tagsOrderRow : OpenClaim := { program := "ytmgcoopmbohkoaa", sum := "3e17e4b4b440a7308ebe0143fc77e65ea8a973942389c56e3e4fe062be0feb4b", func := "linhay/linhaylaw16.TagsOrder", spec := "tagsOrder", unfollowed := true, recurses := true, plainKeys := false, apart := false }
def TagsOrderSaid : Prop := tagsOrderRow.holds Try.pinned (OpenSpec.ofChange tagsOrderSpec)

/-- ITS FALSE NEIGHBOUR: 'it returns false'. Refute it at one input. -/
def tagsOrderWrong : ChangeSpec := { name := "tagsOrder", fn := fun _ => fun
  | [d1, d2, d3, d4, d5] => { results := [.lit (.bool false)], args := [d1, d2, d3, d4, d5] }
  | _ => none }
def TagsOrderWrongFalsely : Prop := tagsOrderRow.holds Try.pinned (OpenSpec.ofChange tagsOrderWrong)

/- THE SECOND FORM. 'bulk': how many values and letters a reading holds, each counted each time it is reached (what is shared counts as often as it is met; a slice's spare places count too). A statement '..UptoSaid' is the law's where the arguments, and the package variables that the reading takes, are together of bulk at most 1048576: NARROWER than '..Said'. Prove '..Said' where nothing that the law and all that it calls make is longer than what came in: it says more and counts as full. Else prove '..UptoSaid'. A law counts once. -/
mutual
def uptoBulk {H : Type} : DataW H → Nat
  | .lit (.string bytes) => bytes.length + 1
  | .lit _ => 1
  | .nil => 1
  | .ptr d => uptoBulk d + 1
  | .slice elems spare => uptoBulkAll elems + uptoBulkAll spare + 1
  | .agg parts => uptoBulkAll parts + 1
  | .iface _ d => uptoBulk d + 1
  | .map entries => uptoBulkEntries entries + 1
  | .held _ => 1
def uptoBulkAll {H : Type} : List (DataW H) → Nat
  | [] => 0
  | d :: r => uptoBulk d + uptoBulkAll r
def uptoBulkEntries {H : Type} : List (Lit × DataW H) → Nat
  | [] => 0
  | x :: r => uptoBulkEntry x + uptoBulkEntries r
def uptoBulkEntry {H : Type} : Lit × DataW H → Nat
  | (.string bytes, d) => bytes.length + uptoBulk d + 1
  | (_, d) => uptoBulk d + 1
 end
def uptoSmall : (H : Type) → List (DataW H) → Bool := fun _ ds => decide (uptoBulkAll ds ≤ 1048576)
def OpenSpec.upto (s : _root_.Go.ChangeSpec) : _root_.Go.OpenSpec := { _root_.Go.OpenSpec.ofChange s with cond := some uptoSmall }

/-- 'linhaylaw09.ThingTells', WHERE WHAT IT READS IS OF BULK AT MOST 1048576: true; the input reads as it did. -/
def thingTellsUptoRow : OpenClaim := { program := "ytmgcoopmbohkoaa", sum := "3e17e4b4b440a7308ebe0143fc77e65ea8a973942389c56e3e4fe062be0feb4b", func := "linhay/linhaylaw09.ThingTells", spec := "thingTells", recurses := true, plainKeys := false, apart := false, narrowed := true }
def ThingTellsUptoSaid : Prop := thingTellsUptoRow.holds Try.pinned (OpenSpec.upto thingTellsSpec)

/-- 'linhaylaw09.ThingTags', WHERE WHAT IT READS IS OF BULK AT MOST 1048576: true; the input reads as it did. -/
def thingTagsUptoRow : OpenClaim := { program := "ytmgcoopmbohkoaa", sum := "3e17e4b4b440a7308ebe0143fc77e65ea8a973942389c56e3e4fe062be0feb4b", func := "linhay/linhaylaw09.ThingTags", spec := "thingTags", recurses := true, plainKeys := false, apart := false, narrowed := true }
def ThingTagsUptoSaid : Prop := thingTagsUptoRow.holds Try.pinned (OpenSpec.upto thingTagsSpec)

/-- 'linhaylaw09.ThingFew', WHERE WHAT IT READS IS OF BULK AT MOST 1048576: true; the input reads as it did. -/
def thingFewUptoRow : OpenClaim := { program := "ytmgcoopmbohkoaa", sum := "3e17e4b4b440a7308ebe0143fc77e65ea8a973942389c56e3e4fe062be0feb4b", func := "linhay/linhaylaw09.ThingFew", spec := "thingFew", recurses := true, plainKeys := false, apart := false, narrowed := true }
def ThingFewUptoSaid : Prop := thingFewUptoRow.holds Try.pinned (OpenSpec.upto thingFewSpec)

/-- 'linhaylaw09.ThingHash', WHERE WHAT IT READS IS OF BULK AT MOST 1048576: true; the input reads as it did. -/
def thingHashUptoRow : OpenClaim := { program := "ytmgcoopmbohkoaa", sum := "3e17e4b4b440a7308ebe0143fc77e65ea8a973942389c56e3e4fe062be0feb4b", func := "linhay/linhaylaw09.ThingHash", spec := "thingHash", recurses := true, plainKeys := false, apart := false, narrowed := true }
def ThingHashUptoSaid : Prop := thingHashUptoRow.holds Try.pinned (OpenSpec.upto thingHashSpec)

/-- 'linhaylaw09.ThingHome', WHERE WHAT IT READS IS OF BULK AT MOST 1048576: true; the input reads as it did. -/
def thingHomeUptoRow : OpenClaim := { program := "ytmgcoopmbohkoaa", sum := "3e17e4b4b440a7308ebe0143fc77e65ea8a973942389c56e3e4fe062be0feb4b", func := "linhay/linhaylaw09.ThingHome", spec := "thingHome", recurses := true, plainKeys := false, apart := false, narrowed := true }
def ThingHomeUptoSaid : Prop := thingHomeUptoRow.holds Try.pinned (OpenSpec.upto thingHomeSpec)

/-- 'linhaylaw16.TagsModel', WHERE WHAT IT READS IS OF BULK AT MOST 1048576: true; the input reads as it did. -/
def tagsModelUptoRow : OpenClaim := { program := "ytmgcoopmbohkoaa", sum := "3e17e4b4b440a7308ebe0143fc77e65ea8a973942389c56e3e4fe062be0feb4b", func := "linhay/linhaylaw16.TagsModel", spec := "tagsModel", unfollowed := true, recurses := true, plainKeys := false, apart := false, narrowed := true }
def TagsModelUptoSaid : Prop := tagsModelUptoRow.holds Try.pinned (OpenSpec.upto tagsModelSpec)

/-- 'linhaylaw16.TagsBoth', WHERE WHAT IT READS IS OF BULK AT MOST 1048576: true; the input reads as it did. -/
def tagsBothUptoRow : OpenClaim := { program := "ytmgcoopmbohkoaa", sum := "3e17e4b4b440a7308ebe0143fc77e65ea8a973942389c56e3e4fe062be0feb4b", func := "linhay/linhaylaw16.TagsBoth", spec := "tagsBoth", unfollowed := true, recurses := true, plainKeys := false, apart := false, narrowed := true }
def TagsBothUptoSaid : Prop := tagsBothUptoRow.holds Try.pinned (OpenSpec.upto tagsBothSpec)

/-- 'linhaylaw16.TagsBack', WHERE WHAT IT READS IS OF BULK AT MOST 1048576: true; the input reads as it did. -/
def tagsBackUptoRow : OpenClaim := { program := "ytmgcoopmbohkoaa", sum := "3e17e4b4b440a7308ebe0143fc77e65ea8a973942389c56e3e4fe062be0feb4b", func := "linhay/linhaylaw16.TagsBack", spec := "tagsBack", unfollowed := true, recurses := true, plainKeys := false, apart := false, narrowed := true }
def TagsBackUptoSaid : Prop := tagsBackUptoRow.holds Try.pinned (OpenSpec.upto tagsBackSpec)

/-- 'linhaylaw16.TagsOrder', WHERE WHAT IT READS IS OF BULK AT MOST 1048576: true; the input reads as it did. -/
def tagsOrderUptoRow : OpenClaim := { program := "ytmgcoopmbohkoaa", sum := "3e17e4b4b440a7308ebe0143fc77e65ea8a973942389c56e3e4fe062be0feb4b", func := "linhay/linhaylaw16.TagsOrder", spec := "tagsOrder", unfollowed := true, recurses := true, plainKeys := false, apart := false, narrowed := true }
def TagsOrderUptoSaid : Prop := tagsOrderUptoRow.holds Try.pinned (OpenSpec.upto tagsOrderSpec)

end Rows
end Go.Proofs.Ytmgcoopmbohkoaa
