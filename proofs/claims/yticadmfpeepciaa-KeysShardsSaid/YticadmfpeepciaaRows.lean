/-
  No cell of these rows narrows 'for every input' (looked for: loops, veiled, ifaces, maps, wideKeys, modest, calm, conditions, laid).
  DERIVED. THE GIVEN ROWS OF THIS SEAT. 18 by the template 'for every input the law returns true; each argument reads behind the call as it read before'; 0 by the template 'total and deterministic' (their statements: YticadmfpeepciaaTotals.lean).
  GIVEN WITH THE SEED: the statements are not yours to turn. If you find one false, say at which input.
  Laid BY PROGRAM, IN A SANDBOX (cutbox-rows.mjs): the forced cells as the released guide's own fill.sh prints them over the translation 60f9f1900470cf0a… (all of the seat's roots in one cut). By AI agents, Wed Nov 11 2026. No macro, syntax, notation, axiom, sorry.
-/
import Derived.Test.YticadmfpeepciaaChecked
import GoSem.Claim
import GoSem.ClaimJoined
import GoSem.ClaimMapViews
import Derived.JoinedTies
import Derived.KernelRfl
namespace Go.Proofs.Yticadmfpeepciaa
/- THE CELL 'sum', in the pinned program and in every row, IS THE sha256 OF THE DUMP (.gsa) THAT YticadmfpeepciaaProg.lean LOADS. Nothing in Lean hashes anything: it is a label: what it is worth is what the hold of that sum in a sandbox is worth. -/
noncomputable def Try.pinned : Pinned := { name := "yticadmfpeepciaa", sum := "60f9f1900470cf0ac5b0dc631fa7ed45172be8078095527869b872d181d8808d", checked := Try.checked }
namespace Rows
def none {H : Type} : Left H := { results := [], args := [] }

/-- 'althinglaw04.KeysRunes': WHATEVER THE INPUT: true; the input reads as it did. -/
def keysRunesSpec : ChangeSpec := { name := "keysRunes", fn := fun _ => fun
  | [d] => { results := [.lit (.bool true)], args := [d] }
  | _ => none }
def keysRunesRow : OpenClaim := { program := "yticadmfpeepciaa", sum := "60f9f1900470cf0ac5b0dc631fa7ed45172be8078095527869b872d181d8808d", func := "althing/althinglaw04.KeysRunes", spec := "keysRunes", apart := false }
def KeysRunesSaid : Prop := keysRunesRow.holds Try.pinned (OpenSpec.ofChange keysRunesSpec)

/-- ITS FALSE NEIGHBOUR: 'it returns false'. Refute it at one input. -/
def keysRunesWrong : ChangeSpec := { name := "keysRunes", fn := fun _ => fun
  | [d] => { results := [.lit (.bool false)], args := [d] }
  | _ => none }
def KeysRunesWrongFalsely : Prop := keysRunesRow.holds Try.pinned (OpenSpec.ofChange keysRunesWrong)

/-- 'althinglaw04.KeysShards': WHATEVER THE INPUT: true; the input reads as it did. -/
def keysShardsSpec : ChangeSpec := { name := "keysShards", fn := fun _ => fun
  | [d1, d2] => { results := [.lit (.bool true)], args := [d1, d2] }
  | _ => none }
def keysShardsRow : OpenClaim := { program := "yticadmfpeepciaa", sum := "60f9f1900470cf0ac5b0dc631fa7ed45172be8078095527869b872d181d8808d", func := "althing/althinglaw04.KeysShards", spec := "keysShards", apart := false }
def KeysShardsSaid : Prop := keysShardsRow.holds Try.pinned (OpenSpec.ofChange keysShardsSpec)

/-- ITS FALSE NEIGHBOUR: 'it returns false'. Refute it at one input. -/
def keysShardsWrong : ChangeSpec := { name := "keysShards", fn := fun _ => fun
  | [d1, d2] => { results := [.lit (.bool false)], args := [d1, d2] }
  | _ => none }
def KeysShardsWrongFalsely : Prop := keysShardsRow.holds Try.pinned (OpenSpec.ofChange keysShardsWrong)

/-- 'althinglaw04.KeysAlone': WHATEVER THE INPUT: true; the input reads as it did. -/
def keysAloneSpec : ChangeSpec := { name := "keysAlone", fn := fun _ => fun
  | [d1, d2, d3] => { results := [.lit (.bool true)], args := [d1, d2, d3] }
  | _ => none }
def keysAloneRow : OpenClaim := { program := "yticadmfpeepciaa", sum := "60f9f1900470cf0ac5b0dc631fa7ed45172be8078095527869b872d181d8808d", func := "althing/althinglaw04.KeysAlone", spec := "keysAlone", apart := false }
def KeysAloneSaid : Prop := keysAloneRow.holds Try.pinned (OpenSpec.ofChange keysAloneSpec)

/-- ITS FALSE NEIGHBOUR: 'it returns false'. Refute it at one input. -/
def keysAloneWrong : ChangeSpec := { name := "keysAlone", fn := fun _ => fun
  | [d1, d2, d3] => { results := [.lit (.bool false)], args := [d1, d2, d3] }
  | _ => none }
def KeysAloneWrongFalsely : Prop := keysAloneRow.holds Try.pinned (OpenSpec.ofChange keysAloneWrong)

/-- 'althinglaw04.KeysJoins': WHATEVER THE INPUT: true; the input reads as it did. -/
def keysJoinsSpec : ChangeSpec := { name := "keysJoins", fn := fun _ => fun
  | [d1, d2, d3] => { results := [.lit (.bool true)], args := [d1, d2, d3] }
  | _ => none }
def keysJoinsRow : OpenClaim := { program := "yticadmfpeepciaa", sum := "60f9f1900470cf0ac5b0dc631fa7ed45172be8078095527869b872d181d8808d", func := "althing/althinglaw04.KeysJoins", spec := "keysJoins", recurses := true, apart := false }
def KeysJoinsSaid : Prop := keysJoinsRow.holds Try.pinned (OpenSpec.ofChange keysJoinsSpec)

/-- ITS FALSE NEIGHBOUR: 'it returns false'. Refute it at one input. -/
def keysJoinsWrong : ChangeSpec := { name := "keysJoins", fn := fun _ => fun
  | [d1, d2, d3] => { results := [.lit (.bool false)], args := [d1, d2, d3] }
  | _ => none }
def KeysJoinsWrongFalsely : Prop := keysJoinsRow.holds Try.pinned (OpenSpec.ofChange keysJoinsWrong)

/-- 'althinglaw04.KeysLists': WHATEVER THE INPUT: true; the input reads as it did. -/
def keysListsSpec : ChangeSpec := { name := "keysLists", fn := fun _ => fun
  | [d1, d2] => { results := [.lit (.bool true)], args := [d1, d2] }
  | _ => none }
def keysListsRow : OpenClaim := { program := "yticadmfpeepciaa", sum := "60f9f1900470cf0ac5b0dc631fa7ed45172be8078095527869b872d181d8808d", func := "althing/althinglaw04.KeysLists", spec := "keysLists", unfollowed := true, recurses := true, apart := false }
def KeysListsSaid : Prop := keysListsRow.holds Try.pinned (OpenSpec.ofChange keysListsSpec)

/-- ITS FALSE NEIGHBOUR: 'it returns false'. Refute it at one input. -/
def keysListsWrong : ChangeSpec := { name := "keysLists", fn := fun _ => fun
  | [d1, d2] => { results := [.lit (.bool false)], args := [d1, d2] }
  | _ => none }
def KeysListsWrongFalsely : Prop := keysListsRow.holds Try.pinned (OpenSpec.ofChange keysListsWrong)

/-- 'althinglaw04.KeysParts': WHATEVER THE INPUT: true; the input reads as it did. -/
def keysPartsSpec : ChangeSpec := { name := "keysParts", fn := fun _ => fun
  | [d1, d2] => { results := [.lit (.bool true)], args := [d1, d2] }
  | _ => none }
def keysPartsRow : OpenClaim := { program := "yticadmfpeepciaa", sum := "60f9f1900470cf0ac5b0dc631fa7ed45172be8078095527869b872d181d8808d", func := "althing/althinglaw04.KeysParts", spec := "keysParts", unfollowed := true, recurses := true, apart := false }
def KeysPartsSaid : Prop := keysPartsRow.holds Try.pinned (OpenSpec.ofChange keysPartsSpec)

/-- ITS FALSE NEIGHBOUR: 'it returns false'. Refute it at one input. -/
def keysPartsWrong : ChangeSpec := { name := "keysParts", fn := fun _ => fun
  | [d1, d2] => { results := [.lit (.bool false)], args := [d1, d2] }
  | _ => none }
def KeysPartsWrongFalsely : Prop := keysPartsRow.holds Try.pinned (OpenSpec.ofChange keysPartsWrong)

/-- 'althinglaw11.IndexKnows': WHATEVER THE INPUT: true; the input reads as it did. -/
def indexKnowsSpec : ChangeSpec := { name := "indexKnows", fn := fun _ => fun
  | [d1, d2, d3] => { results := [.lit (.bool true)], args := [d1, d2, d3] }
  | _ => none }
def indexKnowsRow : OpenClaim := { program := "yticadmfpeepciaa", sum := "60f9f1900470cf0ac5b0dc631fa7ed45172be8078095527869b872d181d8808d", func := "althing/althinglaw11.IndexKnows", spec := "indexKnows", unfollowed := true, recurses := true, apart := false }
def IndexKnowsSaid : Prop := indexKnowsRow.holds Try.pinned (OpenSpec.ofChange indexKnowsSpec)

/-- ITS FALSE NEIGHBOUR: 'it returns false'. Refute it at one input. -/
def indexKnowsWrong : ChangeSpec := { name := "indexKnows", fn := fun _ => fun
  | [d1, d2, d3] => { results := [.lit (.bool false)], args := [d1, d2, d3] }
  | _ => none }
def IndexKnowsWrongFalsely : Prop := indexKnowsRow.holds Try.pinned (OpenSpec.ofChange indexKnowsWrong)

/-- 'althinglaw11.IndexAttrs': WHATEVER THE INPUT: true; the input reads as it did. -/
def indexAttrsSpec : ChangeSpec := { name := "indexAttrs", fn := fun _ => fun
  | [d1, d2, d3, d4, d5] => { results := [.lit (.bool true)], args := [d1, d2, d3, d4, d5] }
  | _ => none }
def indexAttrsRow : OpenClaim := { program := "yticadmfpeepciaa", sum := "60f9f1900470cf0ac5b0dc631fa7ed45172be8078095527869b872d181d8808d", func := "althing/althinglaw11.IndexAttrs", spec := "indexAttrs", unfollowed := true, recurses := true, apart := false }
def IndexAttrsSaid : Prop := indexAttrsRow.holds Try.pinned (OpenSpec.ofChange indexAttrsSpec)

/-- ITS FALSE NEIGHBOUR: 'it returns false'. Refute it at one input. -/
def indexAttrsWrong : ChangeSpec := { name := "indexAttrs", fn := fun _ => fun
  | [d1, d2, d3, d4, d5] => { results := [.lit (.bool false)], args := [d1, d2, d3, d4, d5] }
  | _ => none }
def IndexAttrsWrongFalsely : Prop := indexAttrsRow.holds Try.pinned (OpenSpec.ofChange indexAttrsWrong)

/-- 'althinglaw11.IndexStays': WHATEVER THE INPUT: true; the input reads as it did. -/
def indexStaysSpec : ChangeSpec := { name := "indexStays", fn := fun _ => fun
  | [d1, d2, d3, d4, d5, d6] => { results := [.lit (.bool true)], args := [d1, d2, d3, d4, d5, d6] }
  | _ => none }
def indexStaysRow : OpenClaim := { program := "yticadmfpeepciaa", sum := "60f9f1900470cf0ac5b0dc631fa7ed45172be8078095527869b872d181d8808d", func := "althing/althinglaw11.IndexStays", spec := "indexStays", unfollowed := true, recurses := true, apart := false }
def IndexStaysSaid : Prop := indexStaysRow.holds Try.pinned (OpenSpec.ofChange indexStaysSpec)

/-- ITS FALSE NEIGHBOUR: 'it returns false'. Refute it at one input. -/
def indexStaysWrong : ChangeSpec := { name := "indexStays", fn := fun _ => fun
  | [d1, d2, d3, d4, d5, d6] => { results := [.lit (.bool false)], args := [d1, d2, d3, d4, d5, d6] }
  | _ => none }
def IndexStaysWrongFalsely : Prop := indexStaysRow.holds Try.pinned (OpenSpec.ofChange indexStaysWrong)

/-- 'althinglaw11.IndexSlots': WHATEVER THE INPUT: true; the input reads as it did. -/
def indexSlotsSpec : ChangeSpec := { name := "indexSlots", fn := fun _ => fun
  | [d1, d2, d3] => { results := [.lit (.bool true)], args := [d1, d2, d3] }
  | _ => none }
def indexSlotsRow : OpenClaim := { program := "yticadmfpeepciaa", sum := "60f9f1900470cf0ac5b0dc631fa7ed45172be8078095527869b872d181d8808d", func := "althing/althinglaw11.IndexSlots", spec := "indexSlots", unfollowed := true, recurses := true, apart := false }
def IndexSlotsSaid : Prop := indexSlotsRow.holds Try.pinned (OpenSpec.ofChange indexSlotsSpec)

/-- ITS FALSE NEIGHBOUR: 'it returns false'. Refute it at one input. -/
def indexSlotsWrong : ChangeSpec := { name := "indexSlots", fn := fun _ => fun
  | [d1, d2, d3] => { results := [.lit (.bool false)], args := [d1, d2, d3] }
  | _ => none }
def IndexSlotsWrongFalsely : Prop := indexSlotsRow.holds Try.pinned (OpenSpec.ofChange indexSlotsWrong)

/-- 'althinglaw11.IndexNoops': WHATEVER THE INPUT: true; the input reads as it did. -/
def indexNoopsSpec : ChangeSpec := { name := "indexNoops", fn := fun _ => fun
  | [d1, d2, d3, d4, d5] => { results := [.lit (.bool true)], args := [d1, d2, d3, d4, d5] }
  | _ => none }
def indexNoopsRow : OpenClaim := { program := "yticadmfpeepciaa", sum := "60f9f1900470cf0ac5b0dc631fa7ed45172be8078095527869b872d181d8808d", func := "althing/althinglaw11.IndexNoops", spec := "indexNoops", unfollowed := true, recurses := true, apart := false }
def IndexNoopsSaid : Prop := indexNoopsRow.holds Try.pinned (OpenSpec.ofChange indexNoopsSpec)

/-- ITS FALSE NEIGHBOUR: 'it returns false'. Refute it at one input. -/
def indexNoopsWrong : ChangeSpec := { name := "indexNoops", fn := fun _ => fun
  | [d1, d2, d3, d4, d5] => { results := [.lit (.bool false)], args := [d1, d2, d3, d4, d5] }
  | _ => none }
def IndexNoopsWrongFalsely : Prop := indexNoopsRow.holds Try.pinned (OpenSpec.ofChange indexNoopsWrong)

/-- 'althinglaw11.IndexOrders': WHATEVER THE INPUT: true; the input reads as it did. -/
def indexOrdersSpec : ChangeSpec := { name := "indexOrders", fn := fun _ => fun
  | [d1, d2, d3] => { results := [.lit (.bool true)], args := [d1, d2, d3] }
  | _ => none }
def indexOrdersRow : OpenClaim := { program := "yticadmfpeepciaa", sum := "60f9f1900470cf0ac5b0dc631fa7ed45172be8078095527869b872d181d8808d", func := "althing/althinglaw11.IndexOrders", spec := "indexOrders", unfollowed := true, recurses := true, apart := false }
def IndexOrdersSaid : Prop := indexOrdersRow.holds Try.pinned (OpenSpec.ofChange indexOrdersSpec)

/-- ITS FALSE NEIGHBOUR: 'it returns false'. Refute it at one input. -/
def indexOrdersWrong : ChangeSpec := { name := "indexOrders", fn := fun _ => fun
  | [d1, d2, d3] => { results := [.lit (.bool false)], args := [d1, d2, d3] }
  | _ => none }
def IndexOrdersWrongFalsely : Prop := indexOrdersRow.holds Try.pinned (OpenSpec.ofChange indexOrdersWrong)

/-- 'althinglaw11.IndexOrdered': WHATEVER THE INPUT: true; the input reads as it did. -/
def indexOrderedSpec : ChangeSpec := { name := "indexOrdered", fn := fun _ => fun
  | [d1, d2] => { results := [.lit (.bool true)], args := [d1, d2] }
  | _ => none }
def indexOrderedRow : OpenClaim := { program := "yticadmfpeepciaa", sum := "60f9f1900470cf0ac5b0dc631fa7ed45172be8078095527869b872d181d8808d", func := "althing/althinglaw11.IndexOrdered", spec := "indexOrdered", unfollowed := true, recurses := true, apart := false }
def IndexOrderedSaid : Prop := indexOrderedRow.holds Try.pinned (OpenSpec.ofChange indexOrderedSpec)

/-- ITS FALSE NEIGHBOUR: 'it returns false'. Refute it at one input. -/
def indexOrderedWrong : ChangeSpec := { name := "indexOrdered", fn := fun _ => fun
  | [d1, d2] => { results := [.lit (.bool false)], args := [d1, d2] }
  | _ => none }
def IndexOrderedWrongFalsely : Prop := indexOrderedRow.holds Try.pinned (OpenSpec.ofChange indexOrderedWrong)

/-- 'althinglaw05.CommandClones': WHATEVER THE INPUT: true; the input reads as it did. -/
def commandClonesSpec : ChangeSpec := { name := "commandClones", fn := fun _ => fun
  | [d] => { results := [.lit (.bool true)], args := [d] }
  | _ => none }
def commandClonesRow : OpenClaim := { program := "yticadmfpeepciaa", sum := "60f9f1900470cf0ac5b0dc631fa7ed45172be8078095527869b872d181d8808d", func := "althing/althinglaw05.CommandClones", spec := "commandClones", unfollowed := true, recurses := true, apart := false }
def CommandClonesSaid : Prop := commandClonesRow.holds Try.pinned (OpenSpec.ofChange commandClonesSpec)

/-- ITS FALSE NEIGHBOUR: 'it returns false'. Refute it at one input. -/
def commandClonesWrong : ChangeSpec := { name := "commandClones", fn := fun _ => fun
  | [d] => { results := [.lit (.bool false)], args := [d] }
  | _ => none }
def CommandClonesWrongFalsely : Prop := commandClonesRow.holds Try.pinned (OpenSpec.ofChange commandClonesWrong)

/-- 'althinglaw05.CommandMeets': WHATEVER THE INPUT: true; the input reads as it did. -/
def commandMeetsSpec : ChangeSpec := { name := "commandMeets", fn := fun _ => fun
  | [d1, d2, d3] => { results := [.lit (.bool true)], args := [d1, d2, d3] }
  | _ => none }
def commandMeetsRow : OpenClaim := { program := "yticadmfpeepciaa", sum := "60f9f1900470cf0ac5b0dc631fa7ed45172be8078095527869b872d181d8808d", func := "althing/althinglaw05.CommandMeets", spec := "commandMeets", unfollowed := true, recurses := true, apart := false }
def CommandMeetsSaid : Prop := commandMeetsRow.holds Try.pinned (OpenSpec.ofChange commandMeetsSpec)

/-- ITS FALSE NEIGHBOUR: 'it returns false'. Refute it at one input. -/
def commandMeetsWrong : ChangeSpec := { name := "commandMeets", fn := fun _ => fun
  | [d1, d2, d3] => { results := [.lit (.bool false)], args := [d1, d2, d3] }
  | _ => none }
def CommandMeetsWrongFalsely : Prop := commandMeetsRow.holds Try.pinned (OpenSpec.ofChange commandMeetsWrong)

/-- 'althinglaw05.CommandPart': WHATEVER THE INPUT: true; the input reads as it did. -/
def commandPartSpec : ChangeSpec := { name := "commandPart", fn := fun _ => fun
  | [d1, d2, d3] => { results := [.lit (.bool true)], args := [d1, d2, d3] }
  | _ => none }
def commandPartRow : OpenClaim := { program := "yticadmfpeepciaa", sum := "60f9f1900470cf0ac5b0dc631fa7ed45172be8078095527869b872d181d8808d", func := "althing/althinglaw05.CommandPart", spec := "commandPart", unfollowed := true, recurses := true, apart := false }
def CommandPartSaid : Prop := commandPartRow.holds Try.pinned (OpenSpec.ofChange commandPartSpec)

/-- ITS FALSE NEIGHBOUR: 'it returns false'. Refute it at one input. -/
def commandPartWrong : ChangeSpec := { name := "commandPart", fn := fun _ => fun
  | [d1, d2, d3] => { results := [.lit (.bool false)], args := [d1, d2, d3] }
  | _ => none }
def CommandPartWrongFalsely : Prop := commandPartRow.holds Try.pinned (OpenSpec.ofChange commandPartWrong)

/-- 'althinglaw05.CommandWhole': WHATEVER THE INPUT: true; the input reads as it did. -/
def commandWholeSpec : ChangeSpec := { name := "commandWhole", fn := fun _ => fun
  | [d1, d2] => { results := [.lit (.bool true)], args := [d1, d2] }
  | _ => none }
def commandWholeRow : OpenClaim := { program := "yticadmfpeepciaa", sum := "60f9f1900470cf0ac5b0dc631fa7ed45172be8078095527869b872d181d8808d", func := "althing/althinglaw05.CommandWhole", spec := "commandWhole", unfollowed := true, recurses := true, apart := false }
def CommandWholeSaid : Prop := commandWholeRow.holds Try.pinned (OpenSpec.ofChange commandWholeSpec)

/-- ITS FALSE NEIGHBOUR: 'it returns false'. Refute it at one input. -/
def commandWholeWrong : ChangeSpec := { name := "commandWhole", fn := fun _ => fun
  | [d1, d2] => { results := [.lit (.bool false)], args := [d1, d2] }
  | _ => none }
def CommandWholeWrongFalsely : Prop := commandWholeRow.holds Try.pinned (OpenSpec.ofChange commandWholeWrong)

/-- 'althinglaw05.CommandParts': WHATEVER THE INPUT: true; the input reads as it did. -/
def commandPartsSpec : ChangeSpec := { name := "commandParts", fn := fun _ => fun
  | [d1, d2, d3, d4] => { results := [.lit (.bool true)], args := [d1, d2, d3, d4] }
  | _ => none }
def commandPartsRow : OpenClaim := { program := "yticadmfpeepciaa", sum := "60f9f1900470cf0ac5b0dc631fa7ed45172be8078095527869b872d181d8808d", func := "althing/althinglaw05.CommandParts", spec := "commandParts", unfollowed := true, recurses := true, apart := false }
def CommandPartsSaid : Prop := commandPartsRow.holds Try.pinned (OpenSpec.ofChange commandPartsSpec)

/-- ITS FALSE NEIGHBOUR: 'it returns false'. Refute it at one input. -/
def commandPartsWrong : ChangeSpec := { name := "commandParts", fn := fun _ => fun
  | [d1, d2, d3, d4] => { results := [.lit (.bool false)], args := [d1, d2, d3, d4] }
  | _ => none }
def CommandPartsWrongFalsely : Prop := commandPartsRow.holds Try.pinned (OpenSpec.ofChange commandPartsWrong)

/- THE SECOND FORM. 'bulk': how many values and letters a reading holds, each counted each time it is reached (what is shared counts as often as it is met; a slice's spare places count too). A statement '..UptoSaid' is the law's where the arguments, and the package variables that the reading takes, are together of bulk at most 1048576: NARROWER than '..Said'. Prove '..Said' where nothing that the law and all that it calls make is longer than what came in: it says more and counts as full. Else prove '..UptoSaid'. A law counts once. -/
mutual
def uptoBulk {H : Type} : DataW H → Nat
  | .lit (.string bytes) => bytes.length + 1
  | .lit _ => 1
  | .nil => 1
  | .ptr d => uptoBulk d + 1
  | .slice elems spare => uptoBulkAll elems + uptoBulkAll spare + 1
  | .agg parts => uptoBulkAll parts + 1
  | .iface _ d => uptoBulk d + 1
  | .map entries => uptoBulkEntries entries + 1
  | .held _ => 1
def uptoBulkAll {H : Type} : List (DataW H) → Nat
  | [] => 0
  | d :: r => uptoBulk d + uptoBulkAll r
def uptoBulkEntries {H : Type} : List (Lit × DataW H) → Nat
  | [] => 0
  | x :: r => uptoBulkEntry x + uptoBulkEntries r
def uptoBulkEntry {H : Type} : Lit × DataW H → Nat
  | (.string bytes, d) => bytes.length + uptoBulk d + 1
  | (_, d) => uptoBulk d + 1
 end
def uptoSmall : (H : Type) → List (DataW H) → Bool := fun _ ds => decide (uptoBulkAll ds ≤ 1048576)
def OpenSpec.upto (s : _root_.Go.ChangeSpec) : _root_.Go.OpenSpec := { _root_.Go.OpenSpec.ofChange s with cond := some uptoSmall }

/-- 'althinglaw04.KeysRunes', WHERE WHAT IT READS IS OF BULK AT MOST 1048576: true; the input reads as it did. -/
def keysRunesUptoRow : OpenClaim := { program := "yticadmfpeepciaa", sum := "60f9f1900470cf0ac5b0dc631fa7ed45172be8078095527869b872d181d8808d", func := "althing/althinglaw04.KeysRunes", spec := "keysRunes", apart := false, narrowed := true }
def KeysRunesUptoSaid : Prop := keysRunesUptoRow.holds Try.pinned (OpenSpec.upto keysRunesSpec)

/-- 'althinglaw04.KeysShards', WHERE WHAT IT READS IS OF BULK AT MOST 1048576: true; the input reads as it did. -/
def keysShardsUptoRow : OpenClaim := { program := "yticadmfpeepciaa", sum := "60f9f1900470cf0ac5b0dc631fa7ed45172be8078095527869b872d181d8808d", func := "althing/althinglaw04.KeysShards", spec := "keysShards", apart := false, narrowed := true }
def KeysShardsUptoSaid : Prop := keysShardsUptoRow.holds Try.pinned (OpenSpec.upto keysShardsSpec)

/-- 'althinglaw04.KeysAlone', WHERE WHAT IT READS IS OF BULK AT MOST 1048576: true; the input reads as it did. -/
def keysAloneUptoRow : OpenClaim := { program := "yticadmfpeepciaa", sum := "60f9f1900470cf0ac5b0dc631fa7ed45172be8078095527869b872d181d8808d", func := "althing/althinglaw04.KeysAlone", spec := "keysAlone", apart := false, narrowed := true }
def KeysAloneUptoSaid : Prop := keysAloneUptoRow.holds Try.pinned (OpenSpec.upto keysAloneSpec)

/-- 'althinglaw04.KeysJoins', WHERE WHAT IT READS IS OF BULK AT MOST 1048576: true; the input reads as it did. -/
def keysJoinsUptoRow : OpenClaim := { program := "yticadmfpeepciaa", sum := "60f9f1900470cf0ac5b0dc631fa7ed45172be8078095527869b872d181d8808d", func := "althing/althinglaw04.KeysJoins", spec := "keysJoins", recurses := true, apart := false, narrowed := true }
def KeysJoinsUptoSaid : Prop := keysJoinsUptoRow.holds Try.pinned (OpenSpec.upto keysJoinsSpec)

/-- 'althinglaw04.KeysLists', WHERE WHAT IT READS IS OF BULK AT MOST 1048576: true; the input reads as it did. -/
def keysListsUptoRow : OpenClaim := { program := "yticadmfpeepciaa", sum := "60f9f1900470cf0ac5b0dc631fa7ed45172be8078095527869b872d181d8808d", func := "althing/althinglaw04.KeysLists", spec := "keysLists", unfollowed := true, recurses := true, apart := false, narrowed := true }
def KeysListsUptoSaid : Prop := keysListsUptoRow.holds Try.pinned (OpenSpec.upto keysListsSpec)

/-- 'althinglaw04.KeysParts', WHERE WHAT IT READS IS OF BULK AT MOST 1048576: true; the input reads as it did. -/
def keysPartsUptoRow : OpenClaim := { program := "yticadmfpeepciaa", sum := "60f9f1900470cf0ac5b0dc631fa7ed45172be8078095527869b872d181d8808d", func := "althing/althinglaw04.KeysParts", spec := "keysParts", unfollowed := true, recurses := true, apart := false, narrowed := true }
def KeysPartsUptoSaid : Prop := keysPartsUptoRow.holds Try.pinned (OpenSpec.upto keysPartsSpec)

/-- 'althinglaw11.IndexKnows', WHERE WHAT IT READS IS OF BULK AT MOST 1048576: true; the input reads as it did. -/
def indexKnowsUptoRow : OpenClaim := { program := "yticadmfpeepciaa", sum := "60f9f1900470cf0ac5b0dc631fa7ed45172be8078095527869b872d181d8808d", func := "althing/althinglaw11.IndexKnows", spec := "indexKnows", unfollowed := true, recurses := true, apart := false, narrowed := true }
def IndexKnowsUptoSaid : Prop := indexKnowsUptoRow.holds Try.pinned (OpenSpec.upto indexKnowsSpec)

/-- 'althinglaw11.IndexAttrs', WHERE WHAT IT READS IS OF BULK AT MOST 1048576: true; the input reads as it did. -/
def indexAttrsUptoRow : OpenClaim := { program := "yticadmfpeepciaa", sum := "60f9f1900470cf0ac5b0dc631fa7ed45172be8078095527869b872d181d8808d", func := "althing/althinglaw11.IndexAttrs", spec := "indexAttrs", unfollowed := true, recurses := true, apart := false, narrowed := true }
def IndexAttrsUptoSaid : Prop := indexAttrsUptoRow.holds Try.pinned (OpenSpec.upto indexAttrsSpec)

/-- 'althinglaw11.IndexStays', WHERE WHAT IT READS IS OF BULK AT MOST 1048576: true; the input reads as it did. -/
def indexStaysUptoRow : OpenClaim := { program := "yticadmfpeepciaa", sum := "60f9f1900470cf0ac5b0dc631fa7ed45172be8078095527869b872d181d8808d", func := "althing/althinglaw11.IndexStays", spec := "indexStays", unfollowed := true, recurses := true, apart := false, narrowed := true }
def IndexStaysUptoSaid : Prop := indexStaysUptoRow.holds Try.pinned (OpenSpec.upto indexStaysSpec)

/-- 'althinglaw11.IndexSlots', WHERE WHAT IT READS IS OF BULK AT MOST 1048576: true; the input reads as it did. -/
def indexSlotsUptoRow : OpenClaim := { program := "yticadmfpeepciaa", sum := "60f9f1900470cf0ac5b0dc631fa7ed45172be8078095527869b872d181d8808d", func := "althing/althinglaw11.IndexSlots", spec := "indexSlots", unfollowed := true, recurses := true, apart := false, narrowed := true }
def IndexSlotsUptoSaid : Prop := indexSlotsUptoRow.holds Try.pinned (OpenSpec.upto indexSlotsSpec)

/-- 'althinglaw11.IndexNoops', WHERE WHAT IT READS IS OF BULK AT MOST 1048576: true; the input reads as it did. -/
def indexNoopsUptoRow : OpenClaim := { program := "yticadmfpeepciaa", sum := "60f9f1900470cf0ac5b0dc631fa7ed45172be8078095527869b872d181d8808d", func := "althing/althinglaw11.IndexNoops", spec := "indexNoops", unfollowed := true, recurses := true, apart := false, narrowed := true }
def IndexNoopsUptoSaid : Prop := indexNoopsUptoRow.holds Try.pinned (OpenSpec.upto indexNoopsSpec)

/-- 'althinglaw11.IndexOrders', WHERE WHAT IT READS IS OF BULK AT MOST 1048576: true; the input reads as it did. -/
def indexOrdersUptoRow : OpenClaim := { program := "yticadmfpeepciaa", sum := "60f9f1900470cf0ac5b0dc631fa7ed45172be8078095527869b872d181d8808d", func := "althing/althinglaw11.IndexOrders", spec := "indexOrders", unfollowed := true, recurses := true, apart := false, narrowed := true }
def IndexOrdersUptoSaid : Prop := indexOrdersUptoRow.holds Try.pinned (OpenSpec.upto indexOrdersSpec)

/-- 'althinglaw11.IndexOrdered', WHERE WHAT IT READS IS OF BULK AT MOST 1048576: true; the input reads as it did. -/
def indexOrderedUptoRow : OpenClaim := { program := "yticadmfpeepciaa", sum := "60f9f1900470cf0ac5b0dc631fa7ed45172be8078095527869b872d181d8808d", func := "althing/althinglaw11.IndexOrdered", spec := "indexOrdered", unfollowed := true, recurses := true, apart := false, narrowed := true }
def IndexOrderedUptoSaid : Prop := indexOrderedUptoRow.holds Try.pinned (OpenSpec.upto indexOrderedSpec)

/-- 'althinglaw05.CommandClones', WHERE WHAT IT READS IS OF BULK AT MOST 1048576: true; the input reads as it did. -/
def commandClonesUptoRow : OpenClaim := { program := "yticadmfpeepciaa", sum := "60f9f1900470cf0ac5b0dc631fa7ed45172be8078095527869b872d181d8808d", func := "althing/althinglaw05.CommandClones", spec := "commandClones", unfollowed := true, recurses := true, apart := false, narrowed := true }
def CommandClonesUptoSaid : Prop := commandClonesUptoRow.holds Try.pinned (OpenSpec.upto commandClonesSpec)

/-- 'althinglaw05.CommandMeets', WHERE WHAT IT READS IS OF BULK AT MOST 1048576: true; the input reads as it did. -/
def commandMeetsUptoRow : OpenClaim := { program := "yticadmfpeepciaa", sum := "60f9f1900470cf0ac5b0dc631fa7ed45172be8078095527869b872d181d8808d", func := "althing/althinglaw05.CommandMeets", spec := "commandMeets", unfollowed := true, recurses := true, apart := false, narrowed := true }
def CommandMeetsUptoSaid : Prop := commandMeetsUptoRow.holds Try.pinned (OpenSpec.upto commandMeetsSpec)

/-- 'althinglaw05.CommandPart', WHERE WHAT IT READS IS OF BULK AT MOST 1048576: true; the input reads as it did. -/
def commandPartUptoRow : OpenClaim := { program := "yticadmfpeepciaa", sum := "60f9f1900470cf0ac5b0dc631fa7ed45172be8078095527869b872d181d8808d", func := "althing/althinglaw05.CommandPart", spec := "commandPart", unfollowed := true, recurses := true, apart := false, narrowed := true }
def CommandPartUptoSaid : Prop := commandPartUptoRow.holds Try.pinned (OpenSpec.upto commandPartSpec)

/-- 'althinglaw05.CommandWhole', WHERE WHAT IT READS IS OF BULK AT MOST 1048576: true; the input reads as it did. -/
def commandWholeUptoRow : OpenClaim := { program := "yticadmfpeepciaa", sum := "60f9f1900470cf0ac5b0dc631fa7ed45172be8078095527869b872d181d8808d", func := "althing/althinglaw05.CommandWhole", spec := "commandWhole", unfollowed := true, recurses := true, apart := false, narrowed := true }
def CommandWholeUptoSaid : Prop := commandWholeUptoRow.holds Try.pinned (OpenSpec.upto commandWholeSpec)

/-- 'althinglaw05.CommandParts', WHERE WHAT IT READS IS OF BULK AT MOST 1048576: true; the input reads as it did. -/
def commandPartsUptoRow : OpenClaim := { program := "yticadmfpeepciaa", sum := "60f9f1900470cf0ac5b0dc631fa7ed45172be8078095527869b872d181d8808d", func := "althing/althinglaw05.CommandParts", spec := "commandParts", unfollowed := true, recurses := true, apart := false, narrowed := true }
def CommandPartsUptoSaid : Prop := commandPartsUptoRow.holds Try.pinned (OpenSpec.upto commandPartsSpec)

end Rows
end Go.Proofs.Yticadmfpeepciaa
