/-
  No cell of these rows narrows 'for every input' (looked for: loops, veiled, ifaces, maps, wideKeys, modest, calm, conditions, laid).
  DERIVED. THE GIVEN ROWS OF THIS SEAT. 3 by the template 'for every input the law returns true; each argument reads behind the call as it read before'; 0 by the template 'total and deterministic' (their statements: YtcoohapohkbnpaaTotals.lean).
  GIVEN WITH THE SEED: the statements are not yours to turn. If you find one false, say at which input.
  Laid BY PROGRAM, IN A SANDBOX (cutbox-rows.mjs): the forced cells as the released guide's own fill.sh prints them over the translation a7eedaac0320b79c… (all of the seat's roots in one cut). By AI agents, Wed Nov 11 2026. No macro, syntax, notation, axiom, sorry.
-/
import Derived.Test.YtcoohapohkbnpaaChecked
import GoSem.Claim
import GoSem.ClaimJoined
import GoSem.ClaimMapViews
import Derived.JoinedTies
import Derived.KernelRfl
namespace Go.Proofs.Ytcoohapohkbnpaa
/- THE CELL 'sum', in the pinned program and in every row, IS THE sha256 OF THE DUMP (.gsa) THAT YtcoohapohkbnpaaProg.lean LOADS. Nothing in Lean hashes anything: it is a label: what it is worth is what the hold of that sum in a sandbox is worth. -/
noncomputable def Try.pinned : Pinned := { name := "ytcoohapohkbnpaa", sum := "a7eedaac0320b79c0d569a8bfb1297f7c2cecdbfd2b824eaa22408df9158815f", checked := Try.checked }
namespace Rows
def none {H : Type} : Left H := { results := [], args := [] }

/-- 'althinglaw04.KeysJoins': WHATEVER THE INPUT: true; the input reads as it did. -/
def keysJoinsSpec : ChangeSpec := { name := "keysJoins", fn := fun _ => fun
  | [d1, d2, d3] => { results := [.lit (.bool true)], args := [d1, d2, d3] }
  | _ => none }
def keysJoinsRow : OpenClaim := { program := "ytcoohapohkbnpaa", sum := "a7eedaac0320b79c0d569a8bfb1297f7c2cecdbfd2b824eaa22408df9158815f", func := "althing/althinglaw04.KeysJoins", spec := "keysJoins", recurses := true, apart := false }
def KeysJoinsSaid : Prop := keysJoinsRow.holds Try.pinned (OpenSpec.ofChange keysJoinsSpec)

/-- ITS FALSE NEIGHBOUR: 'it returns false'. Refute it at one input. -/
def keysJoinsWrong : ChangeSpec := { name := "keysJoins", fn := fun _ => fun
  | [d1, d2, d3] => { results := [.lit (.bool false)], args := [d1, d2, d3] }
  | _ => none }
def KeysJoinsWrongFalsely : Prop := keysJoinsRow.holds Try.pinned (OpenSpec.ofChange keysJoinsWrong)

/-- 'althinglaw04.KeysLists': WHATEVER THE INPUT: true; the input reads as it did. -/
def keysListsSpec : ChangeSpec := { name := "keysLists", fn := fun _ => fun
  | [d1, d2] => { results := [.lit (.bool true)], args := [d1, d2] }
  | _ => none }
def keysListsRow : OpenClaim := { program := "ytcoohapohkbnpaa", sum := "a7eedaac0320b79c0d569a8bfb1297f7c2cecdbfd2b824eaa22408df9158815f", func := "althing/althinglaw04.KeysLists", spec := "keysLists", unfollowed := true, recurses := true, apart := false }
def KeysListsSaid : Prop := keysListsRow.holds Try.pinned (OpenSpec.ofChange keysListsSpec)

/-- ITS FALSE NEIGHBOUR: 'it returns false'. Refute it at one input. -/
def keysListsWrong : ChangeSpec := { name := "keysLists", fn := fun _ => fun
  | [d1, d2] => { results := [.lit (.bool false)], args := [d1, d2] }
  | _ => none }
def KeysListsWrongFalsely : Prop := keysListsRow.holds Try.pinned (OpenSpec.ofChange keysListsWrong)

/-- 'althinglaw04.KeysParts': WHATEVER THE INPUT: true; the input reads as it did. -/
def keysPartsSpec : ChangeSpec := { name := "keysParts", fn := fun _ => fun
  | [d1, d2] => { results := [.lit (.bool true)], args := [d1, d2] }
  | _ => none }
def keysPartsRow : OpenClaim := { program := "ytcoohapohkbnpaa", sum := "a7eedaac0320b79c0d569a8bfb1297f7c2cecdbfd2b824eaa22408df9158815f", func := "althing/althinglaw04.KeysParts", spec := "keysParts", unfollowed := true, recurses := true, apart := false }
def KeysPartsSaid : Prop := keysPartsRow.holds Try.pinned (OpenSpec.ofChange keysPartsSpec)

/-- ITS FALSE NEIGHBOUR: 'it returns false'. Refute it at one input. -/
def keysPartsWrong : ChangeSpec := { name := "keysParts", fn := fun _ => fun
  | [d1, d2] => { results := [.lit (.bool false)], args := [d1, d2] }
  | _ => none }
def KeysPartsWrongFalsely : Prop := keysPartsRow.holds Try.pinned (OpenSpec.ofChange keysPartsWrong)

/- THE SECOND FORM. 'bulk': how many values and letters a reading holds, each counted each time it is reached (what is shared counts as often as it is met; a slice's spare places count too). A statement '..UptoSaid' is the law's where the arguments, and the package variables that the reading takes, are together of bulk at most 1048576: NARROWER than '..Said'. Prove '..Said' where nothing that the law and all that it calls make is longer than what came in: it says more and counts as full. Else prove '..UptoSaid'. A law counts once. -/
mutual
def uptoBulk {H : Type} : DataW H → Nat
  | .lit (.string bytes) => bytes.length + 1
  | .lit _ => 1
  | .nil => 1
  | .ptr d => uptoBulk d + 1
  | .slice elems spare => uptoBulkAll elems + uptoBulkAll spare + 1
  | .agg parts => uptoBulkAll parts + 1
  | .iface _ d => uptoBulk d + 1
  | .map entries => uptoBulkEntries entries + 1
  | .held _ => 1
def uptoBulkAll {H : Type} : List (DataW H) → Nat
  | [] => 0
  | d :: r => uptoBulk d + uptoBulkAll r
def uptoBulkEntries {H : Type} : List (Lit × DataW H) → Nat
  | [] => 0
  | x :: r => uptoBulkEntry x + uptoBulkEntries r
def uptoBulkEntry {H : Type} : Lit × DataW H → Nat
  | (.string bytes, d) => bytes.length + uptoBulk d + 1
  | (_, d) => uptoBulk d + 1
 end
def uptoSmall : (H : Type) → List (DataW H) → Bool := fun _ ds => decide (uptoBulkAll ds ≤ 1048576)
def OpenSpec.upto (s : _root_.Go.ChangeSpec) : _root_.Go.OpenSpec := { _root_.Go.OpenSpec.ofChange s with cond := some uptoSmall }

/-- 'althinglaw04.KeysJoins', WHERE WHAT IT READS IS OF BULK AT MOST 1048576: true; the input reads as it did. -/
def keysJoinsUptoRow : OpenClaim := { program := "ytcoohapohkbnpaa", sum := "a7eedaac0320b79c0d569a8bfb1297f7c2cecdbfd2b824eaa22408df9158815f", func := "althing/althinglaw04.KeysJoins", spec := "keysJoins", recurses := true, apart := false, narrowed := true }
def KeysJoinsUptoSaid : Prop := keysJoinsUptoRow.holds Try.pinned (OpenSpec.upto keysJoinsSpec)

/-- 'althinglaw04.KeysLists', WHERE WHAT IT READS IS OF BULK AT MOST 1048576: true; the input reads as it did. -/
def keysListsUptoRow : OpenClaim := { program := "ytcoohapohkbnpaa", sum := "a7eedaac0320b79c0d569a8bfb1297f7c2cecdbfd2b824eaa22408df9158815f", func := "althing/althinglaw04.KeysLists", spec := "keysLists", unfollowed := true, recurses := true, apart := false, narrowed := true }
def KeysListsUptoSaid : Prop := keysListsUptoRow.holds Try.pinned (OpenSpec.upto keysListsSpec)

/-- 'althinglaw04.KeysParts', WHERE WHAT IT READS IS OF BULK AT MOST 1048576: true; the input reads as it did. -/
def keysPartsUptoRow : OpenClaim := { program := "ytcoohapohkbnpaa", sum := "a7eedaac0320b79c0d569a8bfb1297f7c2cecdbfd2b824eaa22408df9158815f", func := "althing/althinglaw04.KeysParts", spec := "keysParts", unfollowed := true, recurses := true, apart := false, narrowed := true }
def KeysPartsUptoSaid : Prop := keysPartsUptoRow.holds Try.pinned (OpenSpec.upto keysPartsSpec)

end Rows
end Go.Proofs.Ytcoohapohkbnpaa
