/-
  No cell of these rows narrows 'for every input' (looked for: loops, veiled, ifaces, maps, wideKeys, modest, calm, conditions, laid).
  DERIVED. THE GIVEN ROWS OF THIS SEAT. 5 by the template 'for every input the law returns true; each argument reads behind the call as it read before'; 0 by the template 'total and deterministic' (their statements: YtnjeeedndnfglaaTotals.lean).
  GIVEN WITH THE SEED: the statements are not yours to turn. If you find one false, say at which input.
  Laid BY PROGRAM, IN A SANDBOX (cutbox-rows.mjs): the forced cells as the released guide's own fill.sh prints them over the translation 543deda7515ce8a5… (all of the seat's roots in one cut). By AI agents, Wed Nov 11 2026. No macro, syntax, notation, axiom, sorry.
-/
import Derived.Test.YtnjeeedndnfglaaChecked
import GoSem.Claim
import GoSem.ClaimJoined
import GoSem.ClaimMapViews
import Derived.JoinedTies
import Derived.KernelRfl
namespace Go.Proofs.Ytnjeeedndnfglaa
/- THE CELL 'sum', in the pinned program and in every row, IS THE sha256 OF THE DUMP (.gsa) THAT YtnjeeedndnfglaaProg.lean LOADS. Nothing in Lean hashes anything: it is a label: what it is worth is what the hold of that sum in a sandbox is worth. -/
noncomputable def Try.pinned : Pinned := { name := "ytnjeeedndnfglaa", sum := "543deda7515ce8a5c21ed5431203b979b67fda3a87d058eb25f9d38d41d0c9f4", checked := Try.checked }
namespace Rows
def none {H : Type} : Left H := { results := [], args := [] }

/-- 'althinglaw05.CommandClones': WHATEVER THE INPUT: true; the input reads as it did. -/
def commandClonesSpec : ChangeSpec := { name := "commandClones", fn := fun _ => fun
  | [d] => { results := [.lit (.bool true)], args := [d] }
  | _ => none }
def commandClonesRow : OpenClaim := { program := "ytnjeeedndnfglaa", sum := "543deda7515ce8a5c21ed5431203b979b67fda3a87d058eb25f9d38d41d0c9f4", func := "althing/althinglaw05.CommandClones", spec := "commandClones", unfollowed := true, recurses := true, apart := false }
def CommandClonesSaid : Prop := commandClonesRow.holds Try.pinned (OpenSpec.ofChange commandClonesSpec)

/-- ITS FALSE NEIGHBOUR: 'it returns false'. Refute it at one input. -/
def commandClonesWrong : ChangeSpec := { name := "commandClones", fn := fun _ => fun
  | [d] => { results := [.lit (.bool false)], args := [d] }
  | _ => none }
def CommandClonesWrongFalsely : Prop := commandClonesRow.holds Try.pinned (OpenSpec.ofChange commandClonesWrong)

/-- 'althinglaw05.CommandMeets': WHATEVER THE INPUT: true; the input reads as it did. -/
def commandMeetsSpec : ChangeSpec := { name := "commandMeets", fn := fun _ => fun
  | [d1, d2, d3] => { results := [.lit (.bool true)], args := [d1, d2, d3] }
  | _ => none }
def commandMeetsRow : OpenClaim := { program := "ytnjeeedndnfglaa", sum := "543deda7515ce8a5c21ed5431203b979b67fda3a87d058eb25f9d38d41d0c9f4", func := "althing/althinglaw05.CommandMeets", spec := "commandMeets", unfollowed := true, recurses := true, apart := false }
def CommandMeetsSaid : Prop := commandMeetsRow.holds Try.pinned (OpenSpec.ofChange commandMeetsSpec)

/-- ITS FALSE NEIGHBOUR: 'it returns false'. Refute it at one input. -/
def commandMeetsWrong : ChangeSpec := { name := "commandMeets", fn := fun _ => fun
  | [d1, d2, d3] => { results := [.lit (.bool false)], args := [d1, d2, d3] }
  | _ => none }
def CommandMeetsWrongFalsely : Prop := commandMeetsRow.holds Try.pinned (OpenSpec.ofChange commandMeetsWrong)

/-- 'althinglaw05.CommandPart': WHATEVER THE INPUT: true; the input reads as it did. -/
def commandPartSpec : ChangeSpec := { name := "commandPart", fn := fun _ => fun
  | [d1, d2, d3] => { results := [.lit (.bool true)], args := [d1, d2, d3] }
  | _ => none }
def commandPartRow : OpenClaim := { program := "ytnjeeedndnfglaa", sum := "543deda7515ce8a5c21ed5431203b979b67fda3a87d058eb25f9d38d41d0c9f4", func := "althing/althinglaw05.CommandPart", spec := "commandPart", unfollowed := true, recurses := true, apart := false }
def CommandPartSaid : Prop := commandPartRow.holds Try.pinned (OpenSpec.ofChange commandPartSpec)

/-- ITS FALSE NEIGHBOUR: 'it returns false'. Refute it at one input. -/
def commandPartWrong : ChangeSpec := { name := "commandPart", fn := fun _ => fun
  | [d1, d2, d3] => { results := [.lit (.bool false)], args := [d1, d2, d3] }
  | _ => none }
def CommandPartWrongFalsely : Prop := commandPartRow.holds Try.pinned (OpenSpec.ofChange commandPartWrong)

/-- 'althinglaw05.CommandWhole': WHATEVER THE INPUT: true; the input reads as it did. -/
def commandWholeSpec : ChangeSpec := { name := "commandWhole", fn := fun _ => fun
  | [d1, d2] => { results := [.lit (.bool true)], args := [d1, d2] }
  | _ => none }
def commandWholeRow : OpenClaim := { program := "ytnjeeedndnfglaa", sum := "543deda7515ce8a5c21ed5431203b979b67fda3a87d058eb25f9d38d41d0c9f4", func := "althing/althinglaw05.CommandWhole", spec := "commandWhole", unfollowed := true, recurses := true, apart := false }
def CommandWholeSaid : Prop := commandWholeRow.holds Try.pinned (OpenSpec.ofChange commandWholeSpec)

/-- ITS FALSE NEIGHBOUR: 'it returns false'. Refute it at one input. -/
def commandWholeWrong : ChangeSpec := { name := "commandWhole", fn := fun _ => fun
  | [d1, d2] => { results := [.lit (.bool false)], args := [d1, d2] }
  | _ => none }
def CommandWholeWrongFalsely : Prop := commandWholeRow.holds Try.pinned (OpenSpec.ofChange commandWholeWrong)

/-- 'althinglaw05.CommandParts': WHATEVER THE INPUT: true; the input reads as it did. -/
def commandPartsSpec : ChangeSpec := { name := "commandParts", fn := fun _ => fun
  | [d1, d2, d3, d4] => { results := [.lit (.bool true)], args := [d1, d2, d3, d4] }
  | _ => none }
def commandPartsRow : OpenClaim := { program := "ytnjeeedndnfglaa", sum := "543deda7515ce8a5c21ed5431203b979b67fda3a87d058eb25f9d38d41d0c9f4", func := "althing/althinglaw05.CommandParts", spec := "commandParts", unfollowed := true, recurses := true, apart := false }
def CommandPartsSaid : Prop := commandPartsRow.holds Try.pinned (OpenSpec.ofChange commandPartsSpec)

/-- ITS FALSE NEIGHBOUR: 'it returns false'. Refute it at one input. -/
def commandPartsWrong : ChangeSpec := { name := "commandParts", fn := fun _ => fun
  | [d1, d2, d3, d4] => { results := [.lit (.bool false)], args := [d1, d2, d3, d4] }
  | _ => none }
def CommandPartsWrongFalsely : Prop := commandPartsRow.holds Try.pinned (OpenSpec.ofChange commandPartsWrong)

/- THE SECOND FORM. 'bulk': how many values and letters a reading holds, each counted each time it is reached (what is shared counts as often as it is met; a slice's spare places count too). A statement '..UptoSaid' is the law's where the arguments, and the package variables that the reading takes, are together of bulk at most 1048576: NARROWER than '..Said'. Prove '..Said' where nothing that the law and all that it calls make is longer than what came in: it says more and counts as full. Else prove '..UptoSaid'. A law counts once. -/
mutual
def uptoBulk {H : Type} : DataW H → Nat
  | .lit (.string bytes) => bytes.length + 1
  | .lit _ => 1
  | .nil => 1
  | .ptr d => uptoBulk d + 1
  | .slice elems spare => uptoBulkAll elems + uptoBulkAll spare + 1
  | .agg parts => uptoBulkAll parts + 1
  | .iface _ d => uptoBulk d + 1
  | .map entries => uptoBulkEntries entries + 1
  | .held _ => 1
def uptoBulkAll {H : Type} : List (DataW H) → Nat
  | [] => 0
  | d :: r => uptoBulk d + uptoBulkAll r
def uptoBulkEntries {H : Type} : List (Lit × DataW H) → Nat
  | [] => 0
  | x :: r => uptoBulkEntry x + uptoBulkEntries r
def uptoBulkEntry {H : Type} : Lit × DataW H → Nat
  | (.string bytes, d) => bytes.length + uptoBulk d + 1
  | (_, d) => uptoBulk d + 1
 end
def uptoSmall : (H : Type) → List (DataW H) → Bool := fun _ ds => decide (uptoBulkAll ds ≤ 1048576)
def OpenSpec.upto (s : _root_.Go.ChangeSpec) : _root_.Go.OpenSpec := { _root_.Go.OpenSpec.ofChange s with cond := some uptoSmall }

/-- 'althinglaw05.CommandClones', WHERE WHAT IT READS IS OF BULK AT MOST 1048576: true; the input reads as it did. -/
def commandClonesUptoRow : OpenClaim := { program := "ytnjeeedndnfglaa", sum := "543deda7515ce8a5c21ed5431203b979b67fda3a87d058eb25f9d38d41d0c9f4", func := "althing/althinglaw05.CommandClones", spec := "commandClones", unfollowed := true, recurses := true, apart := false, narrowed := true }
def CommandClonesUptoSaid : Prop := commandClonesUptoRow.holds Try.pinned (OpenSpec.upto commandClonesSpec)

/-- 'althinglaw05.CommandMeets', WHERE WHAT IT READS IS OF BULK AT MOST 1048576: true; the input reads as it did. -/
def commandMeetsUptoRow : OpenClaim := { program := "ytnjeeedndnfglaa", sum := "543deda7515ce8a5c21ed5431203b979b67fda3a87d058eb25f9d38d41d0c9f4", func := "althing/althinglaw05.CommandMeets", spec := "commandMeets", unfollowed := true, recurses := true, apart := false, narrowed := true }
def CommandMeetsUptoSaid : Prop := commandMeetsUptoRow.holds Try.pinned (OpenSpec.upto commandMeetsSpec)

/-- 'althinglaw05.CommandPart', WHERE WHAT IT READS IS OF BULK AT MOST 1048576: true; the input reads as it did. -/
def commandPartUptoRow : OpenClaim := { program := "ytnjeeedndnfglaa", sum := "543deda7515ce8a5c21ed5431203b979b67fda3a87d058eb25f9d38d41d0c9f4", func := "althing/althinglaw05.CommandPart", spec := "commandPart", unfollowed := true, recurses := true, apart := false, narrowed := true }
def CommandPartUptoSaid : Prop := commandPartUptoRow.holds Try.pinned (OpenSpec.upto commandPartSpec)

/-- 'althinglaw05.CommandWhole', WHERE WHAT IT READS IS OF BULK AT MOST 1048576: true; the input reads as it did. -/
def commandWholeUptoRow : OpenClaim := { program := "ytnjeeedndnfglaa", sum := "543deda7515ce8a5c21ed5431203b979b67fda3a87d058eb25f9d38d41d0c9f4", func := "althing/althinglaw05.CommandWhole", spec := "commandWhole", unfollowed := true, recurses := true, apart := false, narrowed := true }
def CommandWholeUptoSaid : Prop := commandWholeUptoRow.holds Try.pinned (OpenSpec.upto commandWholeSpec)

/-- 'althinglaw05.CommandParts', WHERE WHAT IT READS IS OF BULK AT MOST 1048576: true; the input reads as it did. -/
def commandPartsUptoRow : OpenClaim := { program := "ytnjeeedndnfglaa", sum := "543deda7515ce8a5c21ed5431203b979b67fda3a87d058eb25f9d38d41d0c9f4", func := "althing/althinglaw05.CommandParts", spec := "commandParts", unfollowed := true, recurses := true, apart := false, narrowed := true }
def CommandPartsUptoSaid : Prop := commandPartsUptoRow.holds Try.pinned (OpenSpec.upto commandPartsSpec)

end Rows
end Go.Proofs.Ytnjeeedndnfglaa
