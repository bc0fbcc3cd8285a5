/-
  No cell of these rows narrows 'for every input' (looked for: loops, veiled, ifaces, maps, wideKeys, modest, calm, conditions, laid).
  DERIVED. THE GIVEN ROWS OF THIS SEAT. 13 by the template 'for every input the law returns true; each argument reads behind the call as it read before'; 0 by the template 'total and deterministic' (their statements: YthnmccolfckhdaaTotals.lean).
  GIVEN WITH THE SEED: the statements are not yours to turn. If you find one false, say at which input.
  Laid BY PROGRAM, IN A SANDBOX (cutbox-rows.mjs): the forced cells as the released guide's own fill.sh prints them over the translation f317f9aca9e4e07f… (all of the seat's roots in one cut). By AI agents, Wed Nov 11 2026. No macro, syntax, notation, axiom, sorry.
-/
import Derived.Test.YthnmccolfckhdaaChecked
import GoSem.Claim
import GoSem.ClaimJoined
import GoSem.ClaimMapViews
import Derived.JoinedTies
import Derived.KernelRfl
namespace Go.Proofs.Ythnmccolfckhdaa
/- THE CELL 'sum', in the pinned program and in every row, IS THE sha256 OF THE DUMP (.gsa) THAT YthnmccolfckhdaaProg.lean LOADS. Nothing in Lean hashes anything: it is a label: what it is worth is what the hold of that sum in a sandbox is worth. -/
noncomputable def Try.pinned : Pinned := { name := "ythnmccolfckhdaa", sum := "f317f9aca9e4e07fba90e514f7b16c6a8880c60111cc5be103e0f5d6eea27912", checked := Try.checked }
namespace Rows
def none {H : Type} : Left H := { results := [], args := [] }

/-- 'althinglaw03.DepsJoins': WHATEVER THE INPUT: true; the input reads as it did. -/
def depsJoinsSpec : ChangeSpec := { name := "depsJoins", fn := fun _ => fun
  | [d1, d2, d3, d4] => { results := [.lit (.bool true)], args := [d1, d2, d3, d4] }
  | _ => none }
def depsJoinsRow : OpenClaim := { program := "ythnmccolfckhdaa", sum := "f317f9aca9e4e07fba90e514f7b16c6a8880c60111cc5be103e0f5d6eea27912", func := "althing/althinglaw03.DepsJoins", spec := "depsJoins", apart := false }
def DepsJoinsSaid : Prop := depsJoinsRow.holds Try.pinned (OpenSpec.ofChange depsJoinsSpec)

/-- ITS FALSE NEIGHBOUR: 'it returns false'. Refute it at one input. -/
def depsJoinsWrong : ChangeSpec := { name := "depsJoins", fn := fun _ => fun
  | [d1, d2, d3, d4] => { results := [.lit (.bool false)], args := [d1, d2, d3, d4] }
  | _ => none }
def DepsJoinsWrongFalsely : Prop := depsJoinsRow.holds Try.pinned (OpenSpec.ofChange depsJoinsWrong)

/-- 'althinglaw03.DepsOver': WHATEVER THE INPUT: true; the input reads as it did. -/
def depsOverSpec : ChangeSpec := { name := "depsOver", fn := fun _ => fun
  | [d1, d2, d3] => { results := [.lit (.bool true)], args := [d1, d2, d3] }
  | _ => none }
def depsOverRow : OpenClaim := { program := "ythnmccolfckhdaa", sum := "f317f9aca9e4e07fba90e514f7b16c6a8880c60111cc5be103e0f5d6eea27912", func := "althing/althinglaw03.DepsOver", spec := "depsOver", apart := false }
def DepsOverSaid : Prop := depsOverRow.holds Try.pinned (OpenSpec.ofChange depsOverSpec)

/-- ITS FALSE NEIGHBOUR: 'it returns false'. Refute it at one input. -/
def depsOverWrong : ChangeSpec := { name := "depsOver", fn := fun _ => fun
  | [d1, d2, d3] => { results := [.lit (.bool false)], args := [d1, d2, d3] }
  | _ => none }
def DepsOverWrongFalsely : Prop := depsOverRow.holds Try.pinned (OpenSpec.ofChange depsOverWrong)

/-- 'althinglaw01.QuorumSizes': WHATEVER THE INPUT: true; the input reads as it did. -/
def quorumSizesSpec : ChangeSpec := { name := "quorumSizes", fn := fun _ => fun
  | [d] => { results := [.lit (.bool true)], args := [d] }
  | _ => none }
def quorumSizesRow : OpenClaim := { program := "ythnmccolfckhdaa", sum := "f317f9aca9e4e07fba90e514f7b16c6a8880c60111cc5be103e0f5d6eea27912", func := "althing/althinglaw01.QuorumSizes", spec := "quorumSizes", apart := false }
def QuorumSizesSaid : Prop := quorumSizesRow.holds Try.pinned (OpenSpec.ofChange quorumSizesSpec)

/-- ITS FALSE NEIGHBOUR: 'it returns false'. Refute it at one input. -/
def quorumSizesWrong : ChangeSpec := { name := "quorumSizes", fn := fun _ => fun
  | [d] => { results := [.lit (.bool false)], args := [d] }
  | _ => none }
def QuorumSizesWrongFalsely : Prop := quorumSizesRow.holds Try.pinned (OpenSpec.ofChange quorumSizesWrong)

/-- 'althinglaw01.QuorumMeet': WHATEVER THE INPUT: true; the input reads as it did. -/
def quorumMeetSpec : ChangeSpec := { name := "quorumMeet", fn := fun _ => fun
  | [d1, d2, d3] => { results := [.lit (.bool true)], args := [d1, d2, d3] }
  | _ => none }
def quorumMeetRow : OpenClaim := { program := "ythnmccolfckhdaa", sum := "f317f9aca9e4e07fba90e514f7b16c6a8880c60111cc5be103e0f5d6eea27912", func := "althing/althinglaw01.QuorumMeet", spec := "quorumMeet", apart := false }
def QuorumMeetSaid : Prop := quorumMeetRow.holds Try.pinned (OpenSpec.ofChange quorumMeetSpec)

/-- ITS FALSE NEIGHBOUR: 'it returns false'. Refute it at one input. -/
def quorumMeetWrong : ChangeSpec := { name := "quorumMeet", fn := fun _ => fun
  | [d1, d2, d3] => { results := [.lit (.bool false)], args := [d1, d2, d3] }
  | _ => none }
def QuorumMeetWrongFalsely : Prop := quorumMeetRow.holds Try.pinned (OpenSpec.ofChange quorumMeetWrong)

/-- 'althinglaw01.QuorumFast': WHATEVER THE INPUT: true; the input reads as it did. -/
def quorumFastSpec : ChangeSpec := { name := "quorumFast", fn := fun _ => fun
  | [d1, d2, d3, d4] => { results := [.lit (.bool true)], args := [d1, d2, d3, d4] }
  | _ => none }
def quorumFastRow : OpenClaim := { program := "ythnmccolfckhdaa", sum := "f317f9aca9e4e07fba90e514f7b16c6a8880c60111cc5be103e0f5d6eea27912", func := "althing/althinglaw01.QuorumFast", spec := "quorumFast", apart := false }
def QuorumFastSaid : Prop := quorumFastRow.holds Try.pinned (OpenSpec.ofChange quorumFastSpec)

/-- ITS FALSE NEIGHBOUR: 'it returns false'. Refute it at one input. -/
def quorumFastWrong : ChangeSpec := { name := "quorumFast", fn := fun _ => fun
  | [d1, d2, d3, d4] => { results := [.lit (.bool false)], args := [d1, d2, d3, d4] }
  | _ => none }
def QuorumFastWrongFalsely : Prop := quorumFastRow.holds Try.pinned (OpenSpec.ofChange quorumFastWrong)

/-- 'althinglaw01.QuorumParts': WHATEVER THE INPUT: true; the input reads as it did. -/
def quorumPartsSpec : ChangeSpec := { name := "quorumParts", fn := fun _ => fun
  | [d1, d2] => { results := [.lit (.bool true)], args := [d1, d2] }
  | _ => none }
def quorumPartsRow : OpenClaim := { program := "ythnmccolfckhdaa", sum := "f317f9aca9e4e07fba90e514f7b16c6a8880c60111cc5be103e0f5d6eea27912", func := "althing/althinglaw01.QuorumParts", spec := "quorumParts", apart := false }
def QuorumPartsSaid : Prop := quorumPartsRow.holds Try.pinned (OpenSpec.ofChange quorumPartsSpec)

/-- ITS FALSE NEIGHBOUR: 'it returns false'. Refute it at one input. -/
def quorumPartsWrong : ChangeSpec := { name := "quorumParts", fn := fun _ => fun
  | [d1, d2] => { results := [.lit (.bool false)], args := [d1, d2] }
  | _ => none }
def QuorumPartsWrongFalsely : Prop := quorumPartsRow.holds Try.pinned (OpenSpec.ofChange quorumPartsWrong)

/-- 'althinglaw01.QuorumGrows': WHATEVER THE INPUT: true; the input reads as it did. -/
def quorumGrowsSpec : ChangeSpec := { name := "quorumGrows", fn := fun _ => fun
  | [d1, d2, d3] => { results := [.lit (.bool true)], args := [d1, d2, d3] }
  | _ => none }
def quorumGrowsRow : OpenClaim := { program := "ythnmccolfckhdaa", sum := "f317f9aca9e4e07fba90e514f7b16c6a8880c60111cc5be103e0f5d6eea27912", func := "althing/althinglaw01.QuorumGrows", spec := "quorumGrows", apart := false }
def QuorumGrowsSaid : Prop := quorumGrowsRow.holds Try.pinned (OpenSpec.ofChange quorumGrowsSpec)

/-- ITS FALSE NEIGHBOUR: 'it returns false'. Refute it at one input. -/
def quorumGrowsWrong : ChangeSpec := { name := "quorumGrows", fn := fun _ => fun
  | [d1, d2, d3] => { results := [.lit (.bool false)], args := [d1, d2, d3] }
  | _ => none }
def QuorumGrowsWrongFalsely : Prop := quorumGrowsRow.holds Try.pinned (OpenSpec.ofChange quorumGrowsWrong)

/-- 'althinglaw03.DepsWords': WHATEVER THE INPUT: true; the input reads as it did. -/
def depsWordsSpec : ChangeSpec := { name := "depsWords", fn := fun _ => fun
  | [d1, d2, d3] => { results := [.lit (.bool true)], args := [d1, d2, d3] }
  | _ => none }
def depsWordsRow : OpenClaim := { program := "ythnmccolfckhdaa", sum := "f317f9aca9e4e07fba90e514f7b16c6a8880c60111cc5be103e0f5d6eea27912", func := "althing/althinglaw03.DepsWords", spec := "depsWords", apart := false }
def DepsWordsSaid : Prop := depsWordsRow.holds Try.pinned (OpenSpec.ofChange depsWordsSpec)

/-- ITS FALSE NEIGHBOUR: 'it returns false'. Refute it at one input. -/
def depsWordsWrong : ChangeSpec := { name := "depsWords", fn := fun _ => fun
  | [d1, d2, d3] => { results := [.lit (.bool false)], args := [d1, d2, d3] }
  | _ => none }
def DepsWordsWrongFalsely : Prop := depsWordsRow.holds Try.pinned (OpenSpec.ofChange depsWordsWrong)

/-- 'althinglaw03.DepsPuts': WHATEVER THE INPUT: true; the input reads as it did. -/
def depsPutsSpec : ChangeSpec := { name := "depsPuts", fn := fun _ => fun
  | [d1, d2] => { results := [.lit (.bool true)], args := [d1, d2] }
  | _ => none }
def depsPutsRow : OpenClaim := { program := "ythnmccolfckhdaa", sum := "f317f9aca9e4e07fba90e514f7b16c6a8880c60111cc5be103e0f5d6eea27912", func := "althing/althinglaw03.DepsPuts", spec := "depsPuts", apart := false }
def DepsPutsSaid : Prop := depsPutsRow.holds Try.pinned (OpenSpec.ofChange depsPutsSpec)

/-- ITS FALSE NEIGHBOUR: 'it returns false'. Refute it at one input. -/
def depsPutsWrong : ChangeSpec := { name := "depsPuts", fn := fun _ => fun
  | [d1, d2] => { results := [.lit (.bool false)], args := [d1, d2] }
  | _ => none }
def DepsPutsWrongFalsely : Prop := depsPutsRow.holds Try.pinned (OpenSpec.ofChange depsPutsWrong)

/-- 'althinglaw03.DepsGrow': WHATEVER THE INPUT: true; the input reads as it did. -/
def depsGrowSpec : ChangeSpec := { name := "depsGrow", fn := fun _ => fun
  | [d1, d2, d3] => { results := [.lit (.bool true)], args := [d1, d2, d3] }
  | _ => none }
def depsGrowRow : OpenClaim := { program := "ythnmccolfckhdaa", sum := "f317f9aca9e4e07fba90e514f7b16c6a8880c60111cc5be103e0f5d6eea27912", func := "althing/althinglaw03.DepsGrow", spec := "depsGrow", apart := false }
def DepsGrowSaid : Prop := depsGrowRow.holds Try.pinned (OpenSpec.ofChange depsGrowSpec)

/-- ITS FALSE NEIGHBOUR: 'it returns false'. Refute it at one input. -/
def depsGrowWrong : ChangeSpec := { name := "depsGrow", fn := fun _ => fun
  | [d1, d2, d3] => { results := [.lit (.bool false)], args := [d1, d2, d3] }
  | _ => none }
def DepsGrowWrongFalsely : Prop := depsGrowRow.holds Try.pinned (OpenSpec.ofChange depsGrowWrong)

/-- 'althinglaw01.QuorumPuts': WHATEVER THE INPUT: true; the input reads as it did. -/
def quorumPutsSpec : ChangeSpec := { name := "quorumPuts", fn := fun _ => fun
  | [d1, d2, d3] => { results := [.lit (.bool true)], args := [d1, d2, d3] }
  | _ => none }
def quorumPutsRow : OpenClaim := { program := "ythnmccolfckhdaa", sum := "f317f9aca9e4e07fba90e514f7b16c6a8880c60111cc5be103e0f5d6eea27912", func := "althing/althinglaw01.QuorumPuts", spec := "quorumPuts", apart := false }
def QuorumPutsSaid : Prop := quorumPutsRow.holds Try.pinned (OpenSpec.ofChange quorumPutsSpec)

/-- ITS FALSE NEIGHBOUR: 'it returns false'. Refute it at one input. -/
def quorumPutsWrong : ChangeSpec := { name := "quorumPuts", fn := fun _ => fun
  | [d1, d2, d3] => { results := [.lit (.bool false)], args := [d1, d2, d3] }
  | _ => none }
def QuorumPutsWrongFalsely : Prop := quorumPutsRow.holds Try.pinned (OpenSpec.ofChange quorumPutsWrong)

/-- 'althinglaw01.QuorumSets': WHATEVER THE INPUT: true; the input reads as it did. -/
def quorumSetsSpec : ChangeSpec := { name := "quorumSets", fn := fun _ => fun
  | [d1, d2, d3] => { results := [.lit (.bool true)], args := [d1, d2, d3] }
  | _ => none }
def quorumSetsRow : OpenClaim := { program := "ythnmccolfckhdaa", sum := "f317f9aca9e4e07fba90e514f7b16c6a8880c60111cc5be103e0f5d6eea27912", func := "althing/althinglaw01.QuorumSets", spec := "quorumSets", apart := false }
def QuorumSetsSaid : Prop := quorumSetsRow.holds Try.pinned (OpenSpec.ofChange quorumSetsSpec)

/-- ITS FALSE NEIGHBOUR: 'it returns false'. Refute it at one input. -/
def quorumSetsWrong : ChangeSpec := { name := "quorumSets", fn := fun _ => fun
  | [d1, d2, d3] => { results := [.lit (.bool false)], args := [d1, d2, d3] }
  | _ => none }
def QuorumSetsWrongFalsely : Prop := quorumSetsRow.holds Try.pinned (OpenSpec.ofChange quorumSetsWrong)

/-- 'althinglaw03.DepsLists': WHATEVER THE INPUT: true; the input reads as it did. -/
def depsListsSpec : ChangeSpec := { name := "depsLists", fn := fun _ => fun
  | [d1, d2] => { results := [.lit (.bool true)], args := [d1, d2] }
  | _ => none }
def depsListsRow : OpenClaim := { program := "ythnmccolfckhdaa", sum := "f317f9aca9e4e07fba90e514f7b16c6a8880c60111cc5be103e0f5d6eea27912", func := "althing/althinglaw03.DepsLists", spec := "depsLists", apart := false }
def DepsListsSaid : Prop := depsListsRow.holds Try.pinned (OpenSpec.ofChange depsListsSpec)

/-- ITS FALSE NEIGHBOUR: 'it returns false'. Refute it at one input. -/
def depsListsWrong : ChangeSpec := { name := "depsLists", fn := fun _ => fun
  | [d1, d2] => { results := [.lit (.bool false)], args := [d1, d2] }
  | _ => none }
def DepsListsWrongFalsely : Prop := depsListsRow.holds Try.pinned (OpenSpec.ofChange depsListsWrong)

/- THE SECOND FORM. 'bulk': how many values and letters a reading holds, each counted each time it is reached (what is shared counts as often as it is met; a slice's spare places count too). A statement '..UptoSaid' is the law's where the arguments, and the package variables that the reading takes, are together of bulk at most 1048576: NARROWER than '..Said'. Prove '..Said' where nothing that the law and all that it calls make is longer than what came in: it says more and counts as full. Else prove '..UptoSaid'. A law counts once. -/
mutual
def uptoBulk {H : Type} : DataW H → Nat
  | .lit (.string bytes) => bytes.length + 1
  | .lit _ => 1
  | .nil => 1
  | .ptr d => uptoBulk d + 1
  | .slice elems spare => uptoBulkAll elems + uptoBulkAll spare + 1
  | .agg parts => uptoBulkAll parts + 1
  | .iface _ d => uptoBulk d + 1
  | .map entries => uptoBulkEntries entries + 1
  | .held _ => 1
def uptoBulkAll {H : Type} : List (DataW H) → Nat
  | [] => 0
  | d :: r => uptoBulk d + uptoBulkAll r
def uptoBulkEntries {H : Type} : List (Lit × DataW H) → Nat
  | [] => 0
  | x :: r => uptoBulkEntry x + uptoBulkEntries r
def uptoBulkEntry {H : Type} : Lit × DataW H → Nat
  | (.string bytes, d) => bytes.length + uptoBulk d + 1
  | (_, d) => uptoBulk d + 1
 end
def uptoSmall : (H : Type) → List (DataW H) → Bool := fun _ ds => decide (uptoBulkAll ds ≤ 1048576)
def OpenSpec.upto (s : _root_.Go.ChangeSpec) : _root_.Go.OpenSpec := { _root_.Go.OpenSpec.ofChange s with cond := some uptoSmall }

/-- 'althinglaw03.DepsJoins', WHERE WHAT IT READS IS OF BULK AT MOST 1048576: true; the input reads as it did. -/
def depsJoinsUptoRow : OpenClaim := { program := "ythnmccolfckhdaa", sum := "f317f9aca9e4e07fba90e514f7b16c6a8880c60111cc5be103e0f5d6eea27912", func := "althing/althinglaw03.DepsJoins", spec := "depsJoins", apart := false, narrowed := true }
def DepsJoinsUptoSaid : Prop := depsJoinsUptoRow.holds Try.pinned (OpenSpec.upto depsJoinsSpec)

/-- 'althinglaw03.DepsOver', WHERE WHAT IT READS IS OF BULK AT MOST 1048576: true; the input reads as it did. -/
def depsOverUptoRow : OpenClaim := { program := "ythnmccolfckhdaa", sum := "f317f9aca9e4e07fba90e514f7b16c6a8880c60111cc5be103e0f5d6eea27912", func := "althing/althinglaw03.DepsOver", spec := "depsOver", apart := false, narrowed := true }
def DepsOverUptoSaid : Prop := depsOverUptoRow.holds Try.pinned (OpenSpec.upto depsOverSpec)

/-- 'althinglaw01.QuorumSizes', WHERE WHAT IT READS IS OF BULK AT MOST 1048576: true; the input reads as it did. -/
def quorumSizesUptoRow : OpenClaim := { program := "ythnmccolfckhdaa", sum := "f317f9aca9e4e07fba90e514f7b16c6a8880c60111cc5be103e0f5d6eea27912", func := "althing/althinglaw01.QuorumSizes", spec := "quorumSizes", apart := false, narrowed := true }
def QuorumSizesUptoSaid : Prop := quorumSizesUptoRow.holds Try.pinned (OpenSpec.upto quorumSizesSpec)

/-- 'althinglaw01.QuorumMeet', WHERE WHAT IT READS IS OF BULK AT MOST 1048576: true; the input reads as it did. -/
def quorumMeetUptoRow : OpenClaim := { program := "ythnmccolfckhdaa", sum := "f317f9aca9e4e07fba90e514f7b16c6a8880c60111cc5be103e0f5d6eea27912", func := "althing/althinglaw01.QuorumMeet", spec := "quorumMeet", apart := false, narrowed := true }
def QuorumMeetUptoSaid : Prop := quorumMeetUptoRow.holds Try.pinned (OpenSpec.upto quorumMeetSpec)

/-- 'althinglaw01.QuorumFast', WHERE WHAT IT READS IS OF BULK AT MOST 1048576: true; the input reads as it did. -/
def quorumFastUptoRow : OpenClaim := { program := "ythnmccolfckhdaa", sum := "f317f9aca9e4e07fba90e514f7b16c6a8880c60111cc5be103e0f5d6eea27912", func := "althing/althinglaw01.QuorumFast", spec := "quorumFast", apart := false, narrowed := true }
def QuorumFastUptoSaid : Prop := quorumFastUptoRow.holds Try.pinned (OpenSpec.upto quorumFastSpec)

/-- 'althinglaw01.QuorumParts', WHERE WHAT IT READS IS OF BULK AT MOST 1048576: true; the input reads as it did. -/
def quorumPartsUptoRow : OpenClaim := { program := "ythnmccolfckhdaa", sum := "f317f9aca9e4e07fba90e514f7b16c6a8880c60111cc5be103e0f5d6eea27912", func := "althing/althinglaw01.QuorumParts", spec := "quorumParts", apart := false, narrowed := true }
def QuorumPartsUptoSaid : Prop := quorumPartsUptoRow.holds Try.pinned (OpenSpec.upto quorumPartsSpec)

/-- 'althinglaw01.QuorumGrows', WHERE WHAT IT READS IS OF BULK AT MOST 1048576: true; the input reads as it did. -/
def quorumGrowsUptoRow : OpenClaim := { program := "ythnmccolfckhdaa", sum := "f317f9aca9e4e07fba90e514f7b16c6a8880c60111cc5be103e0f5d6eea27912", func := "althing/althinglaw01.QuorumGrows", spec := "quorumGrows", apart := false, narrowed := true }
def QuorumGrowsUptoSaid : Prop := quorumGrowsUptoRow.holds Try.pinned (OpenSpec.upto quorumGrowsSpec)

/-- 'althinglaw03.DepsWords', WHERE WHAT IT READS IS OF BULK AT MOST 1048576: true; the input reads as it did. -/
def depsWordsUptoRow : OpenClaim := { program := "ythnmccolfckhdaa", sum := "f317f9aca9e4e07fba90e514f7b16c6a8880c60111cc5be103e0f5d6eea27912", func := "althing/althinglaw03.DepsWords", spec := "depsWords", apart := false, narrowed := true }
def DepsWordsUptoSaid : Prop := depsWordsUptoRow.holds Try.pinned (OpenSpec.upto depsWordsSpec)

/-- 'althinglaw03.DepsPuts', WHERE WHAT IT READS IS OF BULK AT MOST 1048576: true; the input reads as it did. -/
def depsPutsUptoRow : OpenClaim := { program := "ythnmccolfckhdaa", sum := "f317f9aca9e4e07fba90e514f7b16c6a8880c60111cc5be103e0f5d6eea27912", func := "althing/althinglaw03.DepsPuts", spec := "depsPuts", apart := false, narrowed := true }
def DepsPutsUptoSaid : Prop := depsPutsUptoRow.holds Try.pinned (OpenSpec.upto depsPutsSpec)

/-- 'althinglaw03.DepsGrow', WHERE WHAT IT READS IS OF BULK AT MOST 1048576: true; the input reads as it did. -/
def depsGrowUptoRow : OpenClaim := { program := "ythnmccolfckhdaa", sum := "f317f9aca9e4e07fba90e514f7b16c6a8880c60111cc5be103e0f5d6eea27912", func := "althing/althinglaw03.DepsGrow", spec := "depsGrow", apart := false, narrowed := true }
def DepsGrowUptoSaid : Prop := depsGrowUptoRow.holds Try.pinned (OpenSpec.upto depsGrowSpec)

/-- 'althinglaw01.QuorumPuts', WHERE WHAT IT READS IS OF BULK AT MOST 1048576: true; the input reads as it did. -/
def quorumPutsUptoRow : OpenClaim := { program := "ythnmccolfckhdaa", sum := "f317f9aca9e4e07fba90e514f7b16c6a8880c60111cc5be103e0f5d6eea27912", func := "althing/althinglaw01.QuorumPuts", spec := "quorumPuts", apart := false, narrowed := true }
def QuorumPutsUptoSaid : Prop := quorumPutsUptoRow.holds Try.pinned (OpenSpec.upto quorumPutsSpec)

/-- 'althinglaw01.QuorumSets', WHERE WHAT IT READS IS OF BULK AT MOST 1048576: true; the input reads as it did. -/
def quorumSetsUptoRow : OpenClaim := { program := "ythnmccolfckhdaa", sum := "f317f9aca9e4e07fba90e514f7b16c6a8880c60111cc5be103e0f5d6eea27912", func := "althing/althinglaw01.QuorumSets", spec := "quorumSets", apart := false, narrowed := true }
def QuorumSetsUptoSaid : Prop := quorumSetsUptoRow.holds Try.pinned (OpenSpec.upto quorumSetsSpec)

/-- 'althinglaw03.DepsLists', WHERE WHAT IT READS IS OF BULK AT MOST 1048576: true; the input reads as it did. -/
def depsListsUptoRow : OpenClaim := { program := "ythnmccolfckhdaa", sum := "f317f9aca9e4e07fba90e514f7b16c6a8880c60111cc5be103e0f5d6eea27912", func := "althing/althinglaw03.DepsLists", spec := "depsLists", apart := false, narrowed := true }
def DepsListsUptoSaid : Prop := depsListsUptoRow.holds Try.pinned (OpenSpec.upto depsListsSpec)

end Rows
end Go.Proofs.Ythnmccolfckhdaa
