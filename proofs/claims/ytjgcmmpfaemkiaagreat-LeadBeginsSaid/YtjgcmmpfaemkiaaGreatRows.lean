/-
  No cell of these rows narrows 'for every input' (looked for: loops, veiled, ifaces, maps, wideKeys, modest, calm, conditions, laid).
  DERIVED. THE GIVEN ROWS OF THIS SEAT. 5 by the template 'for every input the law returns true; each argument reads behind the call as it read before'; 0 by the template 'total and deterministic' (their statements: YtjgcmmpfaemkiaaGreatTotals.lean).
  GIVEN WITH THE SEED: the statements are not yours to turn. If you find one false, say at which input.
  Laid BY PROGRAM, IN A SANDBOX (cutbox-rows.mjs): the forced cells as the released guide's own fill.sh prints them over the translation 3dcd6b20476f001d… (all of the seat's roots in one cut). By AI agents, Wed Nov 11 2026. No macro, syntax, notation, axiom, sorry.
-/
import Derived.Test.YtjgcmmpfaemkiaaGreatChecked
import GoSem.Claim
import GoSem.ClaimJoined
import GoSem.ClaimMapViews
import Derived.JoinedTies
import Derived.KernelRfl
namespace Go.Proofs.YtjgcmmpfaemkiaaGreat
/- THE CELL 'sum', in the pinned program and in every row, IS THE sha256 OF THE DUMP (.gsa) THAT YtjgcmmpfaemkiaaGreatProg.lean LOADS. Nothing in Lean hashes anything: it is a label: what it is worth is what the hold of that sum in a sandbox is worth. -/
noncomputable def Tryz.pinned : Pinned := { name := "ytjgcmmpfaemkiaagreat", sum := "3dcd6b20476f001d5c4d4ea387801f84d9b5451f30fa20477dcca0857c62ac49", checked := Tryz.checked }
namespace Rows
def none {H : Type} : Left H := { results := [], args := [] }

/-- 'althinglaw14.LeadCommits': WHATEVER THE INPUT: true; the input reads as it did. -/
def leadCommitsSpec : ChangeSpec := { name := "leadCommits", fn := fun _ => fun
  | [d1, d2, d3] => { results := [.lit (.bool true)], args := [d1, d2, d3] }
  | _ => none }
def leadCommitsRow : OpenClaim := { program := "ytjgcmmpfaemkiaagreat", sum := "3dcd6b20476f001d5c4d4ea387801f84d9b5451f30fa20477dcca0857c62ac49", func := "althing/althinglaw14.LeadCommits", spec := "leadCommits", unfollowed := true, recurses := true, apart := false }
def LeadCommitsSaid : Prop := leadCommitsRow.holds Tryz.pinned (OpenSpec.ofChange leadCommitsSpec)

/-- ITS FALSE NEIGHBOUR: 'it returns false'. Refute it at one input. -/
def leadCommitsWrong : ChangeSpec := { name := "leadCommits", fn := fun _ => fun
  | [d1, d2, d3] => { results := [.lit (.bool false)], args := [d1, d2, d3] }
  | _ => none }
def LeadCommitsWrongFalsely : Prop := leadCommitsRow.holds Tryz.pinned (OpenSpec.ofChange leadCommitsWrong)

/-- 'althinglaw14.LeadOnce': WHATEVER THE INPUT: true; the input reads as it did. -/
def leadOnceSpec : ChangeSpec := { name := "leadOnce", fn := fun _ => fun
  | [d1, d2, d3] => { results := [.lit (.bool true)], args := [d1, d2, d3] }
  | _ => none }
def leadOnceRow : OpenClaim := { program := "ytjgcmmpfaemkiaagreat", sum := "3dcd6b20476f001d5c4d4ea387801f84d9b5451f30fa20477dcca0857c62ac49", func := "althing/althinglaw14.LeadOnce", spec := "leadOnce", unfollowed := true, recurses := true, apart := false }
def LeadOnceSaid : Prop := leadOnceRow.holds Tryz.pinned (OpenSpec.ofChange leadOnceSpec)

/-- ITS FALSE NEIGHBOUR: 'it returns false'. Refute it at one input. -/
def leadOnceWrong : ChangeSpec := { name := "leadOnce", fn := fun _ => fun
  | [d1, d2, d3] => { results := [.lit (.bool false)], args := [d1, d2, d3] }
  | _ => none }
def LeadOnceWrongFalsely : Prop := leadOnceRow.holds Tryz.pinned (OpenSpec.ofChange leadOnceWrong)

/-- 'althinglaw14.LeadKeeps': WHATEVER THE INPUT: true; the input reads as it did. -/
def leadKeepsSpec : ChangeSpec := { name := "leadKeeps", fn := fun _ => fun
  | [d1, d2, d3] => { results := [.lit (.bool true)], args := [d1, d2, d3] }
  | _ => none }
def leadKeepsRow : OpenClaim := { program := "ytjgcmmpfaemkiaagreat", sum := "3dcd6b20476f001d5c4d4ea387801f84d9b5451f30fa20477dcca0857c62ac49", func := "althing/althinglaw14.LeadKeeps", spec := "leadKeeps", unfollowed := true, recurses := true, apart := false }
def LeadKeepsSaid : Prop := leadKeepsRow.holds Tryz.pinned (OpenSpec.ofChange leadKeepsSpec)

/-- ITS FALSE NEIGHBOUR: 'it returns false'. Refute it at one input. -/
def leadKeepsWrong : ChangeSpec := { name := "leadKeeps", fn := fun _ => fun
  | [d1, d2, d3] => { results := [.lit (.bool false)], args := [d1, d2, d3] }
  | _ => none }
def LeadKeepsWrongFalsely : Prop := leadKeepsRow.holds Tryz.pinned (OpenSpec.ofChange leadKeepsWrong)

/-- 'althinglaw14.LeadYields': WHATEVER THE INPUT: true; the input reads as it did. -/
def leadYieldsSpec : ChangeSpec := { name := "leadYields", fn := fun _ => fun
  | [d1, d2, d3] => { results := [.lit (.bool true)], args := [d1, d2, d3] }
  | _ => none }
def leadYieldsRow : OpenClaim := { program := "ytjgcmmpfaemkiaagreat", sum := "3dcd6b20476f001d5c4d4ea387801f84d9b5451f30fa20477dcca0857c62ac49", func := "althing/althinglaw14.LeadYields", spec := "leadYields", unfollowed := true, recurses := true, apart := false }
def LeadYieldsSaid : Prop := leadYieldsRow.holds Tryz.pinned (OpenSpec.ofChange leadYieldsSpec)

/-- ITS FALSE NEIGHBOUR: 'it returns false'. Refute it at one input. -/
def leadYieldsWrong : ChangeSpec := { name := "leadYields", fn := fun _ => fun
  | [d1, d2, d3] => { results := [.lit (.bool false)], args := [d1, d2, d3] }
  | _ => none }
def LeadYieldsWrongFalsely : Prop := leadYieldsRow.holds Tryz.pinned (OpenSpec.ofChange leadYieldsWrong)

/-- 'althinglaw14.LeadBegins': WHATEVER THE INPUT: true; the input reads as it did. -/
def leadBeginsSpec : ChangeSpec := { name := "leadBegins", fn := fun _ => fun
  | [d1, d2, d3, d4, d5] => { results := [.lit (.bool true)], args := [d1, d2, d3, d4, d5] }
  | _ => none }
def leadBeginsRow : OpenClaim := { program := "ytjgcmmpfaemkiaagreat", sum := "3dcd6b20476f001d5c4d4ea387801f84d9b5451f30fa20477dcca0857c62ac49", func := "althing/althinglaw14.LeadBegins", spec := "leadBegins", unfollowed := true, recurses := true, apart := false }
def LeadBeginsSaid : Prop := leadBeginsRow.holds Tryz.pinned (OpenSpec.ofChange leadBeginsSpec)

/-- ITS FALSE NEIGHBOUR: 'it returns false'. Refute it at one input. -/
def leadBeginsWrong : ChangeSpec := { name := "leadBegins", fn := fun _ => fun
  | [d1, d2, d3, d4, d5] => { results := [.lit (.bool false)], args := [d1, d2, d3, d4, d5] }
  | _ => none }
def LeadBeginsWrongFalsely : Prop := leadBeginsRow.holds Tryz.pinned (OpenSpec.ofChange leadBeginsWrong)

/- THE SECOND FORM. 'bulk': how many values and letters a reading holds, each counted each time it is reached (what is shared counts as often as it is met; a slice's spare places count too). A statement '..UptoSaid' is the law's where the arguments, and the package variables that the reading takes, are together of bulk at most 1048576: NARROWER than '..Said'. Prove '..Said' where nothing that the law and all that it calls make is longer than what came in: it says more and counts as full. Else prove '..UptoSaid'. A law counts once. -/
mutual
def uptoBulk {H : Type} : DataW H → Nat
  | .lit (.string bytes) => bytes.length + 1
  | .lit _ => 1
  | .nil => 1
  | .ptr d => uptoBulk d + 1
  | .slice elems spare => uptoBulkAll elems + uptoBulkAll spare + 1
  | .agg parts => uptoBulkAll parts + 1
  | .iface _ d => uptoBulk d + 1
  | .map entries => uptoBulkEntries entries + 1
  | .held _ => 1
def uptoBulkAll {H : Type} : List (DataW H) → Nat
  | [] => 0
  | d :: r => uptoBulk d + uptoBulkAll r
def uptoBulkEntries {H : Type} : List (Lit × DataW H) → Nat
  | [] => 0
  | x :: r => uptoBulkEntry x + uptoBulkEntries r
def uptoBulkEntry {H : Type} : Lit × DataW H → Nat
  | (.string bytes, d) => bytes.length + uptoBulk d + 1
  | (_, d) => uptoBulk d + 1
 end
def uptoSmall : (H : Type) → List (DataW H) → Bool := fun _ ds => decide (uptoBulkAll ds ≤ 1048576)
def OpenSpec.upto (s : _root_.Go.ChangeSpec) : _root_.Go.OpenSpec := { _root_.Go.OpenSpec.ofChange s with cond := some uptoSmall }

/-- 'althinglaw14.LeadCommits', WHERE WHAT IT READS IS OF BULK AT MOST 1048576: true; the input reads as it did. -/
def leadCommitsUptoRow : OpenClaim := { program := "ytjgcmmpfaemkiaagreat", sum := "3dcd6b20476f001d5c4d4ea387801f84d9b5451f30fa20477dcca0857c62ac49", func := "althing/althinglaw14.LeadCommits", spec := "leadCommits", unfollowed := true, recurses := true, apart := false, narrowed := true }
def LeadCommitsUptoSaid : Prop := leadCommitsUptoRow.holds Tryz.pinned (OpenSpec.upto leadCommitsSpec)

/-- 'althinglaw14.LeadOnce', WHERE WHAT IT READS IS OF BULK AT MOST 1048576: true; the input reads as it did. -/
def leadOnceUptoRow : OpenClaim := { program := "ytjgcmmpfaemkiaagreat", sum := "3dcd6b20476f001d5c4d4ea387801f84d9b5451f30fa20477dcca0857c62ac49", func := "althing/althinglaw14.LeadOnce", spec := "leadOnce", unfollowed := true, recurses := true, apart := false, narrowed := true }
def LeadOnceUptoSaid : Prop := leadOnceUptoRow.holds Tryz.pinned (OpenSpec.upto leadOnceSpec)

/-- 'althinglaw14.LeadKeeps', WHERE WHAT IT READS IS OF BULK AT MOST 1048576: true; the input reads as it did. -/
def leadKeepsUptoRow : OpenClaim := { program := "ytjgcmmpfaemkiaagreat", sum := "3dcd6b20476f001d5c4d4ea387801f84d9b5451f30fa20477dcca0857c62ac49", func := "althing/althinglaw14.LeadKeeps", spec := "leadKeeps", unfollowed := true, recurses := true, apart := false, narrowed := true }
def LeadKeepsUptoSaid : Prop := leadKeepsUptoRow.holds Tryz.pinned (OpenSpec.upto leadKeepsSpec)

/-- 'althinglaw14.LeadYields', WHERE WHAT IT READS IS OF BULK AT MOST 1048576: true; the input reads as it did. -/
def leadYieldsUptoRow : OpenClaim := { program := "ytjgcmmpfaemkiaagreat", sum := "3dcd6b20476f001d5c4d4ea387801f84d9b5451f30fa20477dcca0857c62ac49", func := "althing/althinglaw14.LeadYields", spec := "leadYields", unfollowed := true, recurses := true, apart := false, narrowed := true }
def LeadYieldsUptoSaid : Prop := leadYieldsUptoRow.holds Tryz.pinned (OpenSpec.upto leadYieldsSpec)

/-- 'althinglaw14.LeadBegins', WHERE WHAT IT READS IS OF BULK AT MOST 1048576: true; the input reads as it did. -/
def leadBeginsUptoRow : OpenClaim := { program := "ytjgcmmpfaemkiaagreat", sum := "3dcd6b20476f001d5c4d4ea387801f84d9b5451f30fa20477dcca0857c62ac49", func := "althing/althinglaw14.LeadBegins", spec := "leadBegins", unfollowed := true, recurses := true, apart := false, narrowed := true }
def LeadBeginsUptoSaid : Prop := leadBeginsUptoRow.holds Tryz.pinned (OpenSpec.upto leadBeginsSpec)

end Rows
end Go.Proofs.YtjgcmmpfaemkiaaGreat
