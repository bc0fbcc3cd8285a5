/-
  DERIVED. GIVEN WITH THE SEED: THE CARDS: each row of YtgffbbcoackfaaaDoorRows.lean that lists a variable, with what it lists TIED to the program's text (the seventh form; the later family's looks); each row that meets fmt, with fmt's text TOLD by the authors' own Lean function (tested against real Go, not proved from fmt's source: count such statements apart). THE CARD IS WHAT COUNTS. Prove the row's statement (the work); the ties are given (YtgffbbcoackfaaaDoorTie.lean); close each card by the builder's one call (the guide's Derived/Test/ToyasCard.lean, 'card_holds'). Laid BY PROGRAM, IN A SANDBOX (cutbox-door.mjs). By AI agents, Wed Nov 11 2026. No macro, syntax, notation, axiom, sorry.
-/
import Derived.Test.YtgffbbcoackfaaaDoorRows
import GoSem.ClaimSeven
namespace Go.Proofs.YtgffbbcoackfaaaDoor
namespace Rows

/-- THE TIED CARD OF 'althinglaw21.ScriptRunes'. -/
def scriptRunesCard : Claim7 := { stood := { row := scriptRunesRow, standIns := [], harness := (true, "af47bdbba6d18d3d5dce92086802f2240f7621c775741200fd37805fb28874ce"), looks := true }, kinds := [], alts := [], laidByText := true, laidKinds := [.data, .pinned], laidTests := true, laidLooks := .later }
def ScriptRunesCardSaid : Prop := Claim7.holds Tryd.pinned (.plain (OpenSpec.ofChange scriptRunesSpec)) scriptRunesCard

/-- THE TIED CARD OF 'althinglaw21.ScriptCounts'. -/
def scriptCountsCard : Claim7 := { stood := { row := scriptCountsRow, standIns := [], harness := (true, "af47bdbba6d18d3d5dce92086802f2240f7621c775741200fd37805fb28874ce"), looks := true }, kinds := [], alts := [], laidByText := true, laidKinds := [.data, .pinned], laidTests := true, laidLooks := .later }
def ScriptCountsCardSaid : Prop := Claim7.holds Tryd.pinned (.plain (OpenSpec.ofChange scriptCountsSpec)) scriptCountsCard

/-- THE TIED CARD OF 'althinglaw21.ScriptParts'. -/
def scriptPartsCard : Claim7 := { stood := { row := scriptPartsRow, standIns := [], harness := (true, "af47bdbba6d18d3d5dce92086802f2240f7621c775741200fd37805fb28874ce"), looks := true }, kinds := [], alts := [], laidByText := true, laidKinds := [.data, .pinned], laidTests := true, laidLooks := .later }
def ScriptPartsCardSaid : Prop := Claim7.holds Tryd.pinned (.plain (OpenSpec.ofChange scriptPartsSpec)) scriptPartsCard

/-- THE TIED CARD OF 'althinglaw21.ScriptBad'. -/
def scriptBadCard : Claim7 := { stood := { row := scriptBadRow, standIns := [], harness := (true, "af47bdbba6d18d3d5dce92086802f2240f7621c775741200fd37805fb28874ce"), looks := true }, kinds := [], alts := [], laidByText := true, laidKinds := [.data, .pinned], laidTests := true, laidLooks := .later }
def ScriptBadCardSaid : Prop := Claim7.holds Tryd.pinned (.plain (OpenSpec.ofChange scriptBadSpec)) scriptBadCard

/-- THE SECOND FORM's CARD OF 'althinglaw21.ScriptRunes'. -/
def scriptRunesUptoCard : Claim7 := { stood := { row := scriptRunesUptoRow, standIns := [], harness := (true, "af47bdbba6d18d3d5dce92086802f2240f7621c775741200fd37805fb28874ce"), looks := true }, kinds := [], alts := [], laidByText := true, laidKinds := [.data, .pinned], laidTests := true, laidLooks := .later }
def ScriptRunesUptoCardSaid : Prop := Claim7.holds Tryd.pinned (.plain (OpenSpec.upto scriptRunesSpec)) scriptRunesUptoCard

/-- THE SECOND FORM's CARD OF 'althinglaw21.ScriptCounts'. -/
def scriptCountsUptoCard : Claim7 := { stood := { row := scriptCountsUptoRow, standIns := [], harness := (true, "af47bdbba6d18d3d5dce92086802f2240f7621c775741200fd37805fb28874ce"), looks := true }, kinds := [], alts := [], laidByText := true, laidKinds := [.data, .pinned], laidTests := true, laidLooks := .later }
def ScriptCountsUptoCardSaid : Prop := Claim7.holds Tryd.pinned (.plain (OpenSpec.upto scriptCountsSpec)) scriptCountsUptoCard

/-- THE SECOND FORM's CARD OF 'althinglaw21.ScriptParts'. -/
def scriptPartsUptoCard : Claim7 := { stood := { row := scriptPartsUptoRow, standIns := [], harness := (true, "af47bdbba6d18d3d5dce92086802f2240f7621c775741200fd37805fb28874ce"), looks := true }, kinds := [], alts := [], laidByText := true, laidKinds := [.data, .pinned], laidTests := true, laidLooks := .later }
def ScriptPartsUptoCardSaid : Prop := Claim7.holds Tryd.pinned (.plain (OpenSpec.upto scriptPartsSpec)) scriptPartsUptoCard

/-- THE SECOND FORM's CARD OF 'althinglaw21.ScriptBad'. -/
def scriptBadUptoCard : Claim7 := { stood := { row := scriptBadUptoRow, standIns := [], harness := (true, "af47bdbba6d18d3d5dce92086802f2240f7621c775741200fd37805fb28874ce"), looks := true }, kinds := [], alts := [], laidByText := true, laidKinds := [.data, .pinned], laidTests := true, laidLooks := .later }
def ScriptBadUptoCardSaid : Prop := Claim7.holds Tryd.pinned (.plain (OpenSpec.upto scriptBadSpec)) scriptBadUptoCard
end Rows
end Go.Proofs.YtgffbbcoackfaaaDoor
