/-
  DERIVED. GIVEN WITH THE SEED: THE CARDS: each row of YtecckbkobkfnmaaDoorRows.lean that lists a variable, with what it lists TIED to the program's text (the seventh form; the later family's looks); each row that meets fmt, with fmt's text TOLD by the authors' own Lean function (tested against real Go, not proved from fmt's source: count such statements apart). THE CARD IS WHAT COUNTS. Prove the row's statement (the work); the ties are given (YtecckbkobkfnmaaDoorTie.lean); close each card by the builder's one call (the guide's Derived/Test/ToyasCard.lean, 'card_holds'). Laid BY PROGRAM, IN A SANDBOX (cutbox-door.mjs). By AI agents, Wed Nov 11 2026. No macro, syntax, notation, axiom, sorry.
-/
import Derived.Test.YtecckbkobkfnmaaDoorRows
import GoSem.ClaimSeven
namespace Go.Proofs.YtecckbkobkfnmaaDoor
namespace Rows

/-- THE TIED CARD OF 'rollbacknetlaw34.ReplayStrips'. -/
def replayStripsCard : Claim7 := { stood := { row := replayStripsRow, standIns := [], harness := (true, "a8c726ac3f66732929f2358f9af2fe9eb7b9ecd0e7a0ce9aeea39a5cb9467c35"), looks := true }, kinds := [], alts := [], laidByText := true, laidKinds := [.data, .data], laidTests := true, laidLooks := .later }
def ReplayStripsCardSaid : Prop := Claim7.holds Tryd.pinned (.plain (OpenSpec.ofChange replayStripsSpec)) replayStripsCard

/-- THE TIED CARD OF 'rollbacknetlaw06.ProcessNumbers'. -/
def processNumbersCard : Claim7 := { stood := { row := processNumbersRow, standIns := [], harness := (true, "a8c726ac3f66732929f2358f9af2fe9eb7b9ecd0e7a0ce9aeea39a5cb9467c35"), looks := true }, kinds := [], alts := [], laidByText := true, laidKinds := [.data, .data], laidTests := true, laidLooks := .later }
def ProcessNumbersCardSaid : Prop := Claim7.holds Tryd.pinned (.plain (OpenSpec.ofChange processNumbersSpec)) processNumbersCard

/-- THE TIED CARD OF 'rollbacknetlaw06.ProcessStates'. -/
def processStatesCard : Claim7 := { stood := { row := processStatesRow, standIns := [], harness := (true, "a8c726ac3f66732929f2358f9af2fe9eb7b9ecd0e7a0ce9aeea39a5cb9467c35"), looks := true }, kinds := [], alts := [], laidByText := true, laidKinds := [.data, .data], laidTests := true, laidLooks := .later }
def ProcessStatesCardSaid : Prop := Claim7.holds Tryd.pinned (.plain (OpenSpec.ofChange processStatesSpec)) processStatesCard

/-- THE TIED CARD OF 'rollbacknetlaw06.ProcessLabels'. -/
def processLabelsCard : Claim7 := { stood := { row := processLabelsRow, standIns := [], harness := (true, "a8c726ac3f66732929f2358f9af2fe9eb7b9ecd0e7a0ce9aeea39a5cb9467c35"), looks := true }, kinds := [], alts := [], laidByText := true, laidKinds := [.data, .data], laidTests := true, laidLooks := .later }
def ProcessLabelsCardSaid : Prop := Claim7.holds Tryd.pinned (.plain (OpenSpec.ofChange processLabelsSpec)) processLabelsCard

/-- THE TIED CARD OF 'rollbacknetlaw06.ProcessSame'. -/
def processSameCard : Claim7 := { stood := { row := processSameRow, standIns := [], harness := (true, "a8c726ac3f66732929f2358f9af2fe9eb7b9ecd0e7a0ce9aeea39a5cb9467c35"), looks := true }, kinds := [], alts := [], laidByText := true, laidKinds := [.data, .data], laidTests := true, laidLooks := .later }
def ProcessSameCardSaid : Prop := Claim7.holds Tryd.pinned (.plain (OpenSpec.ofChange processSameSpec)) processSameCard

/-- THE TIED CARD OF 'rollbacknetlaw06.ProcessPrefixes'. -/
def processPrefixesCard : Claim7 := { stood := { row := processPrefixesRow, standIns := [], harness := (true, "a8c726ac3f66732929f2358f9af2fe9eb7b9ecd0e7a0ce9aeea39a5cb9467c35"), looks := true }, kinds := [], alts := [], laidByText := true, laidKinds := [.data, .data], laidTests := true, laidLooks := .later }
def ProcessPrefixesCardSaid : Prop := Claim7.holds Tryd.pinned (.plain (OpenSpec.ofChange processPrefixesSpec)) processPrefixesCard

/-- THE TIED CARD OF 'rollbacknetlaw06.ProcessAsks'. -/
def processAsksCard : Claim7 := { stood := { row := processAsksRow, standIns := [], harness := (true, "a8c726ac3f66732929f2358f9af2fe9eb7b9ecd0e7a0ce9aeea39a5cb9467c35"), looks := true }, kinds := [], alts := [], laidByText := true, laidKinds := [.data, .data], laidTests := true, laidLooks := .later }
def ProcessAsksCardSaid : Prop := Claim7.holds Tryd.pinned (.plain (OpenSpec.ofChange processAsksSpec)) processAsksCard

/-- THE TIED CARD OF 'rollbacknetlaw34.ReplayGaps'. -/
def replayGapsCard : Claim7 := { stood := { row := replayGapsRow, standIns := [], harness := (true, "a8c726ac3f66732929f2358f9af2fe9eb7b9ecd0e7a0ce9aeea39a5cb9467c35"), looks := true }, kinds := [], alts := [], laidByText := true, laidKinds := [.data, .data], laidTests := true, laidLooks := .later }
def ReplayGapsCardSaid : Prop := Claim7.holds Tryd.pinned (.plain (OpenSpec.ofChange replayGapsSpec)) replayGapsCard

/-- THE TIED CARD OF 'rollbacknetlaw34.ReplayReturns'. -/
def replayReturnsCard : Claim7 := { stood := { row := replayReturnsRow, standIns := [], harness := (true, "a8c726ac3f66732929f2358f9af2fe9eb7b9ecd0e7a0ce9aeea39a5cb9467c35"), looks := true }, kinds := [], alts := [], laidByText := true, laidKinds := [.data, .data], laidTests := true, laidLooks := .later }
def ReplayReturnsCardSaid : Prop := Claim7.holds Tryd.pinned (.plain (OpenSpec.ofChange replayReturnsSpec)) replayReturnsCard

/-- THE SECOND FORM's CARD OF 'rollbacknetlaw34.ReplayStrips'. -/
def replayStripsUptoCard : Claim7 := { stood := { row := replayStripsUptoRow, standIns := [], harness := (true, "a8c726ac3f66732929f2358f9af2fe9eb7b9ecd0e7a0ce9aeea39a5cb9467c35"), looks := true }, kinds := [], alts := [], laidByText := true, laidKinds := [.data, .data], laidTests := true, laidLooks := .later }
def ReplayStripsUptoCardSaid : Prop := Claim7.holds Tryd.pinned (.plain (OpenSpec.upto replayStripsSpec)) replayStripsUptoCard

/-- THE SECOND FORM's CARD OF 'rollbacknetlaw06.ProcessNumbers'. -/
def processNumbersUptoCard : Claim7 := { stood := { row := processNumbersUptoRow, standIns := [], harness := (true, "a8c726ac3f66732929f2358f9af2fe9eb7b9ecd0e7a0ce9aeea39a5cb9467c35"), looks := true }, kinds := [], alts := [], laidByText := true, laidKinds := [.data, .data], laidTests := true, laidLooks := .later }
def ProcessNumbersUptoCardSaid : Prop := Claim7.holds Tryd.pinned (.plain (OpenSpec.upto processNumbersSpec)) processNumbersUptoCard

/-- THE SECOND FORM's CARD OF 'rollbacknetlaw06.ProcessStates'. -/
def processStatesUptoCard : Claim7 := { stood := { row := processStatesUptoRow, standIns := [], harness := (true, "a8c726ac3f66732929f2358f9af2fe9eb7b9ecd0e7a0ce9aeea39a5cb9467c35"), looks := true }, kinds := [], alts := [], laidByText := true, laidKinds := [.data, .data], laidTests := true, laidLooks := .later }
def ProcessStatesUptoCardSaid : Prop := Claim7.holds Tryd.pinned (.plain (OpenSpec.upto processStatesSpec)) processStatesUptoCard

/-- THE SECOND FORM's CARD OF 'rollbacknetlaw06.ProcessLabels'. -/
def processLabelsUptoCard : Claim7 := { stood := { row := processLabelsUptoRow, standIns := [], harness := (true, "a8c726ac3f66732929f2358f9af2fe9eb7b9ecd0e7a0ce9aeea39a5cb9467c35"), looks := true }, kinds := [], alts := [], laidByText := true, laidKinds := [.data, .data], laidTests := true, laidLooks := .later }
def ProcessLabelsUptoCardSaid : Prop := Claim7.holds Tryd.pinned (.plain (OpenSpec.upto processLabelsSpec)) processLabelsUptoCard

/-- THE SECOND FORM's CARD OF 'rollbacknetlaw06.ProcessSame'. -/
def processSameUptoCard : Claim7 := { stood := { row := processSameUptoRow, standIns := [], harness := (true, "a8c726ac3f66732929f2358f9af2fe9eb7b9ecd0e7a0ce9aeea39a5cb9467c35"), looks := true }, kinds := [], alts := [], laidByText := true, laidKinds := [.data, .data], laidTests := true, laidLooks := .later }
def ProcessSameUptoCardSaid : Prop := Claim7.holds Tryd.pinned (.plain (OpenSpec.upto processSameSpec)) processSameUptoCard

/-- THE SECOND FORM's CARD OF 'rollbacknetlaw06.ProcessPrefixes'. -/
def processPrefixesUptoCard : Claim7 := { stood := { row := processPrefixesUptoRow, standIns := [], harness := (true, "a8c726ac3f66732929f2358f9af2fe9eb7b9ecd0e7a0ce9aeea39a5cb9467c35"), looks := true }, kinds := [], alts := [], laidByText := true, laidKinds := [.data, .data], laidTests := true, laidLooks := .later }
def ProcessPrefixesUptoCardSaid : Prop := Claim7.holds Tryd.pinned (.plain (OpenSpec.upto processPrefixesSpec)) processPrefixesUptoCard

/-- THE SECOND FORM's CARD OF 'rollbacknetlaw06.ProcessAsks'. -/
def processAsksUptoCard : Claim7 := { stood := { row := processAsksUptoRow, standIns := [], harness := (true, "a8c726ac3f66732929f2358f9af2fe9eb7b9ecd0e7a0ce9aeea39a5cb9467c35"), looks := true }, kinds := [], alts := [], laidByText := true, laidKinds := [.data, .data], laidTests := true, laidLooks := .later }
def ProcessAsksUptoCardSaid : Prop := Claim7.holds Tryd.pinned (.plain (OpenSpec.upto processAsksSpec)) processAsksUptoCard

/-- THE SECOND FORM's CARD OF 'rollbacknetlaw34.ReplayGaps'. -/
def replayGapsUptoCard : Claim7 := { stood := { row := replayGapsUptoRow, standIns := [], harness := (true, "a8c726ac3f66732929f2358f9af2fe9eb7b9ecd0e7a0ce9aeea39a5cb9467c35"), looks := true }, kinds := [], alts := [], laidByText := true, laidKinds := [.data, .data], laidTests := true, laidLooks := .later }
def ReplayGapsUptoCardSaid : Prop := Claim7.holds Tryd.pinned (.plain (OpenSpec.upto replayGapsSpec)) replayGapsUptoCard

/-- THE SECOND FORM's CARD OF 'rollbacknetlaw34.ReplayReturns'. -/
def replayReturnsUptoCard : Claim7 := { stood := { row := replayReturnsUptoRow, standIns := [], harness := (true, "a8c726ac3f66732929f2358f9af2fe9eb7b9ecd0e7a0ce9aeea39a5cb9467c35"), looks := true }, kinds := [], alts := [], laidByText := true, laidKinds := [.data, .data], laidTests := true, laidLooks := .later }
def ReplayReturnsUptoCardSaid : Prop := Claim7.holds Tryd.pinned (.plain (OpenSpec.upto replayReturnsSpec)) replayReturnsUptoCard
end Rows
end Go.Proofs.YtecckbkobkfnmaaDoor
