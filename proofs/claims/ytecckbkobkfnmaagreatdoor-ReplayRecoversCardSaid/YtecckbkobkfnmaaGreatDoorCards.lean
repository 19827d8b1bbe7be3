/-
  DERIVED. GIVEN WITH THE SEED: THE CARDS: each row of YtecckbkobkfnmaaGreatDoorRows.lean that lists a variable, with what it lists TIED to the program's text (the seventh form; the later family's looks); each row that meets fmt, with fmt's text TOLD by the authors' own Lean function (tested against real Go, not proved from fmt's source: count such statements apart). THE CARD IS WHAT COUNTS. Prove the row's statement (the work); the ties are given (YtecckbkobkfnmaaGreatDoorTie.lean); close each card by the builder's one call (the guide's Derived/Test/ToyasCard.lean, 'card_holds'). Laid BY PROGRAM, IN A SANDBOX (cutbox-door.mjs). By AI agents, Wed Nov 11 2026. No macro, syntax, notation, axiom, sorry.
-/
import Derived.Test.YtecckbkobkfnmaaGreatDoorRows
import GoSem.ClaimSeven
namespace Go.Proofs.YtecckbkobkfnmaaGreatDoor
namespace Rows

/-- THE TIED CARD OF 'rollbacknetlaw34.ReplayRecovers'. -/
def replayRecoversCard : Claim7 := { stood := { row := replayRecoversRow, standIns := [], harness := (true, "7c289b1a2da4d965d0f10cadc1c6fe99fcd338ba2725b2842860b15a5c2f60be"), looks := true }, kinds := [], alts := [], laidByText := true, laidKinds := [.data, .data], laidTests := true, laidLooks := .later }
def ReplayRecoversCardSaid : Prop := Claim7.holds Tryz.pinned (.plain (OpenSpec.ofChange replayRecoversSpec)) replayRecoversCard

/-- THE SECOND FORM's CARD OF 'rollbacknetlaw34.ReplayRecovers'. -/
def replayRecoversUptoCard : Claim7 := { stood := { row := replayRecoversUptoRow, standIns := [], harness := (true, "7c289b1a2da4d965d0f10cadc1c6fe99fcd338ba2725b2842860b15a5c2f60be"), looks := true }, kinds := [], alts := [], laidByText := true, laidKinds := [.data, .data], laidTests := true, laidLooks := .later }
def ReplayRecoversUptoCardSaid : Prop := Claim7.holds Tryz.pinned (.plain (OpenSpec.upto replayRecoversSpec)) replayRecoversUptoCard
end Rows
end Go.Proofs.YtecckbkobkfnmaaGreatDoor
