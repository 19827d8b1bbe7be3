/-
  DERIVED. GIVEN WITH THE SEED: THE CARDS: each row of YtdhklhebgclcoaaGreatDoorRows.lean that lists a variable, with what it lists TIED to the program's text (the seventh form; the later family's looks); each row that meets fmt, with fmt's text TOLD by the authors' own Lean function (tested against real Go, not proved from fmt's source: count such statements apart). THE CARD IS WHAT COUNTS. Prove the row's statement (the work); the ties are given (YtdhklhebgclcoaaGreatDoorTie.lean); close each card by the builder's one call (the guide's Derived/Test/ToyasCard.lean, 'card_holds'). Laid BY PROGRAM, IN A SANDBOX (cutbox-door.mjs). By AI agents, Wed Nov 11 2026. No macro, syntax, notation, axiom, sorry.
-/
import Derived.Test.YtdhklhebgclcoaaGreatDoorRows
import GoSem.ClaimSeven
namespace Go.Proofs.YtdhklhebgclcoaaGreatDoor
namespace Rows

/-- THE TIED CARD OF 'rollbacknetlaw37.LogcollectSends'. -/
def logcollectSendsCard : Claim7 := { stood := { row := logcollectSendsRow, standIns := [], harness := (true, "5681119307845ce2e62e07a5cce6fbb3e24e2e7bd1441dbd84b35714ae58ae5f"), looks := false }, kinds := [], alts := [], laidByText := true, laidKinds := [.data, .data], laidTests := true, laidLooks := .later }
def LogcollectSendsCardSaid : Prop := Claim7.holds Tryz.pinned (.plain (OpenSpec.ofChange logcollectSendsSpec)) logcollectSendsCard

/-- THE TIED CARD OF 'rollbacknetlaw37.LogcollectShrinks'. -/
def logcollectShrinksCard : Claim7 := { stood := { row := logcollectShrinksRow, standIns := [], harness := (true, "5681119307845ce2e62e07a5cce6fbb3e24e2e7bd1441dbd84b35714ae58ae5f"), looks := false }, kinds := [], alts := [], laidByText := true, laidKinds := [.data, .data], laidTests := true, laidLooks := .later }
def LogcollectShrinksCardSaid : Prop := Claim7.holds Tryz.pinned (.plain (OpenSpec.ofChange logcollectShrinksSpec)) logcollectShrinksCard

/-- THE TIED CARD OF 'rollbacknetlaw37.LogcollectSuffices'. -/
def logcollectSufficesCard : Claim7 := { stood := { row := logcollectSufficesRow, standIns := [], harness := (true, "5681119307845ce2e62e07a5cce6fbb3e24e2e7bd1441dbd84b35714ae58ae5f"), looks := false }, kinds := [], alts := [], laidByText := true, laidKinds := [.data, .data], laidTests := true, laidLooks := .later }
def LogcollectSufficesCardSaid : Prop := Claim7.holds Tryz.pinned (.plain (OpenSpec.ofChange logcollectSufficesSpec)) logcollectSufficesCard

/-- THE SECOND FORM's CARD OF 'rollbacknetlaw37.LogcollectSends'. -/
def logcollectSendsUptoCard : Claim7 := { stood := { row := logcollectSendsUptoRow, standIns := [], harness := (true, "5681119307845ce2e62e07a5cce6fbb3e24e2e7bd1441dbd84b35714ae58ae5f"), looks := false }, kinds := [], alts := [], laidByText := true, laidKinds := [.data, .data], laidTests := true, laidLooks := .later }
def LogcollectSendsUptoCardSaid : Prop := Claim7.holds Tryz.pinned (.plain (OpenSpec.upto logcollectSendsSpec)) logcollectSendsUptoCard

/-- THE SECOND FORM's CARD OF 'rollbacknetlaw37.LogcollectShrinks'. -/
def logcollectShrinksUptoCard : Claim7 := { stood := { row := logcollectShrinksUptoRow, standIns := [], harness := (true, "5681119307845ce2e62e07a5cce6fbb3e24e2e7bd1441dbd84b35714ae58ae5f"), looks := false }, kinds := [], alts := [], laidByText := true, laidKinds := [.data, .data], laidTests := true, laidLooks := .later }
def LogcollectShrinksUptoCardSaid : Prop := Claim7.holds Tryz.pinned (.plain (OpenSpec.upto logcollectShrinksSpec)) logcollectShrinksUptoCard

/-- THE SECOND FORM's CARD OF 'rollbacknetlaw37.LogcollectSuffices'. -/
def logcollectSufficesUptoCard : Claim7 := { stood := { row := logcollectSufficesUptoRow, standIns := [], harness := (true, "5681119307845ce2e62e07a5cce6fbb3e24e2e7bd1441dbd84b35714ae58ae5f"), looks := false }, kinds := [], alts := [], laidByText := true, laidKinds := [.data, .data], laidTests := true, laidLooks := .later }
def LogcollectSufficesUptoCardSaid : Prop := Claim7.holds Tryz.pinned (.plain (OpenSpec.upto logcollectSufficesSpec)) logcollectSufficesUptoCard
end Rows
end Go.Proofs.YtdhklhebgclcoaaGreatDoor
