/-
  DERIVED. GIVEN WITH THE SEED: THE CARDS: each row of YtipegaojiokppaaGreatDoorRows.lean that lists a variable, with what it lists TIED to the program's text (the seventh form; the later family's looks); each row that meets fmt, with fmt's text TOLD by the authors' own Lean function (tested against real Go, not proved from fmt's source: count such statements apart). THE CARD IS WHAT COUNTS. Prove the row's statement (the work); the ties are given (YtipegaojiokppaaGreatDoorTie.lean); close each card by the builder's one call (the guide's Derived/Test/ToyasCard.lean, 'card_holds'). Laid BY PROGRAM, IN A SANDBOX (cutbox-door.mjs). By AI agents, Wed Nov 11 2026. No macro, syntax, notation, axiom, sorry.
-/
import Derived.Test.YtipegaojiokppaaGreatDoorRows
import GoSem.ClaimSeven
namespace Go.Proofs.YtipegaojiokppaaGreatDoor
namespace Rows

/-- THE TIED CARD OF 'rollbacknetlaw40.IdealPlays'. -/
def idealPlaysCard : Claim7 := { stood := { row := idealPlaysRow, standIns := [], harness := (true, "a80652f6ad3ae43be5b56d281cb063b3cf05e481f3dec7e6b170058eb65bef60"), looks := true }, kinds := [], alts := [], laidByText := true, laidKinds := [.data, .data], laidTests := true, laidLooks := .later }
def IdealPlaysCardSaid : Prop := Claim7.holds Tryz.pinned (.plain (OpenSpec.ofChange idealPlaysSpec)) idealPlaysCard

/-- THE TIED CARD OF 'rollbacknetlaw40.IdealOutputs'. -/
def idealOutputsCard : Claim7 := { stood := { row := idealOutputsRow, standIns := [], harness := (true, "a80652f6ad3ae43be5b56d281cb063b3cf05e481f3dec7e6b170058eb65bef60"), looks := true }, kinds := [], alts := [], laidByText := true, laidKinds := [.data, .data], laidTests := true, laidLooks := .later }
def IdealOutputsCardSaid : Prop := Claim7.holds Tryz.pinned (.plain (OpenSpec.ofChange idealOutputsSpec)) idealOutputsCard

/-- THE TIED CARD OF 'rollbacknetlaw40.IdealPrefixes'. -/
def idealPrefixesCard : Claim7 := { stood := { row := idealPrefixesRow, standIns := [], harness := (true, "a80652f6ad3ae43be5b56d281cb063b3cf05e481f3dec7e6b170058eb65bef60"), looks := true }, kinds := [], alts := [], laidByText := true, laidKinds := [.data, .data], laidTests := true, laidLooks := .later }
def IdealPrefixesCardSaid : Prop := Claim7.holds Tryz.pinned (.plain (OpenSpec.ofChange idealPrefixesSpec)) idealPrefixesCard

/-- THE TIED CARD OF 'rollbacknetlaw40.IdealExchanges'. -/
def idealExchangesCard : Claim7 := { stood := { row := idealExchangesRow, standIns := [], harness := (true, "a80652f6ad3ae43be5b56d281cb063b3cf05e481f3dec7e6b170058eb65bef60"), looks := true }, kinds := [], alts := [], laidByText := true, laidKinds := [.data, .data], laidTests := true, laidLooks := .later }
def IdealExchangesCardSaid : Prop := Claim7.holds Tryz.pinned (.plain (OpenSpec.ofChange idealExchangesSpec)) idealExchangesCard

/-- THE TIED CARD OF 'rollbacknetlaw40.IdealDelivers'. -/
def idealDeliversCard : Claim7 := { stood := { row := idealDeliversRow, standIns := [], harness := (true, "a80652f6ad3ae43be5b56d281cb063b3cf05e481f3dec7e6b170058eb65bef60"), looks := true }, kinds := [], alts := [], laidByText := true, laidKinds := [.data, .data], laidTests := true, laidLooks := .later }
def IdealDeliversCardSaid : Prop := Claim7.holds Tryz.pinned (.plain (OpenSpec.ofChange idealDeliversSpec)) idealDeliversCard

/-- THE TIED CARD OF 'rollbacknetlaw40.IdealReplays'. -/
def idealReplaysCard : Claim7 := { stood := { row := idealReplaysRow, standIns := [], harness := (true, "a80652f6ad3ae43be5b56d281cb063b3cf05e481f3dec7e6b170058eb65bef60"), looks := true }, kinds := [], alts := [], laidByText := true, laidKinds := [.data, .data], laidTests := true, laidLooks := .later }
def IdealReplaysCardSaid : Prop := Claim7.holds Tryz.pinned (.plain (OpenSpec.ofChange idealReplaysSpec)) idealReplaysCard

/-- THE SECOND FORM's CARD OF 'rollbacknetlaw40.IdealPlays'. -/
def idealPlaysUptoCard : Claim7 := { stood := { row := idealPlaysUptoRow, standIns := [], harness := (true, "a80652f6ad3ae43be5b56d281cb063b3cf05e481f3dec7e6b170058eb65bef60"), looks := true }, kinds := [], alts := [], laidByText := true, laidKinds := [.data, .data], laidTests := true, laidLooks := .later }
def IdealPlaysUptoCardSaid : Prop := Claim7.holds Tryz.pinned (.plain (OpenSpec.upto idealPlaysSpec)) idealPlaysUptoCard

/-- THE SECOND FORM's CARD OF 'rollbacknetlaw40.IdealOutputs'. -/
def idealOutputsUptoCard : Claim7 := { stood := { row := idealOutputsUptoRow, standIns := [], harness := (true, "a80652f6ad3ae43be5b56d281cb063b3cf05e481f3dec7e6b170058eb65bef60"), looks := true }, kinds := [], alts := [], laidByText := true, laidKinds := [.data, .data], laidTests := true, laidLooks := .later }
def IdealOutputsUptoCardSaid : Prop := Claim7.holds Tryz.pinned (.plain (OpenSpec.upto idealOutputsSpec)) idealOutputsUptoCard

/-- THE SECOND FORM's CARD OF 'rollbacknetlaw40.IdealPrefixes'. -/
def idealPrefixesUptoCard : Claim7 := { stood := { row := idealPrefixesUptoRow, standIns := [], harness := (true, "a80652f6ad3ae43be5b56d281cb063b3cf05e481f3dec7e6b170058eb65bef60"), looks := true }, kinds := [], alts := [], laidByText := true, laidKinds := [.data, .data], laidTests := true, laidLooks := .later }
def IdealPrefixesUptoCardSaid : Prop := Claim7.holds Tryz.pinned (.plain (OpenSpec.upto idealPrefixesSpec)) idealPrefixesUptoCard

/-- THE SECOND FORM's CARD OF 'rollbacknetlaw40.IdealExchanges'. -/
def idealExchangesUptoCard : Claim7 := { stood := { row := idealExchangesUptoRow, standIns := [], harness := (true, "a80652f6ad3ae43be5b56d281cb063b3cf05e481f3dec7e6b170058eb65bef60"), looks := true }, kinds := [], alts := [], laidByText := true, laidKinds := [.data, .data], laidTests := true, laidLooks := .later }
def IdealExchangesUptoCardSaid : Prop := Claim7.holds Tryz.pinned (.plain (OpenSpec.upto idealExchangesSpec)) idealExchangesUptoCard

/-- THE SECOND FORM's CARD OF 'rollbacknetlaw40.IdealDelivers'. -/
def idealDeliversUptoCard : Claim7 := { stood := { row := idealDeliversUptoRow, standIns := [], harness := (true, "a80652f6ad3ae43be5b56d281cb063b3cf05e481f3dec7e6b170058eb65bef60"), looks := true }, kinds := [], alts := [], laidByText := true, laidKinds := [.data, .data], laidTests := true, laidLooks := .later }
def IdealDeliversUptoCardSaid : Prop := Claim7.holds Tryz.pinned (.plain (OpenSpec.upto idealDeliversSpec)) idealDeliversUptoCard

/-- THE SECOND FORM's CARD OF 'rollbacknetlaw40.IdealReplays'. -/
def idealReplaysUptoCard : Claim7 := { stood := { row := idealReplaysUptoRow, standIns := [], harness := (true, "a80652f6ad3ae43be5b56d281cb063b3cf05e481f3dec7e6b170058eb65bef60"), looks := true }, kinds := [], alts := [], laidByText := true, laidKinds := [.data, .data], laidTests := true, laidLooks := .later }
def IdealReplaysUptoCardSaid : Prop := Claim7.holds Tryz.pinned (.plain (OpenSpec.upto idealReplaysSpec)) idealReplaysUptoCard
end Rows
end Go.Proofs.YtipegaojiokppaaGreatDoor
