/-
  DERIVED. GIVEN WITH THE SEED: THE CARDS: each row of YtcbfaobepmhidaaDoorRows.lean that lists a variable, with what it lists TIED to the program's text (the seventh form; the later family's looks); each row that meets fmt, with fmt's text TOLD by the authors' own Lean function (tested against real Go, not proved from fmt's source: count such statements apart). THE CARD IS WHAT COUNTS. Prove the row's statement (the work); the ties are given (YtcbfaobepmhidaaDoorTie.lean); close each card by the builder's one call (the guide's Derived/Test/ToyasCard.lean, 'card_holds'). Laid BY PROGRAM, IN A SANDBOX (cutbox-door.mjs). By AI agents, Wed Nov 11 2026. No macro, syntax, notation, axiom, sorry.
-/
import Derived.Test.YtcbfaobepmhidaaDoorRows
import GoSem.ClaimSeven
namespace Go.Proofs.YtcbfaobepmhidaaDoor
namespace Rows

/-- THE TIED CARD OF 'distafflaw04.CodeChecks'. -/
def codeChecksCard : Claim7 := { stood := { row := codeChecksRow, standIns := [], harness := (true, "a44d0a9b7959637595a64a15b1517e3f4043189e14651462df9f4ef4f04735db"), looks := true }, kinds := [], alts := [], laidByText := true, laidKinds := [.handle], laidTests := true, laidLooks := .later }
def CodeChecksCardSaid : Prop := Claim7.holds Tryd.pinned (.plain (OpenSpec.ofChange codeChecksSpec)) codeChecksCard

/-- THE TIED CARD OF 'distafflaw04.CodeFields'. -/
def codeFieldsCard : Claim7 := { stood := { row := codeFieldsRow, standIns := [], harness := (true, "a44d0a9b7959637595a64a15b1517e3f4043189e14651462df9f4ef4f04735db"), looks := true }, kinds := [], alts := [], laidByText := true, laidKinds := [.handle], laidTests := true, laidLooks := .later }
def CodeFieldsCardSaid : Prop := Claim7.holds Tryd.pinned (.plain (OpenSpec.ofChange codeFieldsSpec)) codeFieldsCard

/-- THE TIED CARD OF 'distafflaw04.CodeEach'. -/
def codeEachCard : Claim7 := { stood := { row := codeEachRow, standIns := [], harness := (true, "a44d0a9b7959637595a64a15b1517e3f4043189e14651462df9f4ef4f04735db"), looks := true }, kinds := [], alts := [], laidByText := true, laidKinds := [.handle], laidTests := true, laidLooks := .later }
def CodeEachCardSaid : Prop := Claim7.holds Tryd.pinned (.plain (OpenSpec.ofChange codeEachSpec)) codeEachCard

/-- THE TIED CARD OF 'distafflaw04.CodeUnused'. -/
def codeUnusedCard : Claim7 := { stood := { row := codeUnusedRow, standIns := [], harness := (true, "a44d0a9b7959637595a64a15b1517e3f4043189e14651462df9f4ef4f04735db"), looks := true }, kinds := [], alts := [], laidByText := true, laidKinds := [.handle], laidTests := true, laidLooks := .later }
def CodeUnusedCardSaid : Prop := Claim7.holds Tryd.pinned (.plain (OpenSpec.ofChange codeUnusedSpec)) codeUnusedCard

/-- THE TIED CARD OF 'distafflaw04.CodeSides'. -/
def codeSidesCard : Claim7 := { stood := { row := codeSidesRow, standIns := [], harness := (true, "a44d0a9b7959637595a64a15b1517e3f4043189e14651462df9f4ef4f04735db"), looks := true }, kinds := [], alts := [], laidByText := true, laidKinds := [.handle], laidTests := true, laidLooks := .later }
def CodeSidesCardSaid : Prop := Claim7.holds Tryd.pinned (.plain (OpenSpec.ofChange codeSidesSpec)) codeSidesCard

/-- THE TIED CARD OF 'distafflaw04.CodeClients'. -/
def codeClientsCard : Claim7 := { stood := { row := codeClientsRow, standIns := [], harness := (true, "a44d0a9b7959637595a64a15b1517e3f4043189e14651462df9f4ef4f04735db"), looks := true }, kinds := [], alts := [], laidByText := true, laidKinds := [.handle], laidTests := true, laidLooks := .later }
def CodeClientsCardSaid : Prop := Claim7.holds Tryd.pinned (.plain (OpenSpec.ofChange codeClientsSpec)) codeClientsCard

/-- THE TIED CARD OF 'distafflaw04.CodeEdges'. -/
def codeEdgesCard : Claim7 := { stood := { row := codeEdgesRow, standIns := [], harness := (true, "a44d0a9b7959637595a64a15b1517e3f4043189e14651462df9f4ef4f04735db"), looks := true }, kinds := [], alts := [], laidByText := true, laidKinds := [.handle], laidTests := true, laidLooks := .later }
def CodeEdgesCardSaid : Prop := Claim7.holds Tryd.pinned (.plain (OpenSpec.ofChange codeEdgesSpec)) codeEdgesCard

/-- THE TIED CARD OF 'distafflaw04.CodeLibraries'. -/
def codeLibrariesCard : Claim7 := { stood := { row := codeLibrariesRow, standIns := [], harness := (true, "a44d0a9b7959637595a64a15b1517e3f4043189e14651462df9f4ef4f04735db"), looks := true }, kinds := [], alts := [], laidByText := true, laidKinds := [.handle], laidTests := true, laidLooks := .later }
def CodeLibrariesCardSaid : Prop := Claim7.holds Tryd.pinned (.plain (OpenSpec.ofChange codeLibrariesSpec)) codeLibrariesCard

/-- THE SECOND FORM's CARD OF 'distafflaw04.CodeChecks'. -/
def codeChecksUptoCard : Claim7 := { stood := { row := codeChecksUptoRow, standIns := [], harness := (true, "a44d0a9b7959637595a64a15b1517e3f4043189e14651462df9f4ef4f04735db"), looks := true }, kinds := [], alts := [], laidByText := true, laidKinds := [.handle], laidTests := true, laidLooks := .later }
def CodeChecksUptoCardSaid : Prop := Claim7.holds Tryd.pinned (.plain (OpenSpec.upto codeChecksSpec)) codeChecksUptoCard

/-- THE SECOND FORM's CARD OF 'distafflaw04.CodeFields'. -/
def codeFieldsUptoCard : Claim7 := { stood := { row := codeFieldsUptoRow, standIns := [], harness := (true, "a44d0a9b7959637595a64a15b1517e3f4043189e14651462df9f4ef4f04735db"), looks := true }, kinds := [], alts := [], laidByText := true, laidKinds := [.handle], laidTests := true, laidLooks := .later }
def CodeFieldsUptoCardSaid : Prop := Claim7.holds Tryd.pinned (.plain (OpenSpec.upto codeFieldsSpec)) codeFieldsUptoCard

/-- THE SECOND FORM's CARD OF 'distafflaw04.CodeEach'. -/
def codeEachUptoCard : Claim7 := { stood := { row := codeEachUptoRow, standIns := [], harness := (true, "a44d0a9b7959637595a64a15b1517e3f4043189e14651462df9f4ef4f04735db"), looks := true }, kinds := [], alts := [], laidByText := true, laidKinds := [.handle], laidTests := true, laidLooks := .later }
def CodeEachUptoCardSaid : Prop := Claim7.holds Tryd.pinned (.plain (OpenSpec.upto codeEachSpec)) codeEachUptoCard

/-- THE SECOND FORM's CARD OF 'distafflaw04.CodeUnused'. -/
def codeUnusedUptoCard : Claim7 := { stood := { row := codeUnusedUptoRow, standIns := [], harness := (true, "a44d0a9b7959637595a64a15b1517e3f4043189e14651462df9f4ef4f04735db"), looks := true }, kinds := [], alts := [], laidByText := true, laidKinds := [.handle], laidTests := true, laidLooks := .later }
def CodeUnusedUptoCardSaid : Prop := Claim7.holds Tryd.pinned (.plain (OpenSpec.upto codeUnusedSpec)) codeUnusedUptoCard

/-- THE SECOND FORM's CARD OF 'distafflaw04.CodeSides'. -/
def codeSidesUptoCard : Claim7 := { stood := { row := codeSidesUptoRow, standIns := [], harness := (true, "a44d0a9b7959637595a64a15b1517e3f4043189e14651462df9f4ef4f04735db"), looks := true }, kinds := [], alts := [], laidByText := true, laidKinds := [.handle], laidTests := true, laidLooks := .later }
def CodeSidesUptoCardSaid : Prop := Claim7.holds Tryd.pinned (.plain (OpenSpec.upto codeSidesSpec)) codeSidesUptoCard

/-- THE SECOND FORM's CARD OF 'distafflaw04.CodeClients'. -/
def codeClientsUptoCard : Claim7 := { stood := { row := codeClientsUptoRow, standIns := [], harness := (true, "a44d0a9b7959637595a64a15b1517e3f4043189e14651462df9f4ef4f04735db"), looks := true }, kinds := [], alts := [], laidByText := true, laidKinds := [.handle], laidTests := true, laidLooks := .later }
def CodeClientsUptoCardSaid : Prop := Claim7.holds Tryd.pinned (.plain (OpenSpec.upto codeClientsSpec)) codeClientsUptoCard

/-- THE SECOND FORM's CARD OF 'distafflaw04.CodeEdges'. -/
def codeEdgesUptoCard : Claim7 := { stood := { row := codeEdgesUptoRow, standIns := [], harness := (true, "a44d0a9b7959637595a64a15b1517e3f4043189e14651462df9f4ef4f04735db"), looks := true }, kinds := [], alts := [], laidByText := true, laidKinds := [.handle], laidTests := true, laidLooks := .later }
def CodeEdgesUptoCardSaid : Prop := Claim7.holds Tryd.pinned (.plain (OpenSpec.upto codeEdgesSpec)) codeEdgesUptoCard

/-- THE SECOND FORM's CARD OF 'distafflaw04.CodeLibraries'. -/
def codeLibrariesUptoCard : Claim7 := { stood := { row := codeLibrariesUptoRow, standIns := [], harness := (true, "a44d0a9b7959637595a64a15b1517e3f4043189e14651462df9f4ef4f04735db"), looks := true }, kinds := [], alts := [], laidByText := true, laidKinds := [.handle], laidTests := true, laidLooks := .later }
def CodeLibrariesUptoCardSaid : Prop := Claim7.holds Tryd.pinned (.plain (OpenSpec.upto codeLibrariesSpec)) codeLibrariesUptoCard
end Rows
end Go.Proofs.YtcbfaobepmhidaaDoor
