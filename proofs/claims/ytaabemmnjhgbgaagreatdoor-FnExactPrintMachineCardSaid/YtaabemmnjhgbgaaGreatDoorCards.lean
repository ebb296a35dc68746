/-
  DERIVED. GIVEN WITH THE SEED: THE CARDS: each row of YtaabemmnjhgbgaaGreatDoorRows.lean that lists a variable, with what it lists TIED to the program's text (the seventh form; the later family's looks); each row that meets fmt, with fmt's text TOLD by the authors' own Lean function (tested against real Go, not proved from fmt's source: count such statements apart). THE CARD IS WHAT COUNTS. Prove the row's statement (the work); the ties are given (YtaabemmnjhgbgaaGreatDoorTie.lean); close each card by the builder's one call (the guide's Derived/Test/ToyasCard.lean, 'card_holds'). Laid BY PROGRAM, IN A SANDBOX (cutbox-door.mjs). By AI agents, Wed Nov 11 2026. No macro, syntax, notation, axiom, sorry.
-/
import Derived.Test.YtaabemmnjhgbgaaGreatDoorRows
import GoSem.ClaimSeven
namespace Go.Proofs.YtaabemmnjhgbgaaGreatDoor
namespace Rows

/-- THE TIED CARD OF 'laws.FnExactPrintMachine'. -/
def fnExactPrintMachineCard : Claim7 := { stood := { row := fnExactPrintMachineRow, standIns := [], harness := (true, "b7f69f622f0961e82a242b1d000dcbb3bb0f08d12fded82f40b21231dba44295"), looks := false }, kinds := [], alts := [], laidByText := true, laidKinds := [.data, .data, .data, .mapped, .mapped], laidTests := true, laidLooks := .later }
def FnExactPrintMachineCardSaid : Prop := Claim7.holds Tryz.pinned (.plain (OpenSpec.ofChange fnExactPrintMachineSpec)) fnExactPrintMachineCard

/-- THE SECOND FORM's CARD OF 'laws.FnExactPrintMachine'. -/
def fnExactPrintMachineUptoCard : Claim7 := { stood := { row := fnExactPrintMachineUptoRow, standIns := [], harness := (true, "b7f69f622f0961e82a242b1d000dcbb3bb0f08d12fded82f40b21231dba44295"), looks := false }, kinds := [], alts := [], laidByText := true, laidKinds := [.data, .data, .data, .mapped, .mapped], laidTests := true, laidLooks := .later }
def FnExactPrintMachineUptoCardSaid : Prop := Claim7.holds Tryz.pinned (.plain (OpenSpec.upto fnExactPrintMachineSpec)) fnExactPrintMachineUptoCard
end Rows
end Go.Proofs.YtaabemmnjhgbgaaGreatDoor
