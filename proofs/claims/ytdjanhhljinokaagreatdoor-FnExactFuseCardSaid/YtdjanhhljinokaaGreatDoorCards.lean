/-
  DERIVED. GIVEN WITH THE SEED: THE CARDS: each row of YtdjanhhljinokaaGreatDoorRows.lean that lists a variable, with what it lists TIED to the program's text (the seventh form; the later family's looks); each row that meets fmt, with fmt's text TOLD by the authors' own Lean function (tested against real Go, not proved from fmt's source: count such statements apart). THE CARD IS WHAT COUNTS. Prove the row's statement (the work); the ties are given (YtdjanhhljinokaaGreatDoorTie.lean); close each card by the builder's one call (the guide's Derived/Test/ToyasCard.lean, 'card_holds'). Laid BY PROGRAM, IN A SANDBOX (cutbox-door.mjs). By AI agents, Wed Nov 11 2026. No macro, syntax, notation, axiom, sorry.
-/
import Derived.Test.YtdjanhhljinokaaGreatDoorRows
import GoSem.ClaimSeven
namespace Go.Proofs.YtdjanhhljinokaaGreatDoor
namespace Rows

/-- THE TIED CARD OF 'laws.FnExactStep'. -/
def fnExactStepCard : Claim7 := { stood := { row := fnExactStepRow, standIns := [], harness := (true, "8170006a64137c9a0d95ca1be39c5f04309760810f47a76fa469645947e48719"), looks := true }, kinds := [], alts := [], laidByText := true, laidKinds := [.mapped], laidTests := true, laidLooks := .later }
def FnExactStepCardSaid : Prop := Claim7.holds Tryz.pinned (.plain (OpenSpec.ofChange fnExactStepSpec)) fnExactStepCard

/-- THE TIED CARD OF 'laws.FnExactFuse'. -/
def fnExactFuseCard : Claim7 := { stood := { row := fnExactFuseRow, standIns := [], harness := (true, "8170006a64137c9a0d95ca1be39c5f04309760810f47a76fa469645947e48719"), looks := true }, kinds := [], alts := [], laidByText := true, laidKinds := [.mapped], laidTests := true, laidLooks := .later }
def FnExactFuseCardSaid : Prop := Claim7.holds Tryz.pinned (.plain (OpenSpec.ofChange fnExactFuseSpec)) fnExactFuseCard

/-- THE TIED CARD OF 'laws.FnExactReadMachine'. -/
def fnExactReadMachineCard : Claim7 := { stood := { row := fnExactReadMachineRow, standIns := [], harness := (true, "8170006a64137c9a0d95ca1be39c5f04309760810f47a76fa469645947e48719"), looks := true }, kinds := [], alts := [], laidByText := true, laidKinds := [.data, .data, .data, .data, .sentinel, .sentinel, .mapped, .mapped, .pinned], laidTests := true, laidLooks := .later }
def FnExactReadMachineCardSaid : Prop := Claim7.holds Tryz.pinned (.plain (OpenSpec.ofChange fnExactReadMachineSpec)) fnExactReadMachineCard

/-- THE TIED CARD OF 'laws.FnExactPlay'. -/
def fnExactPlayCard : Claim7 := { stood := { row := fnExactPlayRow, standIns := [], harness := (true, "8170006a64137c9a0d95ca1be39c5f04309760810f47a76fa469645947e48719"), looks := true }, kinds := [], alts := [], laidByText := true, laidKinds := [.data, .data, .data, .data, .sentinel, .sentinel, .mapped, .mapped, .pinned], laidTests := true, laidLooks := .later }
def FnExactPlayCardSaid : Prop := Claim7.holds Tryz.pinned (.plain (OpenSpec.ofChange fnExactPlaySpec)) fnExactPlayCard

/-- THE SECOND FORM's CARD OF 'laws.FnExactStep'. -/
def fnExactStepUptoCard : Claim7 := { stood := { row := fnExactStepUptoRow, standIns := [], harness := (true, "8170006a64137c9a0d95ca1be39c5f04309760810f47a76fa469645947e48719"), looks := true }, kinds := [], alts := [], laidByText := true, laidKinds := [.mapped], laidTests := true, laidLooks := .later }
def FnExactStepUptoCardSaid : Prop := Claim7.holds Tryz.pinned (.plain (OpenSpec.upto fnExactStepSpec)) fnExactStepUptoCard

/-- THE SECOND FORM's CARD OF 'laws.FnExactFuse'. -/
def fnExactFuseUptoCard : Claim7 := { stood := { row := fnExactFuseUptoRow, standIns := [], harness := (true, "8170006a64137c9a0d95ca1be39c5f04309760810f47a76fa469645947e48719"), looks := true }, kinds := [], alts := [], laidByText := true, laidKinds := [.mapped], laidTests := true, laidLooks := .later }
def FnExactFuseUptoCardSaid : Prop := Claim7.holds Tryz.pinned (.plain (OpenSpec.upto fnExactFuseSpec)) fnExactFuseUptoCard

/-- THE SECOND FORM's CARD OF 'laws.FnExactReadMachine'. -/
def fnExactReadMachineUptoCard : Claim7 := { stood := { row := fnExactReadMachineUptoRow, standIns := [], harness := (true, "8170006a64137c9a0d95ca1be39c5f04309760810f47a76fa469645947e48719"), looks := true }, kinds := [], alts := [], laidByText := true, laidKinds := [.data, .data, .data, .data, .sentinel, .sentinel, .mapped, .mapped, .pinned], laidTests := true, laidLooks := .later }
def FnExactReadMachineUptoCardSaid : Prop := Claim7.holds Tryz.pinned (.plain (OpenSpec.upto fnExactReadMachineSpec)) fnExactReadMachineUptoCard

/-- THE SECOND FORM's CARD OF 'laws.FnExactPlay'. -/
def fnExactPlayUptoCard : Claim7 := { stood := { row := fnExactPlayUptoRow, standIns := [], harness := (true, "8170006a64137c9a0d95ca1be39c5f04309760810f47a76fa469645947e48719"), looks := true }, kinds := [], alts := [], laidByText := true, laidKinds := [.data, .data, .data, .data, .sentinel, .sentinel, .mapped, .mapped, .pinned], laidTests := true, laidLooks := .later }
def FnExactPlayUptoCardSaid : Prop := Claim7.holds Tryz.pinned (.plain (OpenSpec.upto fnExactPlaySpec)) fnExactPlayUptoCard
end Rows
end Go.Proofs.YtdjanhhljinokaaGreatDoor
