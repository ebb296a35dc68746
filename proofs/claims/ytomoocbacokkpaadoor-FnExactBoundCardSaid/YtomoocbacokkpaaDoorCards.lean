/-
  DERIVED. GIVEN WITH THE SEED: THE CARDS: each row of YtomoocbacokkpaaDoorRows.lean that lists a variable, with what it lists TIED to the program's text (the seventh form; the later family's looks); each row that meets fmt, with fmt's text TOLD by the authors' own Lean function (tested against real Go, not proved from fmt's source: count such statements apart). THE CARD IS WHAT COUNTS. Prove the row's statement (the work); the ties are given (YtomoocbacokkpaaDoorTie.lean); close each card by the builder's one call (the guide's Derived/Test/ToyasCard.lean, 'card_holds'). Laid BY PROGRAM, IN A SANDBOX (cutbox-door.mjs). By AI agents, Wed Nov 11 2026. No macro, syntax, notation, axiom, sorry.
-/
import Derived.Test.YtomoocbacokkpaaDoorRows
import GoSem.ClaimSeven
namespace Go.Proofs.YtomoocbacokkpaaDoor
namespace Rows

/-- THE TIED CARD OF 'laws.FnExactMachineOK'. -/
def fnExactMachineOKCard : Claim7 := { stood := { row := fnExactMachineOKRow, standIns := [], harness := (true, "0c478135c9d7c0692676b0b623ffb8bbeb38289a65a01385d0aed909164a01c4"), looks := false }, kinds := [], alts := [], laidByText := true, laidKinds := [.mapped], laidTests := true, laidLooks := .later }
def FnExactMachineOKCardSaid : Prop := Claim7.holds Tryd.pinned (.plain (OpenSpec.ofChange fnExactMachineOKSpec)) fnExactMachineOKCard

/-- THE TIED CARD OF 'laws.FnExactBound'. -/
def fnExactBoundCard : Claim7 := { stood := { row := fnExactBoundRow, standIns := [], harness := (true, "0c478135c9d7c0692676b0b623ffb8bbeb38289a65a01385d0aed909164a01c4"), looks := false }, kinds := [], alts := [], laidByText := true, laidKinds := [.mapped], laidTests := true, laidLooks := .later }
def FnExactBoundCardSaid : Prop := Claim7.holds Tryd.pinned (.plain (OpenSpec.ofChange fnExactBoundSpec)) fnExactBoundCard

/-- THE TIED CARD OF 'laws.FnExactCells'. -/
def fnExactCellsCard : Claim7 := { stood := { row := fnExactCellsRow, standIns := [], harness := (true, "0c478135c9d7c0692676b0b623ffb8bbeb38289a65a01385d0aed909164a01c4"), looks := false }, kinds := [], alts := [], laidByText := true, laidKinds := [.mapped], laidTests := true, laidLooks := .later }
def FnExactCellsCardSaid : Prop := Claim7.holds Tryd.pinned (.plain (OpenSpec.ofChange fnExactCellsSpec)) fnExactCellsCard

/-- THE SECOND FORM's CARD OF 'laws.FnExactMachineOK'. -/
def fnExactMachineOKUptoCard : Claim7 := { stood := { row := fnExactMachineOKUptoRow, standIns := [], harness := (true, "0c478135c9d7c0692676b0b623ffb8bbeb38289a65a01385d0aed909164a01c4"), looks := false }, kinds := [], alts := [], laidByText := true, laidKinds := [.mapped], laidTests := true, laidLooks := .later }
def FnExactMachineOKUptoCardSaid : Prop := Claim7.holds Tryd.pinned (.plain (OpenSpec.upto fnExactMachineOKSpec)) fnExactMachineOKUptoCard

/-- THE SECOND FORM's CARD OF 'laws.FnExactBound'. -/
def fnExactBoundUptoCard : Claim7 := { stood := { row := fnExactBoundUptoRow, standIns := [], harness := (true, "0c478135c9d7c0692676b0b623ffb8bbeb38289a65a01385d0aed909164a01c4"), looks := false }, kinds := [], alts := [], laidByText := true, laidKinds := [.mapped], laidTests := true, laidLooks := .later }
def FnExactBoundUptoCardSaid : Prop := Claim7.holds Tryd.pinned (.plain (OpenSpec.upto fnExactBoundSpec)) fnExactBoundUptoCard

/-- THE SECOND FORM's CARD OF 'laws.FnExactCells'. -/
def fnExactCellsUptoCard : Claim7 := { stood := { row := fnExactCellsUptoRow, standIns := [], harness := (true, "0c478135c9d7c0692676b0b623ffb8bbeb38289a65a01385d0aed909164a01c4"), looks := false }, kinds := [], alts := [], laidByText := true, laidKinds := [.mapped], laidTests := true, laidLooks := .later }
def FnExactCellsUptoCardSaid : Prop := Claim7.holds Tryd.pinned (.plain (OpenSpec.upto fnExactCellsSpec)) fnExactCellsUptoCard
end Rows
end Go.Proofs.YtomoocbacokkpaaDoor
