/-
  DERIVED. GIVEN WITH THE SEED: THE CARDS: each row of YtghgkmifoiokjaaDoorRows.lean that lists a variable, with what it lists TIED to the program's text (the seventh form; the later family's looks); each row that meets fmt, with fmt's text TOLD by the authors' own Lean function (tested against real Go, not proved from fmt's source: count such statements apart). THE CARD IS WHAT COUNTS. Prove the row's statement (the work); the ties are given (YtghgkmifoiokjaaDoorTie.lean); close each card by the builder's one call (the guide's Derived/Test/ToyasCard.lean, 'card_holds'). Laid BY PROGRAM, IN A SANDBOX (cutbox-door.mjs). By AI agents, Wed Nov 11 2026. No macro, syntax, notation, axiom, sorry.
-/
import Derived.Test.YtghgkmifoiokjaaDoorRows
import GoSem.ClaimSeven
namespace Go.Proofs.YtghgkmifoiokjaaDoor
namespace Rows

/-- THE TIED CARD OF 'laws.FnExactShapeOK'. -/
def fnExactShapeOKCard : Claim7 := { stood := { row := fnExactShapeOKRow, standIns := [], harness := (true, "a2dda4fcbce4dac43c095d1bb870946211a385cc9e56c6771b5a64217b5869d2"), looks := false }, kinds := [], alts := [], laidByText := true, laidKinds := [.mapped], laidTests := true, laidLooks := .later }
def FnExactShapeOKCardSaid : Prop := Claim7.holds Tryd.pinned (.plain (OpenSpec.ofChange fnExactShapeOKSpec)) fnExactShapeOKCard

/-- THE TIED CARD OF 'laws.FnExactWeight'. -/
def fnExactWeightCard : Claim7 := { stood := { row := fnExactWeightRow, standIns := [], harness := (true, "a2dda4fcbce4dac43c095d1bb870946211a385cc9e56c6771b5a64217b5869d2"), looks := false }, kinds := [], alts := [], laidByText := true, laidKinds := [.mapped], laidTests := true, laidLooks := .later }
def FnExactWeightCardSaid : Prop := Claim7.holds Tryd.pinned (.plain (OpenSpec.ofChange fnExactWeightSpec)) fnExactWeightCard

/-- THE SECOND FORM's CARD OF 'laws.FnExactShapeOK'. -/
def fnExactShapeOKUptoCard : Claim7 := { stood := { row := fnExactShapeOKUptoRow, standIns := [], harness := (true, "a2dda4fcbce4dac43c095d1bb870946211a385cc9e56c6771b5a64217b5869d2"), looks := false }, kinds := [], alts := [], laidByText := true, laidKinds := [.mapped], laidTests := true, laidLooks := .later }
def FnExactShapeOKUptoCardSaid : Prop := Claim7.holds Tryd.pinned (.plain (OpenSpec.upto fnExactShapeOKSpec)) fnExactShapeOKUptoCard

/-- THE SECOND FORM's CARD OF 'laws.FnExactWeight'. -/
def fnExactWeightUptoCard : Claim7 := { stood := { row := fnExactWeightUptoRow, standIns := [], harness := (true, "a2dda4fcbce4dac43c095d1bb870946211a385cc9e56c6771b5a64217b5869d2"), looks := false }, kinds := [], alts := [], laidByText := true, laidKinds := [.mapped], laidTests := true, laidLooks := .later }
def FnExactWeightUptoCardSaid : Prop := Claim7.holds Tryd.pinned (.plain (OpenSpec.upto fnExactWeightSpec)) fnExactWeightUptoCard
end Rows
end Go.Proofs.YtghgkmifoiokjaaDoor
