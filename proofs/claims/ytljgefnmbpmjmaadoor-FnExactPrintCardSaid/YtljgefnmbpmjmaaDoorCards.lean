/-
  DERIVED. GIVEN WITH THE SEED: THE CARDS: each row of YtljgefnmbpmjmaaDoorRows.lean that lists a variable, with what it lists TIED to the program's text (the seventh form; the later family's looks); each row that meets fmt, with fmt's text TOLD by the authors' own Lean function (tested against real Go, not proved from fmt's source: count such statements apart). THE CARD IS WHAT COUNTS. Prove the row's statement (the work); the ties are given (YtljgefnmbpmjmaaDoorTie.lean); close each card by the builder's one call (the guide's Derived/Test/ToyasCard.lean, 'card_holds'). Laid BY PROGRAM, IN A SANDBOX (cutbox-door.mjs). By AI agents, Wed Nov 11 2026. No macro, syntax, notation, axiom, sorry.
-/
import Derived.Test.YtljgefnmbpmjmaaDoorRows
import GoSem.ClaimSeven
namespace Go.Proofs.YtljgefnmbpmjmaaDoor
namespace Rows

/-- THE TIED CARD OF 'laws.FnExactPrint'. -/
def fnExactPrintCard : Claim7 := { stood := { row := fnExactPrintRow, standIns := [], harness := (true, "207a0f4e7aca2848b6011316ee0f3a46031e729aa4b0b588feab72cd54dd7bef"), looks := false }, kinds := [], alts := [], laidByText := true, laidKinds := [.data, .data, .data, .mapped, .mapped], laidTests := true, laidLooks := .later }
def FnExactPrintCardSaid : Prop := Claim7.holds Tryd.pinned (.plain (OpenSpec.ofChange fnExactPrintSpec)) fnExactPrintCard

/-- THE TIED CARD OF 'laws.FnExactCheck'. -/
def fnExactCheckCard : Claim7 := { stood := { row := fnExactCheckRow, standIns := [], harness := (true, "207a0f4e7aca2848b6011316ee0f3a46031e729aa4b0b588feab72cd54dd7bef"), looks := false }, kinds := [], alts := [], laidByText := true, laidKinds := [.mapped], laidTests := true, laidLooks := .later }
def FnExactCheckCardSaid : Prop := Claim7.holds Tryd.pinned (.plain (OpenSpec.ofChange fnExactCheckSpec)) fnExactCheckCard

/-- THE SECOND FORM's CARD OF 'laws.FnExactPrint'. -/
def fnExactPrintUptoCard : Claim7 := { stood := { row := fnExactPrintUptoRow, standIns := [], harness := (true, "207a0f4e7aca2848b6011316ee0f3a46031e729aa4b0b588feab72cd54dd7bef"), looks := false }, kinds := [], alts := [], laidByText := true, laidKinds := [.data, .data, .data, .mapped, .mapped], laidTests := true, laidLooks := .later }
def FnExactPrintUptoCardSaid : Prop := Claim7.holds Tryd.pinned (.plain (OpenSpec.upto fnExactPrintSpec)) fnExactPrintUptoCard

/-- THE SECOND FORM's CARD OF 'laws.FnExactCheck'. -/
def fnExactCheckUptoCard : Claim7 := { stood := { row := fnExactCheckUptoRow, standIns := [], harness := (true, "207a0f4e7aca2848b6011316ee0f3a46031e729aa4b0b588feab72cd54dd7bef"), looks := false }, kinds := [], alts := [], laidByText := true, laidKinds := [.mapped], laidTests := true, laidLooks := .later }
def FnExactCheckUptoCardSaid : Prop := Claim7.holds Tryd.pinned (.plain (OpenSpec.upto fnExactCheckSpec)) fnExactCheckUptoCard
end Rows
end Go.Proofs.YtljgefnmbpmjmaaDoor
