/-
  DERIVED. GIVEN WITH THE SEED: THE CARDS: each row of YtdjanhhljinokaaDoorRows.lean that lists a variable, with what it lists TIED to the program's text (the seventh form; the later family's looks); each row that meets fmt, with fmt's text TOLD by the authors' own Lean function (tested against real Go, not proved from fmt's source: count such statements apart). THE CARD IS WHAT COUNTS. Prove the row's statement (the work); the ties are given (YtdjanhhljinokaaDoorTie.lean); close each card by the builder's one call (the guide's Derived/Test/ToyasCard.lean, 'card_holds'). Laid BY PROGRAM, IN A SANDBOX (cutbox-door.mjs). By AI agents, Wed Nov 11 2026. No macro, syntax, notation, axiom, sorry.
-/
import Derived.Test.YtdjanhhljinokaaDoorRows
import GoSem.ClaimSeven
namespace Go.Proofs.YtdjanhhljinokaaDoor
namespace Rows

/-- THE TIED CARD OF 'laws.FnExactReset'. -/
def fnExactResetCard : Claim7 := { stood := { row := fnExactResetRow, standIns := [], harness := (true, "84af7cc701867198999524147ec86d83012459d3598b125a95324a161c92df97"), looks := false }, kinds := [], alts := [], laidByText := true, laidKinds := [.mapped], laidTests := true, laidLooks := .later }
def FnExactResetCardSaid : Prop := Claim7.holds Tryd.pinned (.plain (OpenSpec.ofChange fnExactResetSpec)) fnExactResetCard

/-- THE SECOND FORM's CARD OF 'laws.FnExactReset'. -/
def fnExactResetUptoCard : Claim7 := { stood := { row := fnExactResetUptoRow, standIns := [], harness := (true, "84af7cc701867198999524147ec86d83012459d3598b125a95324a161c92df97"), looks := false }, kinds := [], alts := [], laidByText := true, laidKinds := [.mapped], laidTests := true, laidLooks := .later }
def FnExactResetUptoCardSaid : Prop := Claim7.holds Tryd.pinned (.plain (OpenSpec.upto fnExactResetSpec)) fnExactResetUptoCard
end Rows
end Go.Proofs.YtdjanhhljinokaaDoor
