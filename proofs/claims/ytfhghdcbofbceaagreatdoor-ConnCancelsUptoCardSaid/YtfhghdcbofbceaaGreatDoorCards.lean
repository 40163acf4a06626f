/-
  DERIVED. GIVEN WITH THE SEED: THE CARDS: each row of YtfhghdcbofbceaaGreatDoorRows.lean that lists a variable, with what it lists TIED to the program's text (the seventh form; the later family's looks); each row that meets fmt, with fmt's text TOLD by the authors' own Lean function (tested against real Go, not proved from fmt's source: count such statements apart). THE CARD IS WHAT COUNTS. Prove the row's statement (the work); the ties are given (YtfhghdcbofbceaaGreatDoorTie.lean); close each card by the builder's one call (the guide's Derived/Test/ToyasCard.lean, 'card_holds'). Laid BY PROGRAM, IN A SANDBOX (cutbox-door.mjs). By AI agents, Wed Nov 11 2026. No macro, syntax, notation, axiom, sorry.
-/
import Derived.Test.YtfhghdcbofbceaaGreatDoorRows
import GoSem.ClaimSeven
namespace Go.Proofs.YtfhghdcbofbceaaGreatDoor
namespace Rows

/-- THE TIED CARD OF 'chancerylaw25.ConnCancels'. -/
def connCancelsCard : Claim7 := { stood := { row := connCancelsRow, standIns := [], harness := (true, "e9620863d50ef288ea40443e323d95125f4bf87f94a81883e957f57985b26bb9"), looks := true }, kinds := [], alts := [], laidByText := true, laidKinds := [.data, .pinned], laidTests := true, laidLooks := .later }
def ConnCancelsCardSaid : Prop := Claim7.holds Tryz.pinned (.plain (OpenSpec.ofChange connCancelsSpec)) connCancelsCard

/-- THE SECOND FORM's CARD OF 'chancerylaw25.ConnCancels'. -/
def connCancelsUptoCard : Claim7 := { stood := { row := connCancelsUptoRow, standIns := [], harness := (true, "e9620863d50ef288ea40443e323d95125f4bf87f94a81883e957f57985b26bb9"), looks := true }, kinds := [], alts := [], laidByText := true, laidKinds := [.data, .pinned], laidTests := true, laidLooks := .later }
def ConnCancelsUptoCardSaid : Prop := Claim7.holds Tryz.pinned (.plain (OpenSpec.upto connCancelsSpec)) connCancelsUptoCard
end Rows
end Go.Proofs.YtfhghdcbofbceaaGreatDoor
