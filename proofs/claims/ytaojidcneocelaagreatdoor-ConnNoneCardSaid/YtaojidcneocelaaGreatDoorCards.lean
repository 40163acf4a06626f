/-
  DERIVED. GIVEN WITH THE SEED: THE CARDS: each row of YtaojidcneocelaaGreatDoorRows.lean that lists a variable, with what it lists TIED to the program's text (the seventh form; the later family's looks); each row that meets fmt, with fmt's text TOLD by the authors' own Lean function (tested against real Go, not proved from fmt's source: count such statements apart). THE CARD IS WHAT COUNTS. Prove the row's statement (the work); the ties are given (YtaojidcneocelaaGreatDoorTie.lean); close each card by the builder's one call (the guide's Derived/Test/ToyasCard.lean, 'card_holds'). Laid BY PROGRAM, IN A SANDBOX (cutbox-door.mjs). By AI agents, Wed Nov 11 2026. No macro, syntax, notation, axiom, sorry.
-/
import Derived.Test.YtaojidcneocelaaGreatDoorRows
import GoSem.ClaimSeven
namespace Go.Proofs.YtaojidcneocelaaGreatDoor
namespace Rows

/-- THE TIED CARD OF 'chancerylaw25.ConnNone'. -/
def connNoneCard : Claim7 := { stood := { row := connNoneRow, standIns := [], harness := (true, "adc6af54fa09544e2203b231da136b7917d1a3cc55b315615ef4ea1c3206ad96"), looks := true }, kinds := [], alts := [], laidByText := true, laidKinds := [.data, .pinned], laidTests := true, laidLooks := .later }
def ConnNoneCardSaid : Prop := Claim7.holds Tryz.pinned (.plain (OpenSpec.ofChange connNoneSpec)) connNoneCard

/-- THE SECOND FORM's CARD OF 'chancerylaw25.ConnNone'. -/
def connNoneUptoCard : Claim7 := { stood := { row := connNoneUptoRow, standIns := [], harness := (true, "adc6af54fa09544e2203b231da136b7917d1a3cc55b315615ef4ea1c3206ad96"), looks := true }, kinds := [], alts := [], laidByText := true, laidKinds := [.data, .pinned], laidTests := true, laidLooks := .later }
def ConnNoneUptoCardSaid : Prop := Claim7.holds Tryz.pinned (.plain (OpenSpec.upto connNoneSpec)) connNoneUptoCard
end Rows
end Go.Proofs.YtaojidcneocelaaGreatDoor
