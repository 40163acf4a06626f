/-
  DERIVED. GIVEN WITH THE SEED: THE CARDS: each row of YthpcpdplcicfoaaGreatDoorRows.lean that lists a variable, with what it lists TIED to the program's text (the seventh form; the later family's looks); each row that meets fmt, with fmt's text TOLD by the authors' own Lean function (tested against real Go, not proved from fmt's source: count such statements apart). THE CARD IS WHAT COUNTS. Prove the row's statement (the work); the ties are given (YthpcpdplcicfoaaGreatDoorTie.lean); close each card by the builder's one call (the guide's Derived/Test/ToyasCard.lean, 'card_holds'). Laid BY PROGRAM, IN A SANDBOX (cutbox-door.mjs). By AI agents, Wed Nov 11 2026. No macro, syntax, notation, axiom, sorry.
-/
import Derived.Test.YthpcpdplcicfoaaGreatDoorRows
import GoSem.ClaimSeven
namespace Go.Proofs.YthpcpdplcicfoaaGreatDoor
namespace Rows

/-- THE TIED CARD OF 'chancerylaw25.ConnBad'. -/
def connBadCard : Claim7 := { stood := { row := connBadRow, standIns := [], harness := (true, "ce5b167fd28bf17c1c1ac6f225d71877bfe11da408033a077bcca5e29283a670"), looks := true }, kinds := [], alts := [], laidByText := true, laidKinds := [.data, .pinned], laidTests := true, laidLooks := .later }
def ConnBadCardSaid : Prop := Claim7.holds Tryz.pinned (.plain (OpenSpec.ofChange connBadSpec)) connBadCard

/-- THE TIED CARD OF 'chancerylaw25.ConnTwice'. -/
def connTwiceCard : Claim7 := { stood := { row := connTwiceRow, standIns := [], harness := (true, "ce5b167fd28bf17c1c1ac6f225d71877bfe11da408033a077bcca5e29283a670"), looks := true }, kinds := [], alts := [], laidByText := true, laidKinds := [.data, .pinned], laidTests := true, laidLooks := .later }
def ConnTwiceCardSaid : Prop := Claim7.holds Tryz.pinned (.plain (OpenSpec.ofChange connTwiceSpec)) connTwiceCard

/-- THE TIED CARD OF 'chancerylaw25.ConnPieces'. -/
def connPiecesCard : Claim7 := { stood := { row := connPiecesRow, standIns := [], harness := (true, "ce5b167fd28bf17c1c1ac6f225d71877bfe11da408033a077bcca5e29283a670"), looks := true }, kinds := [], alts := [], laidByText := true, laidKinds := [.data, .pinned], laidTests := true, laidLooks := .later }
def ConnPiecesCardSaid : Prop := Claim7.holds Tryz.pinned (.plain (OpenSpec.ofChange connPiecesSpec)) connPiecesCard

/-- THE TIED CARD OF 'chancerylaw25.ConnHands'. -/
def connHandsCard : Claim7 := { stood := { row := connHandsRow, standIns := [], harness := (true, "ce5b167fd28bf17c1c1ac6f225d71877bfe11da408033a077bcca5e29283a670"), looks := true }, kinds := [], alts := [], laidByText := true, laidKinds := [.data, .pinned], laidTests := true, laidLooks := .later }
def ConnHandsCardSaid : Prop := Claim7.holds Tryz.pinned (.plain (OpenSpec.ofChange connHandsSpec)) connHandsCard

/-- THE TIED CARD OF 'chancerylaw25.ConnCancels'. -/
def connCancelsCard : Claim7 := { stood := { row := connCancelsRow, standIns := [], harness := (true, "ce5b167fd28bf17c1c1ac6f225d71877bfe11da408033a077bcca5e29283a670"), looks := true }, kinds := [], alts := [], laidByText := true, laidKinds := [.data, .pinned], laidTests := true, laidLooks := .later }
def ConnCancelsCardSaid : Prop := Claim7.holds Tryz.pinned (.plain (OpenSpec.ofChange connCancelsSpec)) connCancelsCard

/-- THE SECOND FORM's CARD OF 'chancerylaw25.ConnBad'. -/
def connBadUptoCard : Claim7 := { stood := { row := connBadUptoRow, standIns := [], harness := (true, "ce5b167fd28bf17c1c1ac6f225d71877bfe11da408033a077bcca5e29283a670"), looks := true }, kinds := [], alts := [], laidByText := true, laidKinds := [.data, .pinned], laidTests := true, laidLooks := .later }
def ConnBadUptoCardSaid : Prop := Claim7.holds Tryz.pinned (.plain (OpenSpec.upto connBadSpec)) connBadUptoCard

/-- THE SECOND FORM's CARD OF 'chancerylaw25.ConnTwice'. -/
def connTwiceUptoCard : Claim7 := { stood := { row := connTwiceUptoRow, standIns := [], harness := (true, "ce5b167fd28bf17c1c1ac6f225d71877bfe11da408033a077bcca5e29283a670"), looks := true }, kinds := [], alts := [], laidByText := true, laidKinds := [.data, .pinned], laidTests := true, laidLooks := .later }
def ConnTwiceUptoCardSaid : Prop := Claim7.holds Tryz.pinned (.plain (OpenSpec.upto connTwiceSpec)) connTwiceUptoCard

/-- THE SECOND FORM's CARD OF 'chancerylaw25.ConnPieces'. -/
def connPiecesUptoCard : Claim7 := { stood := { row := connPiecesUptoRow, standIns := [], harness := (true, "ce5b167fd28bf17c1c1ac6f225d71877bfe11da408033a077bcca5e29283a670"), looks := true }, kinds := [], alts := [], laidByText := true, laidKinds := [.data, .pinned], laidTests := true, laidLooks := .later }
def ConnPiecesUptoCardSaid : Prop := Claim7.holds Tryz.pinned (.plain (OpenSpec.upto connPiecesSpec)) connPiecesUptoCard

/-- THE SECOND FORM's CARD OF 'chancerylaw25.ConnHands'. -/
def connHandsUptoCard : Claim7 := { stood := { row := connHandsUptoRow, standIns := [], harness := (true, "ce5b167fd28bf17c1c1ac6f225d71877bfe11da408033a077bcca5e29283a670"), looks := true }, kinds := [], alts := [], laidByText := true, laidKinds := [.data, .pinned], laidTests := true, laidLooks := .later }
def ConnHandsUptoCardSaid : Prop := Claim7.holds Tryz.pinned (.plain (OpenSpec.upto connHandsSpec)) connHandsUptoCard

/-- THE SECOND FORM's CARD OF 'chancerylaw25.ConnCancels'. -/
def connCancelsUptoCard : Claim7 := { stood := { row := connCancelsUptoRow, standIns := [], harness := (true, "ce5b167fd28bf17c1c1ac6f225d71877bfe11da408033a077bcca5e29283a670"), looks := true }, kinds := [], alts := [], laidByText := true, laidKinds := [.data, .pinned], laidTests := true, laidLooks := .later }
def ConnCancelsUptoCardSaid : Prop := Claim7.holds Tryz.pinned (.plain (OpenSpec.upto connCancelsSpec)) connCancelsUptoCard
end Rows
end Go.Proofs.YthpcpdplcicfoaaGreatDoor
