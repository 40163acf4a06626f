/-
  DERIVED. GIVEN WITH THE SEED: THE CARDS: each row of YthjaiigijbjloaaGreatDoorRows.lean that lists a variable, with what it lists TIED to the program's text (the seventh form; the later family's looks); each row that meets fmt, with fmt's text TOLD by the authors' own Lean function (tested against real Go, not proved from fmt's source: count such statements apart). THE CARD IS WHAT COUNTS. Prove the row's statement (the work); the ties are given (YthjaiigijbjloaaGreatDoorTie.lean); close each card by the builder's one call (the guide's Derived/Test/ToyasCard.lean, 'card_holds'). Laid BY PROGRAM, IN A SANDBOX (cutbox-door.mjs). By AI agents, Wed Nov 11 2026. No macro, syntax, notation, axiom, sorry.
-/
import Derived.Test.YthjaiigijbjloaaGreatDoorRows
import GoSem.ClaimSeven
namespace Go.Proofs.YthjaiigijbjloaaGreatDoor
namespace Rows

/-- THE TIED CARD OF 'chancerylaw9.MessageWrites'. -/
def messageWritesCard : Claim7 := { stood := { row := messageWritesRow, standIns := [], harness := (true, "f45da680572ef1b927bdc5d88179b3665b9c19df10b7bbb7ea7cf0f8c1d8e4d1"), looks := true }, kinds := [], alts := [], laidByText := true, laidKinds := [.data, .pinned], laidTests := true, laidLooks := .later }
def MessageWritesCardSaid : Prop := Claim7.holds Tryz.pinned (.plain (OpenSpec.ofChange messageWritesSpec)) messageWritesCard

/-- THE TIED CARD OF 'chancerylaw9.MessageBack'. -/
def messageBackCard : Claim7 := { stood := { row := messageBackRow, standIns := [], harness := (true, "f45da680572ef1b927bdc5d88179b3665b9c19df10b7bbb7ea7cf0f8c1d8e4d1"), looks := true }, kinds := [], alts := [], laidByText := true, laidKinds := [.data, .pinned], laidTests := true, laidLooks := .later }
def MessageBackCardSaid : Prop := Claim7.holds Tryz.pinned (.plain (OpenSpec.ofChange messageBackSpec)) messageBackCard

/-- THE TIED CARD OF 'chancerylaw9.MessageTurned'. -/
def messageTurnedCard : Claim7 := { stood := { row := messageTurnedRow, standIns := [], harness := (true, "f45da680572ef1b927bdc5d88179b3665b9c19df10b7bbb7ea7cf0f8c1d8e4d1"), looks := true }, kinds := [], alts := [], laidByText := true, laidKinds := [.data, .pinned], laidTests := true, laidLooks := .later }
def MessageTurnedCardSaid : Prop := Claim7.holds Tryz.pinned (.plain (OpenSpec.ofChange messageTurnedSpec)) messageTurnedCard

/-- THE TIED CARD OF 'chancerylaw9.MessageFramed'. -/
def messageFramedCard : Claim7 := { stood := { row := messageFramedRow, standIns := [], harness := (true, "f45da680572ef1b927bdc5d88179b3665b9c19df10b7bbb7ea7cf0f8c1d8e4d1"), looks := true }, kinds := [], alts := [], laidByText := true, laidKinds := [.data, .pinned], laidTests := true, laidLooks := .later }
def MessageFramedCardSaid : Prop := Claim7.holds Tryz.pinned (.plain (OpenSpec.ofChange messageFramedSpec)) messageFramedCard

/-- THE TIED CARD OF 'chancerylaw9.MessageReplies'. -/
def messageRepliesCard : Claim7 := { stood := { row := messageRepliesRow, standIns := [], harness := (true, "f45da680572ef1b927bdc5d88179b3665b9c19df10b7bbb7ea7cf0f8c1d8e4d1"), looks := true }, kinds := [], alts := [], laidByText := true, laidKinds := [.data, .pinned], laidTests := true, laidLooks := .later }
def MessageRepliesCardSaid : Prop := Claim7.holds Tryz.pinned (.plain (OpenSpec.ofChange messageRepliesSpec)) messageRepliesCard

/-- THE TIED CARD OF 'chancerylaw9.MessageMakes'. -/
def messageMakesCard : Claim7 := { stood := { row := messageMakesRow, standIns := [], harness := (true, "f45da680572ef1b927bdc5d88179b3665b9c19df10b7bbb7ea7cf0f8c1d8e4d1"), looks := true }, kinds := [], alts := [], laidByText := true, laidKinds := [.data, .pinned], laidTests := true, laidLooks := .later }
def MessageMakesCardSaid : Prop := Claim7.holds Tryz.pinned (.plain (OpenSpec.ofChange messageMakesSpec)) messageMakesCard

/-- THE SECOND FORM's CARD OF 'chancerylaw9.MessageWrites'. -/
def messageWritesUptoCard : Claim7 := { stood := { row := messageWritesUptoRow, standIns := [], harness := (true, "f45da680572ef1b927bdc5d88179b3665b9c19df10b7bbb7ea7cf0f8c1d8e4d1"), looks := true }, kinds := [], alts := [], laidByText := true, laidKinds := [.data, .pinned], laidTests := true, laidLooks := .later }
def MessageWritesUptoCardSaid : Prop := Claim7.holds Tryz.pinned (.plain (OpenSpec.upto messageWritesSpec)) messageWritesUptoCard

/-- THE SECOND FORM's CARD OF 'chancerylaw9.MessageBack'. -/
def messageBackUptoCard : Claim7 := { stood := { row := messageBackUptoRow, standIns := [], harness := (true, "f45da680572ef1b927bdc5d88179b3665b9c19df10b7bbb7ea7cf0f8c1d8e4d1"), looks := true }, kinds := [], alts := [], laidByText := true, laidKinds := [.data, .pinned], laidTests := true, laidLooks := .later }
def MessageBackUptoCardSaid : Prop := Claim7.holds Tryz.pinned (.plain (OpenSpec.upto messageBackSpec)) messageBackUptoCard

/-- THE SECOND FORM's CARD OF 'chancerylaw9.MessageTurned'. -/
def messageTurnedUptoCard : Claim7 := { stood := { row := messageTurnedUptoRow, standIns := [], harness := (true, "f45da680572ef1b927bdc5d88179b3665b9c19df10b7bbb7ea7cf0f8c1d8e4d1"), looks := true }, kinds := [], alts := [], laidByText := true, laidKinds := [.data, .pinned], laidTests := true, laidLooks := .later }
def MessageTurnedUptoCardSaid : Prop := Claim7.holds Tryz.pinned (.plain (OpenSpec.upto messageTurnedSpec)) messageTurnedUptoCard

/-- THE SECOND FORM's CARD OF 'chancerylaw9.MessageFramed'. -/
def messageFramedUptoCard : Claim7 := { stood := { row := messageFramedUptoRow, standIns := [], harness := (true, "f45da680572ef1b927bdc5d88179b3665b9c19df10b7bbb7ea7cf0f8c1d8e4d1"), looks := true }, kinds := [], alts := [], laidByText := true, laidKinds := [.data, .pinned], laidTests := true, laidLooks := .later }
def MessageFramedUptoCardSaid : Prop := Claim7.holds Tryz.pinned (.plain (OpenSpec.upto messageFramedSpec)) messageFramedUptoCard

/-- THE SECOND FORM's CARD OF 'chancerylaw9.MessageReplies'. -/
def messageRepliesUptoCard : Claim7 := { stood := { row := messageRepliesUptoRow, standIns := [], harness := (true, "f45da680572ef1b927bdc5d88179b3665b9c19df10b7bbb7ea7cf0f8c1d8e4d1"), looks := true }, kinds := [], alts := [], laidByText := true, laidKinds := [.data, .pinned], laidTests := true, laidLooks := .later }
def MessageRepliesUptoCardSaid : Prop := Claim7.holds Tryz.pinned (.plain (OpenSpec.upto messageRepliesSpec)) messageRepliesUptoCard

/-- THE SECOND FORM's CARD OF 'chancerylaw9.MessageMakes'. -/
def messageMakesUptoCard : Claim7 := { stood := { row := messageMakesUptoRow, standIns := [], harness := (true, "f45da680572ef1b927bdc5d88179b3665b9c19df10b7bbb7ea7cf0f8c1d8e4d1"), looks := true }, kinds := [], alts := [], laidByText := true, laidKinds := [.data, .pinned], laidTests := true, laidLooks := .later }
def MessageMakesUptoCardSaid : Prop := Claim7.holds Tryz.pinned (.plain (OpenSpec.upto messageMakesSpec)) messageMakesUptoCard
end Rows
end Go.Proofs.YthjaiigijbjloaaGreatDoor
