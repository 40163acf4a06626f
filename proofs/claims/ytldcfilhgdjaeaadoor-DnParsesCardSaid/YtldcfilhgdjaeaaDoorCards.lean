/-
  DERIVED. GIVEN WITH THE SEED: THE CARDS: each row of YtldcfilhgdjaeaaDoorRows.lean that lists a variable, with what it lists TIED to the program's text (the seventh form; the later family's looks); each row that meets fmt, with fmt's text TOLD by the authors' own Lean function (tested against real Go, not proved from fmt's source: count such statements apart). THE CARD IS WHAT COUNTS. Prove the row's statement (the work); the ties are given (YtldcfilhgdjaeaaDoorTie.lean); close each card by the builder's one call (the guide's Derived/Test/ToyasCard.lean, 'card_holds'). Laid BY PROGRAM, IN A SANDBOX (cutbox-door.mjs). By AI agents, Wed Nov 11 2026. No macro, syntax, notation, axiom, sorry.
-/
import Derived.Test.YtldcfilhgdjaeaaDoorRows
import GoSem.ClaimSeven
namespace Go.Proofs.YtldcfilhgdjaeaaDoor
namespace Rows

/-- THE TIED CARD OF 'chancerylaw4.DnBack'. -/
def dnBackCard : Claim7 := { stood := { row := dnBackRow, standIns := [], harness := (true, "69d6221979ee033d502eca4f9078c7d886490cd505d73389b3a8a8fbb53ee601"), looks := true }, kinds := [], alts := [], laidByText := true, laidKinds := [.data, .pinned], laidTests := true, laidLooks := .later }
def DnBackCardSaid : Prop := Claim7.holds Tryd.pinned (.plain (OpenSpec.ofChange dnBackSpec)) dnBackCard

/-- THE TIED CARD OF 'chancerylaw4.DnEscapes'. -/
def dnEscapesCard : Claim7 := { stood := { row := dnEscapesRow, standIns := [], harness := (true, "69d6221979ee033d502eca4f9078c7d886490cd505d73389b3a8a8fbb53ee601"), looks := true }, kinds := [], alts := [], laidByText := true, laidKinds := [.data, .pinned], laidTests := true, laidLooks := .later }
def DnEscapesCardSaid : Prop := Claim7.holds Tryd.pinned (.plain (OpenSpec.ofChange dnEscapesSpec)) dnEscapesCard

/-- THE TIED CARD OF 'chancerylaw4.DnParses'. -/
def dnParsesCard : Claim7 := { stood := { row := dnParsesRow, standIns := [], harness := (true, "69d6221979ee033d502eca4f9078c7d886490cd505d73389b3a8a8fbb53ee601"), looks := true }, kinds := [], alts := [], laidByText := true, laidKinds := [.data, .pinned], laidTests := true, laidLooks := .later }
def DnParsesCardSaid : Prop := Claim7.holds Tryd.pinned (.plain (OpenSpec.ofChange dnParsesSpec)) dnParsesCard

/-- THE TIED CARD OF 'chancerylaw4.DnJoined'. -/
def dnJoinedCard : Claim7 := { stood := { row := dnJoinedRow, standIns := [], harness := (true, "69d6221979ee033d502eca4f9078c7d886490cd505d73389b3a8a8fbb53ee601"), looks := true }, kinds := [], alts := [], laidByText := true, laidKinds := [.data, .pinned], laidTests := true, laidLooks := .later }
def DnJoinedCardSaid : Prop := Claim7.holds Tryd.pinned (.plain (OpenSpec.ofChange dnJoinedSpec)) dnJoinedCard

/-- THE SECOND FORM's CARD OF 'chancerylaw4.DnBack'. -/
def dnBackUptoCard : Claim7 := { stood := { row := dnBackUptoRow, standIns := [], harness := (true, "69d6221979ee033d502eca4f9078c7d886490cd505d73389b3a8a8fbb53ee601"), looks := true }, kinds := [], alts := [], laidByText := true, laidKinds := [.data, .pinned], laidTests := true, laidLooks := .later }
def DnBackUptoCardSaid : Prop := Claim7.holds Tryd.pinned (.plain (OpenSpec.upto dnBackSpec)) dnBackUptoCard

/-- THE SECOND FORM's CARD OF 'chancerylaw4.DnEscapes'. -/
def dnEscapesUptoCard : Claim7 := { stood := { row := dnEscapesUptoRow, standIns := [], harness := (true, "69d6221979ee033d502eca4f9078c7d886490cd505d73389b3a8a8fbb53ee601"), looks := true }, kinds := [], alts := [], laidByText := true, laidKinds := [.data, .pinned], laidTests := true, laidLooks := .later }
def DnEscapesUptoCardSaid : Prop := Claim7.holds Tryd.pinned (.plain (OpenSpec.upto dnEscapesSpec)) dnEscapesUptoCard

/-- THE SECOND FORM's CARD OF 'chancerylaw4.DnParses'. -/
def dnParsesUptoCard : Claim7 := { stood := { row := dnParsesUptoRow, standIns := [], harness := (true, "69d6221979ee033d502eca4f9078c7d886490cd505d73389b3a8a8fbb53ee601"), looks := true }, kinds := [], alts := [], laidByText := true, laidKinds := [.data, .pinned], laidTests := true, laidLooks := .later }
def DnParsesUptoCardSaid : Prop := Claim7.holds Tryd.pinned (.plain (OpenSpec.upto dnParsesSpec)) dnParsesUptoCard

/-- THE SECOND FORM's CARD OF 'chancerylaw4.DnJoined'. -/
def dnJoinedUptoCard : Claim7 := { stood := { row := dnJoinedUptoRow, standIns := [], harness := (true, "69d6221979ee033d502eca4f9078c7d886490cd505d73389b3a8a8fbb53ee601"), looks := true }, kinds := [], alts := [], laidByText := true, laidKinds := [.data, .pinned], laidTests := true, laidLooks := .later }
def DnJoinedUptoCardSaid : Prop := Claim7.holds Tryd.pinned (.plain (OpenSpec.upto dnJoinedSpec)) dnJoinedUptoCard
end Rows
end Go.Proofs.YtldcfilhgdjaeaaDoor
