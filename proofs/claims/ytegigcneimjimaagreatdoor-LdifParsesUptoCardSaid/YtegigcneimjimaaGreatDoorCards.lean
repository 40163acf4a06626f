/-
  DERIVED. GIVEN WITH THE SEED: THE CARDS: each row of YtegigcneimjimaaGreatDoorRows.lean that lists a variable, with what it lists TIED to the program's text (the seventh form; the later family's looks); each row that meets fmt, with fmt's text TOLD by the authors' own Lean function (tested against real Go, not proved from fmt's source: count such statements apart). THE CARD IS WHAT COUNTS. Prove the row's statement (the work); the ties are given (YtegigcneimjimaaGreatDoorTie.lean); close each card by the builder's one call (the guide's Derived/Test/ToyasCard.lean, 'card_holds'). Laid BY PROGRAM, IN A SANDBOX (cutbox-door.mjs). By AI agents, Wed Nov 11 2026. No macro, syntax, notation, axiom, sorry.
-/
import Derived.Test.YtegigcneimjimaaGreatDoorRows
import GoSem.ClaimSeven
namespace Go.Proofs.YtegigcneimjimaaGreatDoor
namespace Rows

/-- THE TIED CARD OF 'chancerylaw18.LdifParses'. -/
def ldifParsesCard : Claim7 := { stood := { row := ldifParsesRow, standIns := [], harness := (true, "8c85360ba172826349104d61b3058026572869509cec32fd8518b200e004712f"), looks := true }, kinds := [], alts := [], laidByText := true, laidKinds := [.data, .pinned], laidTests := true, laidLooks := .later }
def LdifParsesCardSaid : Prop := Claim7.holds Tryz.pinned (.plain (OpenSpec.ofChange ldifParsesSpec)) ldifParsesCard

/-- THE TIED CARD OF 'chancerylaw4.DnAll'. -/
def dnAllCard : Claim7 := { stood := { row := dnAllRow, standIns := [], harness := (true, "8c85360ba172826349104d61b3058026572869509cec32fd8518b200e004712f"), looks := true }, kinds := [], alts := [], laidByText := true, laidKinds := [.data, .pinned], laidTests := true, laidLooks := .later }
def DnAllCardSaid : Prop := Claim7.holds Tryz.pinned (.plain (OpenSpec.ofChange dnAllSpec)) dnAllCard

/-- THE TIED CARD OF 'chancerylaw4.DnPrints'. -/
def dnPrintsCard : Claim7 := { stood := { row := dnPrintsRow, standIns := [], harness := (true, "8c85360ba172826349104d61b3058026572869509cec32fd8518b200e004712f"), looks := true }, kinds := [], alts := [], laidByText := true, laidKinds := [.data, .pinned], laidTests := true, laidLooks := .later }
def DnPrintsCardSaid : Prop := Claim7.holds Tryz.pinned (.plain (OpenSpec.ofChange dnPrintsSpec)) dnPrintsCard

/-- THE SECOND FORM's CARD OF 'chancerylaw18.LdifParses'. -/
def ldifParsesUptoCard : Claim7 := { stood := { row := ldifParsesUptoRow, standIns := [], harness := (true, "8c85360ba172826349104d61b3058026572869509cec32fd8518b200e004712f"), looks := true }, kinds := [], alts := [], laidByText := true, laidKinds := [.data, .pinned], laidTests := true, laidLooks := .later }
def LdifParsesUptoCardSaid : Prop := Claim7.holds Tryz.pinned (.plain (OpenSpec.upto ldifParsesSpec)) ldifParsesUptoCard

/-- THE SECOND FORM's CARD OF 'chancerylaw4.DnAll'. -/
def dnAllUptoCard : Claim7 := { stood := { row := dnAllUptoRow, standIns := [], harness := (true, "8c85360ba172826349104d61b3058026572869509cec32fd8518b200e004712f"), looks := true }, kinds := [], alts := [], laidByText := true, laidKinds := [.data, .pinned], laidTests := true, laidLooks := .later }
def DnAllUptoCardSaid : Prop := Claim7.holds Tryz.pinned (.plain (OpenSpec.upto dnAllSpec)) dnAllUptoCard

/-- THE SECOND FORM's CARD OF 'chancerylaw4.DnPrints'. -/
def dnPrintsUptoCard : Claim7 := { stood := { row := dnPrintsUptoRow, standIns := [], harness := (true, "8c85360ba172826349104d61b3058026572869509cec32fd8518b200e004712f"), looks := true }, kinds := [], alts := [], laidByText := true, laidKinds := [.data, .pinned], laidTests := true, laidLooks := .later }
def DnPrintsUptoCardSaid : Prop := Claim7.holds Tryz.pinned (.plain (OpenSpec.upto dnPrintsSpec)) dnPrintsUptoCard
end Rows
end Go.Proofs.YtegigcneimjimaaGreatDoor
