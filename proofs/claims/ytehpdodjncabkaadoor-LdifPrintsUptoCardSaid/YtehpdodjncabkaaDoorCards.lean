/-
  DERIVED. GIVEN WITH THE SEED: THE CARDS: each row of YtehpdodjncabkaaDoorRows.lean that lists a variable, with what it lists TIED to the program's text (the seventh form; the later family's looks); each row that meets fmt, with fmt's text TOLD by the authors' own Lean function (tested against real Go, not proved from fmt's source: count such statements apart). THE CARD IS WHAT COUNTS. Prove the row's statement (the work); the ties are given (YtehpdodjncabkaaDoorTie.lean); close each card by the builder's one call (the guide's Derived/Test/ToyasCard.lean, 'card_holds'). Laid BY PROGRAM, IN A SANDBOX (cutbox-door.mjs). By AI agents, Wed Nov 11 2026. No macro, syntax, notation, axiom, sorry.
-/
import Derived.Test.YtehpdodjncabkaaDoorRows
import GoSem.ClaimSeven
namespace Go.Proofs.YtehpdodjncabkaaDoor
namespace Rows

/-- THE TIED CARD OF 'chancerylaw18.LdifPrints'. -/
def ldifPrintsCard : Claim7 := { stood := { row := ldifPrintsRow, standIns := [], harness := (true, "0b9ced093e48d59b88e6e2a50b3df385a674fd65979bf1e66d6e6b1bbf83c121"), looks := false }, kinds := [], alts := [], laidByText := true, laidKinds := [.data, .pinned], laidTests := true, laidLooks := .later }
def LdifPrintsCardSaid : Prop := Claim7.holds Tryd.pinned (.plain (OpenSpec.ofChange ldifPrintsSpec)) ldifPrintsCard

/-- THE TIED CARD OF 'chancerylaw18.LdifBack'. -/
def ldifBackCard : Claim7 := { stood := { row := ldifBackRow, standIns := [], harness := (true, "0b9ced093e48d59b88e6e2a50b3df385a674fd65979bf1e66d6e6b1bbf83c121"), looks := false }, kinds := [], alts := [], laidByText := true, laidKinds := [.data, .pinned], laidTests := true, laidLooks := .later }
def LdifBackCardSaid : Prop := Claim7.holds Tryd.pinned (.plain (OpenSpec.ofChange ldifBackSpec)) ldifBackCard

/-- THE TIED CARD OF 'chancerylaw18.LdifOnly'. -/
def ldifOnlyCard : Claim7 := { stood := { row := ldifOnlyRow, standIns := [], harness := (true, "0b9ced093e48d59b88e6e2a50b3df385a674fd65979bf1e66d6e6b1bbf83c121"), looks := false }, kinds := [], alts := [], laidByText := true, laidKinds := [.data, .pinned], laidTests := true, laidLooks := .later }
def LdifOnlyCardSaid : Prop := Claim7.holds Tryd.pinned (.plain (OpenSpec.ofChange ldifOnlySpec)) ldifOnlyCard

/-- THE TIED CARD OF 'chancerylaw18.LdifMany'. -/
def ldifManyCard : Claim7 := { stood := { row := ldifManyRow, standIns := [], harness := (true, "0b9ced093e48d59b88e6e2a50b3df385a674fd65979bf1e66d6e6b1bbf83c121"), looks := false }, kinds := [], alts := [], laidByText := true, laidKinds := [.data, .pinned], laidTests := true, laidLooks := .later }
def LdifManyCardSaid : Prop := Claim7.holds Tryd.pinned (.plain (OpenSpec.ofChange ldifManySpec)) ldifManyCard

/-- THE SECOND FORM's CARD OF 'chancerylaw18.LdifPrints'. -/
def ldifPrintsUptoCard : Claim7 := { stood := { row := ldifPrintsUptoRow, standIns := [], harness := (true, "0b9ced093e48d59b88e6e2a50b3df385a674fd65979bf1e66d6e6b1bbf83c121"), looks := false }, kinds := [], alts := [], laidByText := true, laidKinds := [.data, .pinned], laidTests := true, laidLooks := .later }
def LdifPrintsUptoCardSaid : Prop := Claim7.holds Tryd.pinned (.plain (OpenSpec.upto ldifPrintsSpec)) ldifPrintsUptoCard

/-- THE SECOND FORM's CARD OF 'chancerylaw18.LdifBack'. -/
def ldifBackUptoCard : Claim7 := { stood := { row := ldifBackUptoRow, standIns := [], harness := (true, "0b9ced093e48d59b88e6e2a50b3df385a674fd65979bf1e66d6e6b1bbf83c121"), looks := false }, kinds := [], alts := [], laidByText := true, laidKinds := [.data, .pinned], laidTests := true, laidLooks := .later }
def LdifBackUptoCardSaid : Prop := Claim7.holds Tryd.pinned (.plain (OpenSpec.upto ldifBackSpec)) ldifBackUptoCard

/-- THE SECOND FORM's CARD OF 'chancerylaw18.LdifOnly'. -/
def ldifOnlyUptoCard : Claim7 := { stood := { row := ldifOnlyUptoRow, standIns := [], harness := (true, "0b9ced093e48d59b88e6e2a50b3df385a674fd65979bf1e66d6e6b1bbf83c121"), looks := false }, kinds := [], alts := [], laidByText := true, laidKinds := [.data, .pinned], laidTests := true, laidLooks := .later }
def LdifOnlyUptoCardSaid : Prop := Claim7.holds Tryd.pinned (.plain (OpenSpec.upto ldifOnlySpec)) ldifOnlyUptoCard

/-- THE SECOND FORM's CARD OF 'chancerylaw18.LdifMany'. -/
def ldifManyUptoCard : Claim7 := { stood := { row := ldifManyUptoRow, standIns := [], harness := (true, "0b9ced093e48d59b88e6e2a50b3df385a674fd65979bf1e66d6e6b1bbf83c121"), looks := false }, kinds := [], alts := [], laidByText := true, laidKinds := [.data, .pinned], laidTests := true, laidLooks := .later }
def LdifManyUptoCardSaid : Prop := Claim7.holds Tryd.pinned (.plain (OpenSpec.upto ldifManySpec)) ldifManyUptoCard
end Rows
end Go.Proofs.YtehpdodjncabkaaDoor
