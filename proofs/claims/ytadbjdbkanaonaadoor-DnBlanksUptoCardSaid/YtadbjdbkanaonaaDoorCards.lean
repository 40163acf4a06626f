/-
  DERIVED. GIVEN WITH THE SEED: THE CARDS: each row of YtadbjdbkanaonaaDoorRows.lean that lists a variable, with what it lists TIED to the program's text (the seventh form; the later family's looks); each row that meets fmt, with fmt's text TOLD by the authors' own Lean function (tested against real Go, not proved from fmt's source: count such statements apart). THE CARD IS WHAT COUNTS. Prove the row's statement (the work); the ties are given (YtadbjdbkanaonaaDoorTie.lean); close each card by the builder's one call (the guide's Derived/Test/ToyasCard.lean, 'card_holds'). Laid BY PROGRAM, IN A SANDBOX (cutbox-door.mjs). By AI agents, Wed Nov 11 2026. No macro, syntax, notation, axiom, sorry.
-/
import Derived.Test.YtadbjdbkanaonaaDoorRows
import GoSem.ClaimSeven
namespace Go.Proofs.YtadbjdbkanaonaaDoor
namespace Rows

/-- THE TIED CARD OF 'chancerylaw4.DnBlanks'. -/
def dnBlanksCard : Claim7 := { stood := { row := dnBlanksRow, standIns := [], harness := (true, "533d498cb6061fc80aa339f8bf220c9607bc5a7dba374e9ff568a1db2283f702"), looks := true }, kinds := [], alts := [], laidByText := true, laidKinds := [.data, .pinned], laidTests := true, laidLooks := .later }
def DnBlanksCardSaid : Prop := Claim7.holds Tryd.pinned (.plain (OpenSpec.ofChange dnBlanksSpec)) dnBlanksCard

/-- THE SECOND FORM's CARD OF 'chancerylaw4.DnBlanks'. -/
def dnBlanksUptoCard : Claim7 := { stood := { row := dnBlanksUptoRow, standIns := [], harness := (true, "533d498cb6061fc80aa339f8bf220c9607bc5a7dba374e9ff568a1db2283f702"), looks := true }, kinds := [], alts := [], laidByText := true, laidKinds := [.data, .pinned], laidTests := true, laidLooks := .later }
def DnBlanksUptoCardSaid : Prop := Claim7.holds Tryd.pinned (.plain (OpenSpec.upto dnBlanksSpec)) dnBlanksUptoCard
end Rows
end Go.Proofs.YtadbjdbkanaonaaDoor
