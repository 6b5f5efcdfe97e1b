/-
  DERIVED. GIVEN WITH THE SEED: THE CARDS: each row of YtdgcgpapcbjfhaaGreatDoorRows.lean that lists a variable, with what it lists TIED to the program's text (the seventh form; the later family's looks); each row that meets fmt, with fmt's text TOLD by the authors' own Lean function (tested against real Go, not proved from fmt's source: count such statements apart). THE CARD IS WHAT COUNTS. Prove the row's statement (the work); the ties are given (YtdgcgpapcbjfhaaGreatDoorTie.lean); close each card by the builder's one call (the guide's Derived/Test/ToyasCard.lean, 'card_holds'). Laid BY PROGRAM, IN A SANDBOX (cutbox-door.mjs). By AI agents, Wed Nov 11 2026. No macro, syntax, notation, axiom, sorry.
-/
import Derived.Test.YtdgcgpapcbjfhaaGreatDoorRows
import GoSem.ClaimSeven
namespace Go.Proofs.YtdgcgpapcbjfhaaGreatDoor
namespace Rows

/-- THE TIED CARD OF 'tollertop.TopWire'. -/
def topWireCard : Claim7 := { stood := { row := topWireRow, standIns := [], harness := (true, "5bc058755a49d714eaa895b27ce9ab830b7ae836a4034cee198aabaea9792f4d"), looks := true }, kinds := [], alts := [], laidByText := true, laidKinds := [.sentinel], laidTests := true, laidLooks := .later }
def TopWireCardSaid : Prop := Claim7.holds Tryz.pinned (.plain (OpenSpec.ofChange topWireSpec)) topWireCard

/-- THE SECOND FORM's CARD OF 'tollertop.TopWire'. -/
def topWireUptoCard : Claim7 := { stood := { row := topWireUptoRow, standIns := [], harness := (true, "5bc058755a49d714eaa895b27ce9ab830b7ae836a4034cee198aabaea9792f4d"), looks := true }, kinds := [], alts := [], laidByText := true, laidKinds := [.sentinel], laidTests := true, laidLooks := .later }
def TopWireUptoCardSaid : Prop := Claim7.holds Tryz.pinned (.plain (OpenSpec.upto topWireSpec)) topWireUptoCard
end Rows
end Go.Proofs.YtdgcgpapcbjfhaaGreatDoor
