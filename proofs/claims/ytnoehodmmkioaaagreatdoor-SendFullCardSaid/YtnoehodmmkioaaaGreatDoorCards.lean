/-
  DERIVED. GIVEN WITH THE SEED: THE CARDS: each row of YtnoehodmmkioaaaGreatDoorRows.lean that lists a variable, with what it lists TIED to the program's text (the seventh form; the later family's looks); each row that meets fmt, with fmt's text TOLD by the authors' own Lean function (tested against real Go, not proved from fmt's source: count such statements apart). THE CARD IS WHAT COUNTS. Prove the row's statement (the work); the ties are given (YtnoehodmmkioaaaGreatDoorTie.lean); close each card by the builder's one call (the guide's Derived/Test/ToyasCard.lean, 'card_holds'). Laid BY PROGRAM, IN A SANDBOX (cutbox-door.mjs). By AI agents, Wed Nov 11 2026. No macro, syntax, notation, axiom, sorry.
-/
import Derived.Test.YtnoehodmmkioaaaGreatDoorRows
import GoSem.ClaimSeven
namespace Go.Proofs.YtnoehodmmkioaaaGreatDoor
namespace Rows

/-- THE TIED CARD OF 'reveillelaw22.SendFull'. -/
def sendFullCard : Claim7 := { stood := { row := sendFullRow, standIns := [], harness := (true, "4be3073c38e2830ec432226e0d4cdabe549ee63b63703d49de8f9d6a255164ed"), looks := true }, kinds := [], alts := [], laidByText := true, laidKinds := [.data, .data, .data, .data, .sentinel, .sentinel, .pinned], laidTests := true, laidLooks := .later }
def SendFullCardSaid : Prop := Claim7.holds Tryz.pinned (.plain (OpenSpec.ofChange sendFullSpec)) sendFullCard

/-- THE TIED CARD OF 'reveillelaw22.SendQueues'. -/
def sendQueuesCard : Claim7 := { stood := { row := sendQueuesRow, standIns := [], harness := (true, "4be3073c38e2830ec432226e0d4cdabe549ee63b63703d49de8f9d6a255164ed"), looks := true }, kinds := [], alts := [], laidByText := true, laidKinds := [.data, .data, .data, .data, .sentinel, .sentinel, .pinned], laidTests := true, laidLooks := .later }
def SendQueuesCardSaid : Prop := Claim7.holds Tryz.pinned (.plain (OpenSpec.ofChange sendQueuesSpec)) sendQueuesCard

/-- THE SECOND FORM's CARD OF 'reveillelaw22.SendFull'. -/
def sendFullUptoCard : Claim7 := { stood := { row := sendFullUptoRow, standIns := [], harness := (true, "4be3073c38e2830ec432226e0d4cdabe549ee63b63703d49de8f9d6a255164ed"), looks := true }, kinds := [], alts := [], laidByText := true, laidKinds := [.data, .data, .data, .data, .sentinel, .sentinel, .pinned], laidTests := true, laidLooks := .later }
def SendFullUptoCardSaid : Prop := Claim7.holds Tryz.pinned (.plain (OpenSpec.upto sendFullSpec)) sendFullUptoCard

/-- THE SECOND FORM's CARD OF 'reveillelaw22.SendQueues'. -/
def sendQueuesUptoCard : Claim7 := { stood := { row := sendQueuesUptoRow, standIns := [], harness := (true, "4be3073c38e2830ec432226e0d4cdabe549ee63b63703d49de8f9d6a255164ed"), looks := true }, kinds := [], alts := [], laidByText := true, laidKinds := [.data, .data, .data, .data, .sentinel, .sentinel, .pinned], laidTests := true, laidLooks := .later }
def SendQueuesUptoCardSaid : Prop := Claim7.holds Tryz.pinned (.plain (OpenSpec.upto sendQueuesSpec)) sendQueuesUptoCard
end Rows
end Go.Proofs.YtnoehodmmkioaaaGreatDoor
