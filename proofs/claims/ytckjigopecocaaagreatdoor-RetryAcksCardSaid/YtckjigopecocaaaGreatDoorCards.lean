/-
  DERIVED. GIVEN WITH THE SEED: THE CARDS: each row of YtckjigopecocaaaGreatDoorRows.lean that lists a variable, with what it lists TIED to the program's text (the seventh form; the later family's looks); each row that meets fmt, with fmt's text TOLD by the authors' own Lean function (tested against real Go, not proved from fmt's source: count such statements apart). THE CARD IS WHAT COUNTS. Prove the row's statement (the work); the ties are given (YtckjigopecocaaaGreatDoorTie.lean); close each card by the builder's one call (the guide's Derived/Test/ToyasCard.lean, 'card_holds'). Laid BY PROGRAM, IN A SANDBOX (cutbox-door.mjs). By AI agents, Wed Nov 11 2026. No macro, syntax, notation, axiom, sorry.
-/
import Derived.Test.YtckjigopecocaaaGreatDoorRows
import GoSem.ClaimSeven
namespace Go.Proofs.YtckjigopecocaaaGreatDoor
namespace Rows

/-- THE TIED CARD OF 'reveillelaw25.RetryAcks'. -/
def retryAcksCard : Claim7 := { stood := { row := retryAcksRow, standIns := [], harness := (true, "13fbf496c2d1ff7793ae7ea1dd539df4e93c4693f327274c92be49edca3713a7"), looks := true }, kinds := [], alts := [], laidByText := true, laidKinds := [.data, .data, .data, .data, .sentinel, .sentinel, .pinned], laidTests := true, laidLooks := .later }
def RetryAcksCardSaid : Prop := Claim7.holds Tryz.pinned (.plain (OpenSpec.ofChange retryAcksSpec)) retryAcksCard

/-- THE SECOND FORM's CARD OF 'reveillelaw25.RetryAcks'. -/
def retryAcksUptoCard : Claim7 := { stood := { row := retryAcksUptoRow, standIns := [], harness := (true, "13fbf496c2d1ff7793ae7ea1dd539df4e93c4693f327274c92be49edca3713a7"), looks := true }, kinds := [], alts := [], laidByText := true, laidKinds := [.data, .data, .data, .data, .sentinel, .sentinel, .pinned], laidTests := true, laidLooks := .later }
def RetryAcksUptoCardSaid : Prop := Claim7.holds Tryz.pinned (.plain (OpenSpec.upto retryAcksSpec)) retryAcksUptoCard
end Rows
end Go.Proofs.YtckjigopecocaaaGreatDoor
