/-
  DERIVED. GIVEN WITH THE SEED: THE CARDS: each row of YtjjkhbfimpgplaaGreatDoorRows.lean that lists a variable, with what it lists TIED to the program's text (the seventh form; the later family's looks); each row that meets fmt, with fmt's text TOLD by the authors' own Lean function (tested against real Go, not proved from fmt's source: count such statements apart). THE CARD IS WHAT COUNTS. Prove the row's statement (the work); the ties are given (YtjjkhbfimpgplaaGreatDoorTie.lean); close each card by the builder's one call (the guide's Derived/Test/ToyasCard.lean, 'card_holds'). Laid BY PROGRAM, IN A SANDBOX (cutbox-door.mjs). By AI agents, Wed Nov 11 2026. No macro, syntax, notation, axiom, sorry.
-/
import Derived.Test.YtjjkhbfimpgplaaGreatDoorRows
import GoSem.ClaimSeven
namespace Go.Proofs.YtjjkhbfimpgplaaGreatDoor
namespace Rows

/-- THE TIED CARD OF 'reveillelaw22.SendAll'. -/
def sendAllCard : Claim7 := { stood := { row := sendAllRow, standIns := [], harness := (true, "409958adb9ee5017522d6781efb7a3354a657ca26bb5c02b74792ee2effd86eb"), looks := true }, kinds := [], alts := [], laidByText := true, laidKinds := [.data, .data, .data, .data, .sentinel, .sentinel, .pinned], laidTests := true, laidLooks := .later }
def SendAllCardSaid : Prop := Claim7.holds Tryz.pinned (.plain (OpenSpec.ofChange sendAllSpec)) sendAllCard

/-- THE TIED CARD OF 'reveillelaw22.SendQueues'. -/
def sendQueuesCard : Claim7 := { stood := { row := sendQueuesRow, standIns := [], harness := (true, "409958adb9ee5017522d6781efb7a3354a657ca26bb5c02b74792ee2effd86eb"), looks := true }, kinds := [], alts := [], laidByText := true, laidKinds := [.data, .data, .data, .data, .sentinel, .sentinel, .pinned], laidTests := true, laidLooks := .later }
def SendQueuesCardSaid : Prop := Claim7.holds Tryz.pinned (.plain (OpenSpec.ofChange sendQueuesSpec)) sendQueuesCard

/-- THE TIED CARD OF 'reveillelaw22.SendSends'. -/
def sendSendsCard : Claim7 := { stood := { row := sendSendsRow, standIns := [], harness := (true, "409958adb9ee5017522d6781efb7a3354a657ca26bb5c02b74792ee2effd86eb"), looks := true }, kinds := [], alts := [], laidByText := true, laidKinds := [.data, .data, .data, .data, .sentinel, .sentinel, .pinned], laidTests := true, laidLooks := .later }
def SendSendsCardSaid : Prop := Claim7.holds Tryz.pinned (.plain (OpenSpec.ofChange sendSendsSpec)) sendSendsCard

/-- THE SECOND FORM's CARD OF 'reveillelaw22.SendAll'. -/
def sendAllUptoCard : Claim7 := { stood := { row := sendAllUptoRow, standIns := [], harness := (true, "409958adb9ee5017522d6781efb7a3354a657ca26bb5c02b74792ee2effd86eb"), looks := true }, kinds := [], alts := [], laidByText := true, laidKinds := [.data, .data, .data, .data, .sentinel, .sentinel, .pinned], laidTests := true, laidLooks := .later }
def SendAllUptoCardSaid : Prop := Claim7.holds Tryz.pinned (.plain (OpenSpec.upto sendAllSpec)) sendAllUptoCard

/-- THE SECOND FORM's CARD OF 'reveillelaw22.SendQueues'. -/
def sendQueuesUptoCard : Claim7 := { stood := { row := sendQueuesUptoRow, standIns := [], harness := (true, "409958adb9ee5017522d6781efb7a3354a657ca26bb5c02b74792ee2effd86eb"), looks := true }, kinds := [], alts := [], laidByText := true, laidKinds := [.data, .data, .data, .data, .sentinel, .sentinel, .pinned], laidTests := true, laidLooks := .later }
def SendQueuesUptoCardSaid : Prop := Claim7.holds Tryz.pinned (.plain (OpenSpec.upto sendQueuesSpec)) sendQueuesUptoCard

/-- THE SECOND FORM's CARD OF 'reveillelaw22.SendSends'. -/
def sendSendsUptoCard : Claim7 := { stood := { row := sendSendsUptoRow, standIns := [], harness := (true, "409958adb9ee5017522d6781efb7a3354a657ca26bb5c02b74792ee2effd86eb"), looks := true }, kinds := [], alts := [], laidByText := true, laidKinds := [.data, .data, .data, .data, .sentinel, .sentinel, .pinned], laidTests := true, laidLooks := .later }
def SendSendsUptoCardSaid : Prop := Claim7.holds Tryz.pinned (.plain (OpenSpec.upto sendSendsSpec)) sendSendsUptoCard
end Rows
end Go.Proofs.YtjjkhbfimpgplaaGreatDoor
