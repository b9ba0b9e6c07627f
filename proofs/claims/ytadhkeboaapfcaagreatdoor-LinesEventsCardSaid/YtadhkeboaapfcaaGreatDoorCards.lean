/-
  DERIVED. GIVEN WITH THE SEED: THE CARDS: each row of YtadhkeboaapfcaaGreatDoorRows.lean that lists a variable, with what it lists TIED to the program's text (the seventh form; the later family's looks); each row that meets fmt, with fmt's text TOLD by the authors' own Lean function (tested against real Go, not proved from fmt's source: count such statements apart). THE CARD IS WHAT COUNTS. Prove the row's statement (the work); the ties are given (YtadhkeboaapfcaaGreatDoorTie.lean); close each card by the builder's one call (the guide's Derived/Test/ToyasCard.lean, 'card_holds'). Laid BY PROGRAM, IN A SANDBOX (cutbox-door.mjs). By AI agents, Wed Nov 11 2026. No macro, syntax, notation, axiom, sorry.
-/
import Derived.Test.YtadhkeboaapfcaaGreatDoorRows
import GoSem.ClaimSeven
namespace Go.Proofs.YtadhkeboaapfcaaGreatDoor
namespace Rows

/-- THE TIED CARD OF 'reveillelaw30.LinesEvents'. -/
def linesEventsCard : Claim7 := { stood := { row := linesEventsRow, standIns := [], harness := (true, "782409fd5045ed57317292997b71c8142b395dc0847e11fe0ede1823ea1308cd"), looks := true }, kinds := [], alts := [], laidByText := true, laidKinds := [.data, .data, .data, .data, .sentinel, .sentinel, .pinned], laidTests := true, laidLooks := .later }
def LinesEventsCardSaid : Prop := Claim7.holds Tryz.pinned (.plain (OpenSpec.ofChange linesEventsSpec)) linesEventsCard

/-- THE TIED CARD OF 'reveillelaw30.LinesHex'. -/
def linesHexCard : Claim7 := { stood := { row := linesHexRow, standIns := [], harness := (true, "782409fd5045ed57317292997b71c8142b395dc0847e11fe0ede1823ea1308cd"), looks := true }, kinds := [], alts := [], laidByText := true, laidKinds := [.data, .data, .data, .data, .sentinel, .sentinel, .pinned], laidTests := true, laidLooks := .later }
def LinesHexCardSaid : Prop := Claim7.holds Tryz.pinned (.plain (OpenSpec.ofChange linesHexSpec)) linesHexCard

/-- THE TIED CARD OF 'reveillelaw30.LinesUnlike'. -/
def linesUnlikeCard : Claim7 := { stood := { row := linesUnlikeRow, standIns := [], harness := (true, "782409fd5045ed57317292997b71c8142b395dc0847e11fe0ede1823ea1308cd"), looks := true }, kinds := [], alts := [], laidByText := true, laidKinds := [.data, .data, .data, .data, .sentinel, .sentinel, .pinned], laidTests := true, laidLooks := .later }
def LinesUnlikeCardSaid : Prop := Claim7.holds Tryz.pinned (.plain (OpenSpec.ofChange linesUnlikeSpec)) linesUnlikeCard

/-- THE TIED CARD OF 'reveillelaw30.LinesTell'. -/
def linesTellCard : Claim7 := { stood := { row := linesTellRow, standIns := [], harness := (true, "782409fd5045ed57317292997b71c8142b395dc0847e11fe0ede1823ea1308cd"), looks := true }, kinds := [], alts := [], laidByText := true, laidKinds := [.data, .data, .data, .data, .sentinel, .sentinel, .pinned], laidTests := true, laidLooks := .later }
def LinesTellCardSaid : Prop := Claim7.holds Tryz.pinned (.plain (OpenSpec.ofChange linesTellSpec)) linesTellCard

/-- THE SECOND FORM's CARD OF 'reveillelaw30.LinesEvents'. -/
def linesEventsUptoCard : Claim7 := { stood := { row := linesEventsUptoRow, standIns := [], harness := (true, "782409fd5045ed57317292997b71c8142b395dc0847e11fe0ede1823ea1308cd"), looks := true }, kinds := [], alts := [], laidByText := true, laidKinds := [.data, .data, .data, .data, .sentinel, .sentinel, .pinned], laidTests := true, laidLooks := .later }
def LinesEventsUptoCardSaid : Prop := Claim7.holds Tryz.pinned (.plain (OpenSpec.upto linesEventsSpec)) linesEventsUptoCard

/-- THE SECOND FORM's CARD OF 'reveillelaw30.LinesHex'. -/
def linesHexUptoCard : Claim7 := { stood := { row := linesHexUptoRow, standIns := [], harness := (true, "782409fd5045ed57317292997b71c8142b395dc0847e11fe0ede1823ea1308cd"), looks := true }, kinds := [], alts := [], laidByText := true, laidKinds := [.data, .data, .data, .data, .sentinel, .sentinel, .pinned], laidTests := true, laidLooks := .later }
def LinesHexUptoCardSaid : Prop := Claim7.holds Tryz.pinned (.plain (OpenSpec.upto linesHexSpec)) linesHexUptoCard

/-- THE SECOND FORM's CARD OF 'reveillelaw30.LinesUnlike'. -/
def linesUnlikeUptoCard : Claim7 := { stood := { row := linesUnlikeUptoRow, standIns := [], harness := (true, "782409fd5045ed57317292997b71c8142b395dc0847e11fe0ede1823ea1308cd"), looks := true }, kinds := [], alts := [], laidByText := true, laidKinds := [.data, .data, .data, .data, .sentinel, .sentinel, .pinned], laidTests := true, laidLooks := .later }
def LinesUnlikeUptoCardSaid : Prop := Claim7.holds Tryz.pinned (.plain (OpenSpec.upto linesUnlikeSpec)) linesUnlikeUptoCard

/-- THE SECOND FORM's CARD OF 'reveillelaw30.LinesTell'. -/
def linesTellUptoCard : Claim7 := { stood := { row := linesTellUptoRow, standIns := [], harness := (true, "782409fd5045ed57317292997b71c8142b395dc0847e11fe0ede1823ea1308cd"), looks := true }, kinds := [], alts := [], laidByText := true, laidKinds := [.data, .data, .data, .data, .sentinel, .sentinel, .pinned], laidTests := true, laidLooks := .later }
def LinesTellUptoCardSaid : Prop := Claim7.holds Tryz.pinned (.plain (OpenSpec.upto linesTellSpec)) linesTellUptoCard
end Rows
end Go.Proofs.YtadhkeboaapfcaaGreatDoor
