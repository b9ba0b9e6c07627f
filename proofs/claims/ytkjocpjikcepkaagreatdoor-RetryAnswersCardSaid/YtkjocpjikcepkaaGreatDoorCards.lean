/-
  DERIVED. GIVEN WITH THE SEED: THE CARDS: each row of YtkjocpjikcepkaaGreatDoorRows.lean that lists a variable, with what it lists TIED to the program's text (the seventh form; the later family's looks); each row that meets fmt, with fmt's text TOLD by the authors' own Lean function (tested against real Go, not proved from fmt's source: count such statements apart). THE CARD IS WHAT COUNTS. Prove the row's statement (the work); the ties are given (YtkjocpjikcepkaaGreatDoorTie.lean); close each card by the builder's one call (the guide's Derived/Test/ToyasCard.lean, 'card_holds'). Laid BY PROGRAM, IN A SANDBOX (cutbox-door.mjs). By AI agents, Wed Nov 11 2026. No macro, syntax, notation, axiom, sorry.
-/
import Derived.Test.YtkjocpjikcepkaaGreatDoorRows
import GoSem.ClaimSeven
namespace Go.Proofs.YtkjocpjikcepkaaGreatDoor
namespace Rows

/-- THE TIED CARD OF 'reveillelaw25.RetryAnswers'. -/
def retryAnswersCard : Claim7 := { stood := { row := retryAnswersRow, standIns := [], harness := (true, "740985d5d62d4e9152da12649c679ebfe1660bcffffb6b5876e036410b03a0a7"), looks := true }, kinds := [], alts := [], laidByText := true, laidKinds := [.data, .data, .data, .data, .sentinel, .sentinel, .pinned], laidTests := true, laidLooks := .later }
def RetryAnswersCardSaid : Prop := Claim7.holds Tryz.pinned (.plain (OpenSpec.ofChange retryAnswersSpec)) retryAnswersCard

/-- THE SECOND FORM's CARD OF 'reveillelaw25.RetryAnswers'. -/
def retryAnswersUptoCard : Claim7 := { stood := { row := retryAnswersUptoRow, standIns := [], harness := (true, "740985d5d62d4e9152da12649c679ebfe1660bcffffb6b5876e036410b03a0a7"), looks := true }, kinds := [], alts := [], laidByText := true, laidKinds := [.data, .data, .data, .data, .sentinel, .sentinel, .pinned], laidTests := true, laidLooks := .later }
def RetryAnswersUptoCardSaid : Prop := Claim7.holds Tryz.pinned (.plain (OpenSpec.upto retryAnswersSpec)) retryAnswersUptoCard
end Rows
end Go.Proofs.YtkjocpjikcepkaaGreatDoor
