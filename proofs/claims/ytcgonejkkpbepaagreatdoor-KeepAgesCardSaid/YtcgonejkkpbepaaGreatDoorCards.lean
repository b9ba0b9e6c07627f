/-
  DERIVED. GIVEN WITH THE SEED: THE CARDS: each row of YtcgonejkkpbepaaGreatDoorRows.lean that lists a variable, with what it lists TIED to the program's text (the seventh form; the later family's looks); each row that meets fmt, with fmt's text TOLD by the authors' own Lean function (tested against real Go, not proved from fmt's source: count such statements apart). THE CARD IS WHAT COUNTS. Prove the row's statement (the work); the ties are given (YtcgonejkkpbepaaGreatDoorTie.lean); close each card by the builder's one call (the guide's Derived/Test/ToyasCard.lean, 'card_holds'). Laid BY PROGRAM, IN A SANDBOX (cutbox-door.mjs). By AI agents, Wed Nov 11 2026. No macro, syntax, notation, axiom, sorry.
-/
import Derived.Test.YtcgonejkkpbepaaGreatDoorRows
import GoSem.ClaimSeven
namespace Go.Proofs.YtcgonejkkpbepaaGreatDoor
namespace Rows

/-- THE TIED CARD OF 'reveillelaw26.KeepAges'. -/
def keepAgesCard : Claim7 := { stood := { row := keepAgesRow, standIns := [], harness := (true, "021e937809e38e95113d2047177a5ed6746fe9ab284b124469ac3694168fd214"), looks := true }, kinds := [], alts := [], laidByText := true, laidKinds := [.data, .data, .data, .data, .sentinel, .sentinel, .pinned], laidTests := true, laidLooks := .later }
def KeepAgesCardSaid : Prop := Claim7.holds Tryz.pinned (.plain (OpenSpec.ofChange keepAgesSpec)) keepAgesCard

/-- THE SECOND FORM's CARD OF 'reveillelaw26.KeepAges'. -/
def keepAgesUptoCard : Claim7 := { stood := { row := keepAgesUptoRow, standIns := [], harness := (true, "021e937809e38e95113d2047177a5ed6746fe9ab284b124469ac3694168fd214"), looks := true }, kinds := [], alts := [], laidByText := true, laidKinds := [.data, .data, .data, .data, .sentinel, .sentinel, .pinned], laidTests := true, laidLooks := .later }
def KeepAgesUptoCardSaid : Prop := Claim7.holds Tryz.pinned (.plain (OpenSpec.upto keepAgesSpec)) keepAgesUptoCard
end Rows
end Go.Proofs.YtcgonejkkpbepaaGreatDoor
