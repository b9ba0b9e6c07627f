/-
  DERIVED. GIVEN WITH THE SEED: THE CARDS: each row of YtikjahfeecdfgaaGreatDoorRows.lean that lists a variable, with what it lists TIED to the program's text (the seventh form; the later family's looks); each row that meets fmt, with fmt's text TOLD by the authors' own Lean function (tested against real Go, not proved from fmt's source: count such statements apart). THE CARD IS WHAT COUNTS. Prove the row's statement (the work); the ties are given (YtikjahfeecdfgaaGreatDoorTie.lean); close each card by the builder's one call (the guide's Derived/Test/ToyasCard.lean, 'card_holds'). Laid BY PROGRAM, IN A SANDBOX (cutbox-door.mjs). By AI agents, Wed Nov 11 2026. No macro, syntax, notation, axiom, sorry.
-/
import Derived.Test.YtikjahfeecdfgaaGreatDoorRows
import GoSem.ClaimSeven
namespace Go.Proofs.YtikjahfeecdfgaaGreatDoor
namespace Rows

/-- THE TIED CARD OF 'reveillelaw21.StoreSyncs'. -/
def storeSyncsCard : Claim7 := { stood := { row := storeSyncsRow, standIns := [], harness := (true, "ee2f4c2b7190b5991ab7e8e36880be3fe1cfd9177cf11c9c62b430ca28a29b97"), looks := true }, kinds := [], alts := [], laidByText := true, laidKinds := [.data, .data, .data, .data, .sentinel, .sentinel, .pinned], laidTests := true, laidLooks := .later }
def StoreSyncsCardSaid : Prop := Claim7.holds Tryz.pinned (.plain (OpenSpec.ofChange storeSyncsSpec)) storeSyncsCard

/-- THE TIED CARD OF 'reveillelaw21.StoreLost'. -/
def storeLostCard : Claim7 := { stood := { row := storeLostRow, standIns := [], harness := (true, "ee2f4c2b7190b5991ab7e8e36880be3fe1cfd9177cf11c9c62b430ca28a29b97"), looks := true }, kinds := [], alts := [], laidByText := true, laidKinds := [.data, .data, .data, .data, .sentinel, .sentinel, .pinned], laidTests := true, laidLooks := .later }
def StoreLostCardSaid : Prop := Claim7.holds Tryz.pinned (.plain (OpenSpec.ofChange storeLostSpec)) storeLostCard

/-- THE TIED CARD OF 'reveillelaw21.StoreNone'. -/
def storeNoneCard : Claim7 := { stood := { row := storeNoneRow, standIns := [], harness := (true, "ee2f4c2b7190b5991ab7e8e36880be3fe1cfd9177cf11c9c62b430ca28a29b97"), looks := true }, kinds := [], alts := [], laidByText := true, laidKinds := [.data, .data, .data, .data, .sentinel, .sentinel, .pinned], laidTests := true, laidLooks := .later }
def StoreNoneCardSaid : Prop := Claim7.holds Tryz.pinned (.plain (OpenSpec.ofChange storeNoneSpec)) storeNoneCard

/-- THE SECOND FORM's CARD OF 'reveillelaw21.StoreSyncs'. -/
def storeSyncsUptoCard : Claim7 := { stood := { row := storeSyncsUptoRow, standIns := [], harness := (true, "ee2f4c2b7190b5991ab7e8e36880be3fe1cfd9177cf11c9c62b430ca28a29b97"), looks := true }, kinds := [], alts := [], laidByText := true, laidKinds := [.data, .data, .data, .data, .sentinel, .sentinel, .pinned], laidTests := true, laidLooks := .later }
def StoreSyncsUptoCardSaid : Prop := Claim7.holds Tryz.pinned (.plain (OpenSpec.upto storeSyncsSpec)) storeSyncsUptoCard

/-- THE SECOND FORM's CARD OF 'reveillelaw21.StoreLost'. -/
def storeLostUptoCard : Claim7 := { stood := { row := storeLostUptoRow, standIns := [], harness := (true, "ee2f4c2b7190b5991ab7e8e36880be3fe1cfd9177cf11c9c62b430ca28a29b97"), looks := true }, kinds := [], alts := [], laidByText := true, laidKinds := [.data, .data, .data, .data, .sentinel, .sentinel, .pinned], laidTests := true, laidLooks := .later }
def StoreLostUptoCardSaid : Prop := Claim7.holds Tryz.pinned (.plain (OpenSpec.upto storeLostSpec)) storeLostUptoCard

/-- THE SECOND FORM's CARD OF 'reveillelaw21.StoreNone'. -/
def storeNoneUptoCard : Claim7 := { stood := { row := storeNoneUptoRow, standIns := [], harness := (true, "ee2f4c2b7190b5991ab7e8e36880be3fe1cfd9177cf11c9c62b430ca28a29b97"), looks := true }, kinds := [], alts := [], laidByText := true, laidKinds := [.data, .data, .data, .data, .sentinel, .sentinel, .pinned], laidTests := true, laidLooks := .later }
def StoreNoneUptoCardSaid : Prop := Claim7.holds Tryz.pinned (.plain (OpenSpec.upto storeNoneSpec)) storeNoneUptoCard
end Rows
end Go.Proofs.YtikjahfeecdfgaaGreatDoor
