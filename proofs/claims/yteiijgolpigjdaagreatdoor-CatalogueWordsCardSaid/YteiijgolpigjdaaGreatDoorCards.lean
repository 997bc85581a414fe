/-
  DERIVED. GIVEN WITH THE SEED: THE CARDS: each row of YteiijgolpigjdaaGreatDoorRows.lean that lists a variable, with what it lists TIED to the program's text (the seventh form; the later family's looks); each row that meets fmt, with fmt's text TOLD by the authors' own Lean function (tested against real Go, not proved from fmt's source: count such statements apart). THE CARD IS WHAT COUNTS. Prove the row's statement (the work); the ties are given (YteiijgolpigjdaaGreatDoorTie.lean); close each card by the builder's one call (the guide's Derived/Test/ToyasCard.lean, 'card_holds'). Laid BY PROGRAM, IN A SANDBOX (cutbox-door.mjs). By AI agents, Wed Nov 11 2026. No macro, syntax, notation, axiom, sorry.
-/
import Derived.Test.YteiijgolpigjdaaGreatDoorRows
import GoSem.ClaimSeven
namespace Go.Proofs.YteiijgolpigjdaaGreatDoor
namespace Rows

/-- THE TIED CARD OF 'overseerlaw59.CatalogueSynthesis'. -/
def catalogueSynthesisCard : Claim7 := { stood := { row := catalogueSynthesisRow, standIns := [], harness := (true, "ec515d7d21895f03940c5ce37f7baf31f10d7bc40aabee8dc746b1d899567022"), looks := false }, kinds := [], alts := [], laidByText := true, laidKinds := [.data, .data, .data], laidTests := true, laidLooks := .later }
def CatalogueSynthesisCardSaid : Prop := Claim7.holds Tryz.pinned (.plain (OpenSpec.ofChange catalogueSynthesisSpec)) catalogueSynthesisCard

/-- THE TIED CARD OF 'overseerlaw59.CatalogueWords'. -/
def catalogueWordsCard : Claim7 := { stood := { row := catalogueWordsRow, standIns := [], harness := (true, "ec515d7d21895f03940c5ce37f7baf31f10d7bc40aabee8dc746b1d899567022"), looks := false }, kinds := [], alts := [], laidByText := true, laidKinds := [.data, .data, .data], laidTests := true, laidLooks := .later }
def CatalogueWordsCardSaid : Prop := Claim7.holds Tryz.pinned (.plain (OpenSpec.ofChange catalogueWordsSpec)) catalogueWordsCard

/-- THE SECOND FORM's CARD OF 'overseerlaw59.CatalogueSynthesis'. -/
def catalogueSynthesisUptoCard : Claim7 := { stood := { row := catalogueSynthesisUptoRow, standIns := [], harness := (true, "ec515d7d21895f03940c5ce37f7baf31f10d7bc40aabee8dc746b1d899567022"), looks := false }, kinds := [], alts := [], laidByText := true, laidKinds := [.data, .data, .data], laidTests := true, laidLooks := .later }
def CatalogueSynthesisUptoCardSaid : Prop := Claim7.holds Tryz.pinned (.plain (OpenSpec.upto catalogueSynthesisSpec)) catalogueSynthesisUptoCard

/-- THE SECOND FORM's CARD OF 'overseerlaw59.CatalogueWords'. -/
def catalogueWordsUptoCard : Claim7 := { stood := { row := catalogueWordsUptoRow, standIns := [], harness := (true, "ec515d7d21895f03940c5ce37f7baf31f10d7bc40aabee8dc746b1d899567022"), looks := false }, kinds := [], alts := [], laidByText := true, laidKinds := [.data, .data, .data], laidTests := true, laidLooks := .later }
def CatalogueWordsUptoCardSaid : Prop := Claim7.holds Tryz.pinned (.plain (OpenSpec.upto catalogueWordsSpec)) catalogueWordsUptoCard
end Rows
end Go.Proofs.YteiijgolpigjdaaGreatDoor
