/-
  DERIVED. GIVEN WITH THE SEED: THE CARDS: each row of YtjojndgfbbmfnaaDoorRows.lean that lists a variable, with what it lists TIED to the program's text (the seventh form; the later family's looks); each row that meets fmt, with fmt's text TOLD by the authors' own Lean function (tested against real Go, not proved from fmt's source: count such statements apart). THE CARD IS WHAT COUNTS. Prove the row's statement (the work); the ties are given (YtjojndgfbbmfnaaDoorTie.lean); close each card by the builder's one call (the guide's Derived/Test/ToyasCard.lean, 'card_holds'). Laid BY PROGRAM, IN A SANDBOX (cutbox-door.mjs). By AI agents, Wed Nov 11 2026. No macro, syntax, notation, axiom, sorry.
-/
import Derived.Test.YtjojndgfbbmfnaaDoorRows
import GoSem.ClaimSeven
namespace Go.Proofs.YtjojndgfbbmfnaaDoor
namespace Rows

/-- THE TIED CARD OF 'overseerlaw59.CatalogueFacts'. -/
def catalogueFactsCard : Claim7 := { stood := { row := catalogueFactsRow, standIns := [], harness := (true, "b85dbf5b4e69fb8a54b6aaed1c04d5818e4f9c70b4ca13f359ee0a8b1a314c4b"), looks := false }, kinds := [], alts := [], laidByText := true, laidKinds := [.data, .data, .data], laidTests := true, laidLooks := .later }
def CatalogueFactsCardSaid : Prop := Claim7.holds Tryd.pinned (.plain (OpenSpec.ofChange catalogueFactsSpec)) catalogueFactsCard

/-- THE TIED CARD OF 'overseerlaw59.CatalogueKinds'. -/
def catalogueKindsCard : Claim7 := { stood := { row := catalogueKindsRow, standIns := [], harness := (true, "b85dbf5b4e69fb8a54b6aaed1c04d5818e4f9c70b4ca13f359ee0a8b1a314c4b"), looks := false }, kinds := [], alts := [], laidByText := true, laidKinds := [.data, .data, .data], laidTests := true, laidLooks := .later }
def CatalogueKindsCardSaid : Prop := Claim7.holds Tryd.pinned (.plain (OpenSpec.ofChange catalogueKindsSpec)) catalogueKindsCard

/-- THE TIED CARD OF 'overseerlaw59.CatalogueSame'. -/
def catalogueSameCard : Claim7 := { stood := { row := catalogueSameRow, standIns := [], harness := (true, "b85dbf5b4e69fb8a54b6aaed1c04d5818e4f9c70b4ca13f359ee0a8b1a314c4b"), looks := false }, kinds := [], alts := [], laidByText := true, laidKinds := [.data, .data, .data], laidTests := true, laidLooks := .later }
def CatalogueSameCardSaid : Prop := Claim7.holds Tryd.pinned (.plain (OpenSpec.ofChange catalogueSameSpec)) catalogueSameCard

/-- THE TIED CARD OF 'overseerlaw59.CatalogueNets'. -/
def catalogueNetsCard : Claim7 := { stood := { row := catalogueNetsRow, standIns := [], harness := (true, "b85dbf5b4e69fb8a54b6aaed1c04d5818e4f9c70b4ca13f359ee0a8b1a314c4b"), looks := false }, kinds := [], alts := [], laidByText := true, laidKinds := [.data, .data, .data], laidTests := true, laidLooks := .later }
def CatalogueNetsCardSaid : Prop := Claim7.holds Tryd.pinned (.plain (OpenSpec.ofChange catalogueNetsSpec)) catalogueNetsCard

/-- THE SECOND FORM's CARD OF 'overseerlaw59.CatalogueFacts'. -/
def catalogueFactsUptoCard : Claim7 := { stood := { row := catalogueFactsUptoRow, standIns := [], harness := (true, "b85dbf5b4e69fb8a54b6aaed1c04d5818e4f9c70b4ca13f359ee0a8b1a314c4b"), looks := false }, kinds := [], alts := [], laidByText := true, laidKinds := [.data, .data, .data], laidTests := true, laidLooks := .later }
def CatalogueFactsUptoCardSaid : Prop := Claim7.holds Tryd.pinned (.plain (OpenSpec.upto catalogueFactsSpec)) catalogueFactsUptoCard

/-- THE SECOND FORM's CARD OF 'overseerlaw59.CatalogueKinds'. -/
def catalogueKindsUptoCard : Claim7 := { stood := { row := catalogueKindsUptoRow, standIns := [], harness := (true, "b85dbf5b4e69fb8a54b6aaed1c04d5818e4f9c70b4ca13f359ee0a8b1a314c4b"), looks := false }, kinds := [], alts := [], laidByText := true, laidKinds := [.data, .data, .data], laidTests := true, laidLooks := .later }
def CatalogueKindsUptoCardSaid : Prop := Claim7.holds Tryd.pinned (.plain (OpenSpec.upto catalogueKindsSpec)) catalogueKindsUptoCard

/-- THE SECOND FORM's CARD OF 'overseerlaw59.CatalogueSame'. -/
def catalogueSameUptoCard : Claim7 := { stood := { row := catalogueSameUptoRow, standIns := [], harness := (true, "b85dbf5b4e69fb8a54b6aaed1c04d5818e4f9c70b4ca13f359ee0a8b1a314c4b"), looks := false }, kinds := [], alts := [], laidByText := true, laidKinds := [.data, .data, .data], laidTests := true, laidLooks := .later }
def CatalogueSameUptoCardSaid : Prop := Claim7.holds Tryd.pinned (.plain (OpenSpec.upto catalogueSameSpec)) catalogueSameUptoCard

/-- THE SECOND FORM's CARD OF 'overseerlaw59.CatalogueNets'. -/
def catalogueNetsUptoCard : Claim7 := { stood := { row := catalogueNetsUptoRow, standIns := [], harness := (true, "b85dbf5b4e69fb8a54b6aaed1c04d5818e4f9c70b4ca13f359ee0a8b1a314c4b"), looks := false }, kinds := [], alts := [], laidByText := true, laidKinds := [.data, .data, .data], laidTests := true, laidLooks := .later }
def CatalogueNetsUptoCardSaid : Prop := Claim7.holds Tryd.pinned (.plain (OpenSpec.upto catalogueNetsSpec)) catalogueNetsUptoCard
end Rows
end Go.Proofs.YtjojndgfbbmfnaaDoor
