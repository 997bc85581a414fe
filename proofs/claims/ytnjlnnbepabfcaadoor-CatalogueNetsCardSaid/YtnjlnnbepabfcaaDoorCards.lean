/-
  DERIVED. GIVEN WITH THE SEED: THE CARDS: each row of YtnjlnnbepabfcaaDoorRows.lean that lists a variable, with what it lists TIED to the program's text (the seventh form; the later family's looks); each row that meets fmt, with fmt's text TOLD by the authors' own Lean function (tested against real Go, not proved from fmt's source: count such statements apart). THE CARD IS WHAT COUNTS. Prove the row's statement (the work); the ties are given (YtnjlnnbepabfcaaDoorTie.lean); close each card by the builder's one call (the guide's Derived/Test/ToyasCard.lean, 'card_holds'). Laid BY PROGRAM, IN A SANDBOX (cutbox-door.mjs). By AI agents, Wed Nov 11 2026. No macro, syntax, notation, axiom, sorry.
-/
import Derived.Test.YtnjlnnbepabfcaaDoorRows
import GoSem.ClaimSeven
namespace Go.Proofs.YtnjlnnbepabfcaaDoor
namespace Rows

/-- THE TIED CARD OF 'overseerlaw59.CatalogueNets'. -/
def catalogueNetsCard : Claim7 := { stood := { row := catalogueNetsRow, standIns := [], harness := (true, "4e4768d793f7eb435f8729d0fcb9fa159855ebfe65b44a020eabcb01a3a8a620"), looks := false }, kinds := [], alts := [], laidByText := true, laidKinds := [.data, .data, .data], laidTests := true, laidLooks := .later }
def CatalogueNetsCardSaid : Prop := Claim7.holds Tryd.pinned (.plain (OpenSpec.ofChange catalogueNetsSpec)) catalogueNetsCard

/-- THE SECOND FORM's CARD OF 'overseerlaw59.CatalogueNets'. -/
def catalogueNetsUptoCard : Claim7 := { stood := { row := catalogueNetsUptoRow, standIns := [], harness := (true, "4e4768d793f7eb435f8729d0fcb9fa159855ebfe65b44a020eabcb01a3a8a620"), looks := false }, kinds := [], alts := [], laidByText := true, laidKinds := [.data, .data, .data], laidTests := true, laidLooks := .later }
def CatalogueNetsUptoCardSaid : Prop := Claim7.holds Tryd.pinned (.plain (OpenSpec.upto catalogueNetsSpec)) catalogueNetsUptoCard
end Rows
end Go.Proofs.YtnjlnnbepabfcaaDoor
