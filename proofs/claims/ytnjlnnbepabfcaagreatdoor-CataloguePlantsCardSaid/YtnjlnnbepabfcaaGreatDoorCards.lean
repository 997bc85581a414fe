/-
  DERIVED. GIVEN WITH THE SEED: THE CARDS: each row of YtnjlnnbepabfcaaGreatDoorRows.lean that lists a variable, with what it lists TIED to the program's text (the seventh form; the later family's looks); each row that meets fmt, with fmt's text TOLD by the authors' own Lean function (tested against real Go, not proved from fmt's source: count such statements apart). THE CARD IS WHAT COUNTS. Prove the row's statement (the work); the ties are given (YtnjlnnbepabfcaaGreatDoorTie.lean); close each card by the builder's one call (the guide's Derived/Test/ToyasCard.lean, 'card_holds'). Laid BY PROGRAM, IN A SANDBOX (cutbox-door.mjs). By AI agents, Wed Nov 11 2026. No macro, syntax, notation, axiom, sorry.
-/
import Derived.Test.YtnjlnnbepabfcaaGreatDoorRows
import GoSem.ClaimSeven
namespace Go.Proofs.YtnjlnnbepabfcaaGreatDoor
namespace Rows

/-- THE TIED CARD OF 'overseerlaw59.CatalogueCells'. -/
def catalogueCellsCard : Claim7 := { stood := { row := catalogueCellsRow, standIns := [], harness := (true, "626f4b835f248e610285bfe959d8027ea2f2cf3d37e3eaf20a3b3e17131e3581"), looks := false }, kinds := [], alts := [], laidByText := true, laidKinds := [.data, .data, .data], laidTests := true, laidLooks := .later }
def CatalogueCellsCardSaid : Prop := Claim7.holds Tryz.pinned (.plain (OpenSpec.ofChange catalogueCellsSpec)) catalogueCellsCard

/-- THE TIED CARD OF 'overseerlaw59.CataloguePlants'. -/
def cataloguePlantsCard : Claim7 := { stood := { row := cataloguePlantsRow, standIns := [], harness := (true, "626f4b835f248e610285bfe959d8027ea2f2cf3d37e3eaf20a3b3e17131e3581"), looks := false }, kinds := [], alts := [], laidByText := true, laidKinds := [.data, .data, .data], laidTests := true, laidLooks := .later }
def CataloguePlantsCardSaid : Prop := Claim7.holds Tryz.pinned (.plain (OpenSpec.ofChange cataloguePlantsSpec)) cataloguePlantsCard

/-- THE TIED CARD OF 'overseerlaw59.CatalogueSynthesis'. -/
def catalogueSynthesisCard : Claim7 := { stood := { row := catalogueSynthesisRow, standIns := [], harness := (true, "626f4b835f248e610285bfe959d8027ea2f2cf3d37e3eaf20a3b3e17131e3581"), looks := false }, kinds := [], alts := [], laidByText := true, laidKinds := [.data, .data, .data], laidTests := true, laidLooks := .later }
def CatalogueSynthesisCardSaid : Prop := Claim7.holds Tryz.pinned (.plain (OpenSpec.ofChange catalogueSynthesisSpec)) catalogueSynthesisCard

/-- THE TIED CARD OF 'overseerlaw59.CatalogueWords'. -/
def catalogueWordsCard : Claim7 := { stood := { row := catalogueWordsRow, standIns := [], harness := (true, "626f4b835f248e610285bfe959d8027ea2f2cf3d37e3eaf20a3b3e17131e3581"), looks := false }, kinds := [], alts := [], laidByText := true, laidKinds := [.data, .data, .data], laidTests := true, laidLooks := .later }
def CatalogueWordsCardSaid : Prop := Claim7.holds Tryz.pinned (.plain (OpenSpec.ofChange catalogueWordsSpec)) catalogueWordsCard

/-- THE TIED CARD OF 'overseerlaw25.CellLimits'. -/
def cellLimitsCard : Claim7 := { stood := { row := cellLimitsRow, standIns := [], harness := (true, "626f4b835f248e610285bfe959d8027ea2f2cf3d37e3eaf20a3b3e17131e3581"), looks := false }, kinds := [], alts := [], laidByText := true, laidKinds := [.data, .data, .data], laidTests := true, laidLooks := .later }
def CellLimitsCardSaid : Prop := Claim7.holds Tryz.pinned (.plain (OpenSpec.ofChange cellLimitsSpec)) cellLimitsCard

/-- THE TIED CARD OF 'overseerlaw31.GuardsMany'. -/
def guardsManyCard : Claim7 := { stood := { row := guardsManyRow, standIns := [], harness := (true, "626f4b835f248e610285bfe959d8027ea2f2cf3d37e3eaf20a3b3e17131e3581"), looks := false }, kinds := [], alts := [], laidByText := true, laidKinds := [.data, .data, .data], laidTests := true, laidLooks := .later }
def GuardsManyCardSaid : Prop := Claim7.holds Tryz.pinned (.plain (OpenSpec.ofChange guardsManySpec)) guardsManyCard

/-- THE SECOND FORM's CARD OF 'overseerlaw59.CatalogueCells'. -/
def catalogueCellsUptoCard : Claim7 := { stood := { row := catalogueCellsUptoRow, standIns := [], harness := (true, "626f4b835f248e610285bfe959d8027ea2f2cf3d37e3eaf20a3b3e17131e3581"), looks := false }, kinds := [], alts := [], laidByText := true, laidKinds := [.data, .data, .data], laidTests := true, laidLooks := .later }
def CatalogueCellsUptoCardSaid : Prop := Claim7.holds Tryz.pinned (.plain (OpenSpec.upto catalogueCellsSpec)) catalogueCellsUptoCard

/-- THE SECOND FORM's CARD OF 'overseerlaw59.CataloguePlants'. -/
def cataloguePlantsUptoCard : Claim7 := { stood := { row := cataloguePlantsUptoRow, standIns := [], harness := (true, "626f4b835f248e610285bfe959d8027ea2f2cf3d37e3eaf20a3b3e17131e3581"), looks := false }, kinds := [], alts := [], laidByText := true, laidKinds := [.data, .data, .data], laidTests := true, laidLooks := .later }
def CataloguePlantsUptoCardSaid : Prop := Claim7.holds Tryz.pinned (.plain (OpenSpec.upto cataloguePlantsSpec)) cataloguePlantsUptoCard

/-- THE SECOND FORM's CARD OF 'overseerlaw59.CatalogueSynthesis'. -/
def catalogueSynthesisUptoCard : Claim7 := { stood := { row := catalogueSynthesisUptoRow, standIns := [], harness := (true, "626f4b835f248e610285bfe959d8027ea2f2cf3d37e3eaf20a3b3e17131e3581"), looks := false }, kinds := [], alts := [], laidByText := true, laidKinds := [.data, .data, .data], laidTests := true, laidLooks := .later }
def CatalogueSynthesisUptoCardSaid : Prop := Claim7.holds Tryz.pinned (.plain (OpenSpec.upto catalogueSynthesisSpec)) catalogueSynthesisUptoCard

/-- THE SECOND FORM's CARD OF 'overseerlaw59.CatalogueWords'. -/
def catalogueWordsUptoCard : Claim7 := { stood := { row := catalogueWordsUptoRow, standIns := [], harness := (true, "626f4b835f248e610285bfe959d8027ea2f2cf3d37e3eaf20a3b3e17131e3581"), looks := false }, kinds := [], alts := [], laidByText := true, laidKinds := [.data, .data, .data], laidTests := true, laidLooks := .later }
def CatalogueWordsUptoCardSaid : Prop := Claim7.holds Tryz.pinned (.plain (OpenSpec.upto catalogueWordsSpec)) catalogueWordsUptoCard

/-- THE SECOND FORM's CARD OF 'overseerlaw25.CellLimits'. -/
def cellLimitsUptoCard : Claim7 := { stood := { row := cellLimitsUptoRow, standIns := [], harness := (true, "626f4b835f248e610285bfe959d8027ea2f2cf3d37e3eaf20a3b3e17131e3581"), looks := false }, kinds := [], alts := [], laidByText := true, laidKinds := [.data, .data, .data], laidTests := true, laidLooks := .later }
def CellLimitsUptoCardSaid : Prop := Claim7.holds Tryz.pinned (.plain (OpenSpec.upto cellLimitsSpec)) cellLimitsUptoCard

/-- THE SECOND FORM's CARD OF 'overseerlaw31.GuardsMany'. -/
def guardsManyUptoCard : Claim7 := { stood := { row := guardsManyUptoRow, standIns := [], harness := (true, "626f4b835f248e610285bfe959d8027ea2f2cf3d37e3eaf20a3b3e17131e3581"), looks := false }, kinds := [], alts := [], laidByText := true, laidKinds := [.data, .data, .data], laidTests := true, laidLooks := .later }
def GuardsManyUptoCardSaid : Prop := Claim7.holds Tryz.pinned (.plain (OpenSpec.upto guardsManySpec)) guardsManyUptoCard
end Rows
end Go.Proofs.YtnjlnnbepabfcaaGreatDoor
