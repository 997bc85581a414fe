/-
  DERIVED. GIVEN WITH THE SEED: THE CARDS: each row of YtgfnbkngfedlkaaGreatDoorRows.lean that lists a variable, with what it lists TIED to the program's text (the seventh form; the later family's looks); each row that meets fmt, with fmt's text TOLD by the authors' own Lean function (tested against real Go, not proved from fmt's source: count such statements apart). THE CARD IS WHAT COUNTS. Prove the row's statement (the work); the ties are given (YtgfnbkngfedlkaaGreatDoorTie.lean); close each card by the builder's one call (the guide's Derived/Test/ToyasCard.lean, 'card_holds'). Laid BY PROGRAM, IN A SANDBOX (cutbox-door.mjs). By AI agents, Wed Nov 11 2026. No macro, syntax, notation, axiom, sorry.
-/
import Derived.Test.YtgfnbkngfedlkaaGreatDoorRows
import GoSem.ClaimSeven
namespace Go.Proofs.YtgfnbkngfedlkaaGreatDoor
namespace Rows

/-- THE TIED CARD OF 'overseerlaw25.CellLimits'. -/
def cellLimitsCard : Claim7 := { stood := { row := cellLimitsRow, standIns := [], harness := (true, "455361f3ff5c710bf8a8c4458406519024da20e5c3bd8f713ce87d0c3181dc37"), looks := false }, kinds := [], alts := [], laidByText := true, laidKinds := [.data, .data, .data], laidTests := true, laidLooks := .later }
def CellLimitsCardSaid : Prop := Claim7.holds Tryz.pinned (.plain (OpenSpec.ofChange cellLimitsSpec)) cellLimitsCard

/-- THE TIED CARD OF 'overseerlaw57.ExplainRefuses'. -/
def explainRefusesCard : Claim7 := { stood := { row := explainRefusesRow, standIns := [], harness := (true, "455361f3ff5c710bf8a8c4458406519024da20e5c3bd8f713ce87d0c3181dc37"), looks := false }, kinds := [], alts := [], laidByText := true, laidKinds := [.data, .data, .data], laidTests := true, laidLooks := .later }
def ExplainRefusesCardSaid : Prop := Claim7.holds Tryz.pinned (.plain (OpenSpec.ofChange explainRefusesSpec)) explainRefusesCard

/-- THE TIED CARD OF 'overseerlaw31.GuardsMany'. -/
def guardsManyCard : Claim7 := { stood := { row := guardsManyRow, standIns := [], harness := (true, "455361f3ff5c710bf8a8c4458406519024da20e5c3bd8f713ce87d0c3181dc37"), looks := false }, kinds := [], alts := [], laidByText := true, laidKinds := [.data, .data, .data], laidTests := true, laidLooks := .later }
def GuardsManyCardSaid : Prop := Claim7.holds Tryz.pinned (.plain (OpenSpec.ofChange guardsManySpec)) guardsManyCard

/-- THE TIED CARD OF 'overseerlaw57.ExplainEvents'. -/
def explainEventsCard : Claim7 := { stood := { row := explainEventsRow, standIns := [], harness := (true, "455361f3ff5c710bf8a8c4458406519024da20e5c3bd8f713ce87d0c3181dc37"), looks := false }, kinds := [], alts := [], laidByText := true, laidKinds := [.data, .data, .data], laidTests := true, laidLooks := .later }
def ExplainEventsCardSaid : Prop := Claim7.holds Tryz.pinned (.plain (OpenSpec.ofChange explainEventsSpec)) explainEventsCard

/-- THE TIED CARD OF 'overseerlaw57.ExplainWords'. -/
def explainWordsCard : Claim7 := { stood := { row := explainWordsRow, standIns := [], harness := (true, "455361f3ff5c710bf8a8c4458406519024da20e5c3bd8f713ce87d0c3181dc37"), looks := false }, kinds := [], alts := [], laidByText := true, laidKinds := [.data, .data, .data], laidTests := true, laidLooks := .later }
def ExplainWordsCardSaid : Prop := Claim7.holds Tryz.pinned (.plain (OpenSpec.ofChange explainWordsSpec)) explainWordsCard

/-- THE TIED CARD OF 'overseerlaw57.ExplainPermits'. -/
def explainPermitsCard : Claim7 := { stood := { row := explainPermitsRow, standIns := [], harness := (true, "455361f3ff5c710bf8a8c4458406519024da20e5c3bd8f713ce87d0c3181dc37"), looks := false }, kinds := [], alts := [], laidByText := true, laidKinds := [.data, .data, .data], laidTests := true, laidLooks := .later }
def ExplainPermitsCardSaid : Prop := Claim7.holds Tryz.pinned (.plain (OpenSpec.ofChange explainPermitsSpec)) explainPermitsCard

/-- THE TIED CARD OF 'overseerlaw57.ExplainTexts'. -/
def explainTextsCard : Claim7 := { stood := { row := explainTextsRow, standIns := [], harness := (true, "455361f3ff5c710bf8a8c4458406519024da20e5c3bd8f713ce87d0c3181dc37"), looks := false }, kinds := [], alts := [], laidByText := true, laidKinds := [.data, .data, .data], laidTests := true, laidLooks := .later }
def ExplainTextsCardSaid : Prop := Claim7.holds Tryz.pinned (.plain (OpenSpec.ofChange explainTextsSpec)) explainTextsCard

/-- THE TIED CARD OF 'overseerlaw57.ExplainRuns'. -/
def explainRunsCard : Claim7 := { stood := { row := explainRunsRow, standIns := [], harness := (true, "455361f3ff5c710bf8a8c4458406519024da20e5c3bd8f713ce87d0c3181dc37"), looks := false }, kinds := [], alts := [], laidByText := true, laidKinds := [.data, .data, .data], laidTests := true, laidLooks := .later }
def ExplainRunsCardSaid : Prop := Claim7.holds Tryz.pinned (.plain (OpenSpec.ofChange explainRunsSpec)) explainRunsCard

/-- THE TIED CARD OF 'overseerlaw57.ExplainStates'. -/
def explainStatesCard : Claim7 := { stood := { row := explainStatesRow, standIns := [], harness := (true, "455361f3ff5c710bf8a8c4458406519024da20e5c3bd8f713ce87d0c3181dc37"), looks := false }, kinds := [], alts := [], laidByText := true, laidKinds := [.data, .data, .data], laidTests := true, laidLooks := .later }
def ExplainStatesCardSaid : Prop := Claim7.holds Tryz.pinned (.plain (OpenSpec.ofChange explainStatesSpec)) explainStatesCard

/-- THE TIED CARD OF 'overseerlaw57.ExplainStuck'. -/
def explainStuckCard : Claim7 := { stood := { row := explainStuckRow, standIns := [], harness := (true, "455361f3ff5c710bf8a8c4458406519024da20e5c3bd8f713ce87d0c3181dc37"), looks := false }, kinds := [], alts := [], laidByText := true, laidKinds := [.data, .data, .data], laidTests := true, laidLooks := .later }
def ExplainStuckCardSaid : Prop := Claim7.holds Tryz.pinned (.plain (OpenSpec.ofChange explainStuckSpec)) explainStuckCard

/-- THE TIED CARD OF 'overseerlaw31.GuardsRefuses'. -/
def guardsRefusesCard : Claim7 := { stood := { row := guardsRefusesRow, standIns := [], harness := (true, "455361f3ff5c710bf8a8c4458406519024da20e5c3bd8f713ce87d0c3181dc37"), looks := false }, kinds := [], alts := [], laidByText := true, laidKinds := [.data, .data, .data], laidTests := true, laidLooks := .later }
def GuardsRefusesCardSaid : Prop := Claim7.holds Tryz.pinned (.plain (OpenSpec.ofChange guardsRefusesSpec)) guardsRefusesCard

/-- THE SECOND FORM's CARD OF 'overseerlaw25.CellLimits'. -/
def cellLimitsUptoCard : Claim7 := { stood := { row := cellLimitsUptoRow, standIns := [], harness := (true, "455361f3ff5c710bf8a8c4458406519024da20e5c3bd8f713ce87d0c3181dc37"), looks := false }, kinds := [], alts := [], laidByText := true, laidKinds := [.data, .data, .data], laidTests := true, laidLooks := .later }
def CellLimitsUptoCardSaid : Prop := Claim7.holds Tryz.pinned (.plain (OpenSpec.upto cellLimitsSpec)) cellLimitsUptoCard

/-- THE SECOND FORM's CARD OF 'overseerlaw57.ExplainRefuses'. -/
def explainRefusesUptoCard : Claim7 := { stood := { row := explainRefusesUptoRow, standIns := [], harness := (true, "455361f3ff5c710bf8a8c4458406519024da20e5c3bd8f713ce87d0c3181dc37"), looks := false }, kinds := [], alts := [], laidByText := true, laidKinds := [.data, .data, .data], laidTests := true, laidLooks := .later }
def ExplainRefusesUptoCardSaid : Prop := Claim7.holds Tryz.pinned (.plain (OpenSpec.upto explainRefusesSpec)) explainRefusesUptoCard

/-- THE SECOND FORM's CARD OF 'overseerlaw31.GuardsMany'. -/
def guardsManyUptoCard : Claim7 := { stood := { row := guardsManyUptoRow, standIns := [], harness := (true, "455361f3ff5c710bf8a8c4458406519024da20e5c3bd8f713ce87d0c3181dc37"), looks := false }, kinds := [], alts := [], laidByText := true, laidKinds := [.data, .data, .data], laidTests := true, laidLooks := .later }
def GuardsManyUptoCardSaid : Prop := Claim7.holds Tryz.pinned (.plain (OpenSpec.upto guardsManySpec)) guardsManyUptoCard

/-- THE SECOND FORM's CARD OF 'overseerlaw57.ExplainEvents'. -/
def explainEventsUptoCard : Claim7 := { stood := { row := explainEventsUptoRow, standIns := [], harness := (true, "455361f3ff5c710bf8a8c4458406519024da20e5c3bd8f713ce87d0c3181dc37"), looks := false }, kinds := [], alts := [], laidByText := true, laidKinds := [.data, .data, .data], laidTests := true, laidLooks := .later }
def ExplainEventsUptoCardSaid : Prop := Claim7.holds Tryz.pinned (.plain (OpenSpec.upto explainEventsSpec)) explainEventsUptoCard

/-- THE SECOND FORM's CARD OF 'overseerlaw57.ExplainWords'. -/
def explainWordsUptoCard : Claim7 := { stood := { row := explainWordsUptoRow, standIns := [], harness := (true, "455361f3ff5c710bf8a8c4458406519024da20e5c3bd8f713ce87d0c3181dc37"), looks := false }, kinds := [], alts := [], laidByText := true, laidKinds := [.data, .data, .data], laidTests := true, laidLooks := .later }
def ExplainWordsUptoCardSaid : Prop := Claim7.holds Tryz.pinned (.plain (OpenSpec.upto explainWordsSpec)) explainWordsUptoCard

/-- THE SECOND FORM's CARD OF 'overseerlaw57.ExplainPermits'. -/
def explainPermitsUptoCard : Claim7 := { stood := { row := explainPermitsUptoRow, standIns := [], harness := (true, "455361f3ff5c710bf8a8c4458406519024da20e5c3bd8f713ce87d0c3181dc37"), looks := false }, kinds := [], alts := [], laidByText := true, laidKinds := [.data, .data, .data], laidTests := true, laidLooks := .later }
def ExplainPermitsUptoCardSaid : Prop := Claim7.holds Tryz.pinned (.plain (OpenSpec.upto explainPermitsSpec)) explainPermitsUptoCard

/-- THE SECOND FORM's CARD OF 'overseerlaw57.ExplainTexts'. -/
def explainTextsUptoCard : Claim7 := { stood := { row := explainTextsUptoRow, standIns := [], harness := (true, "455361f3ff5c710bf8a8c4458406519024da20e5c3bd8f713ce87d0c3181dc37"), looks := false }, kinds := [], alts := [], laidByText := true, laidKinds := [.data, .data, .data], laidTests := true, laidLooks := .later }
def ExplainTextsUptoCardSaid : Prop := Claim7.holds Tryz.pinned (.plain (OpenSpec.upto explainTextsSpec)) explainTextsUptoCard

/-- THE SECOND FORM's CARD OF 'overseerlaw57.ExplainRuns'. -/
def explainRunsUptoCard : Claim7 := { stood := { row := explainRunsUptoRow, standIns := [], harness := (true, "455361f3ff5c710bf8a8c4458406519024da20e5c3bd8f713ce87d0c3181dc37"), looks := false }, kinds := [], alts := [], laidByText := true, laidKinds := [.data, .data, .data], laidTests := true, laidLooks := .later }
def ExplainRunsUptoCardSaid : Prop := Claim7.holds Tryz.pinned (.plain (OpenSpec.upto explainRunsSpec)) explainRunsUptoCard

/-- THE SECOND FORM's CARD OF 'overseerlaw57.ExplainStates'. -/
def explainStatesUptoCard : Claim7 := { stood := { row := explainStatesUptoRow, standIns := [], harness := (true, "455361f3ff5c710bf8a8c4458406519024da20e5c3bd8f713ce87d0c3181dc37"), looks := false }, kinds := [], alts := [], laidByText := true, laidKinds := [.data, .data, .data], laidTests := true, laidLooks := .later }
def ExplainStatesUptoCardSaid : Prop := Claim7.holds Tryz.pinned (.plain (OpenSpec.upto explainStatesSpec)) explainStatesUptoCard

/-- THE SECOND FORM's CARD OF 'overseerlaw57.ExplainStuck'. -/
def explainStuckUptoCard : Claim7 := { stood := { row := explainStuckUptoRow, standIns := [], harness := (true, "455361f3ff5c710bf8a8c4458406519024da20e5c3bd8f713ce87d0c3181dc37"), looks := false }, kinds := [], alts := [], laidByText := true, laidKinds := [.data, .data, .data], laidTests := true, laidLooks := .later }
def ExplainStuckUptoCardSaid : Prop := Claim7.holds Tryz.pinned (.plain (OpenSpec.upto explainStuckSpec)) explainStuckUptoCard

/-- THE SECOND FORM's CARD OF 'overseerlaw31.GuardsRefuses'. -/
def guardsRefusesUptoCard : Claim7 := { stood := { row := guardsRefusesUptoRow, standIns := [], harness := (true, "455361f3ff5c710bf8a8c4458406519024da20e5c3bd8f713ce87d0c3181dc37"), looks := false }, kinds := [], alts := [], laidByText := true, laidKinds := [.data, .data, .data], laidTests := true, laidLooks := .later }
def GuardsRefusesUptoCardSaid : Prop := Claim7.holds Tryz.pinned (.plain (OpenSpec.upto guardsRefusesSpec)) guardsRefusesUptoCard
end Rows
end Go.Proofs.YtgfnbkngfedlkaaGreatDoor
