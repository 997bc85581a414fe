/-
  DERIVED. GIVEN WITH THE SEED: THE CARDS: each row of YtmoanlnleppcpaaGreatDoorRows.lean that lists a variable, with what it lists TIED to the program's text (the seventh form; the later family's looks); each row that meets fmt, with fmt's text TOLD by the authors' own Lean function (tested against real Go, not proved from fmt's source: count such statements apart). THE CARD IS WHAT COUNTS. Prove the row's statement (the work); the ties are given (YtmoanlnleppcpaaGreatDoorTie.lean); close each card by the builder's one call (the guide's Derived/Test/ToyasCard.lean, 'card_holds'). Laid BY PROGRAM, IN A SANDBOX (cutbox-door.mjs). By AI agents, Wed Nov 11 2026. No macro, syntax, notation, axiom, sorry.
-/
import Derived.Test.YtmoanlnleppcpaaGreatDoorRows
import GoSem.ClaimSeven
namespace Go.Proofs.YtmoanlnleppcpaaGreatDoor
namespace Rows

/-- THE TIED CARD OF 'overseerlaw25.CellLimits'. -/
def cellLimitsCard : Claim7 := { stood := { row := cellLimitsRow, standIns := [], harness := (true, "3214506c4b8bdee4233848c0a8c1a5b108e9f90b6b0a4bf1bbae83675dad5cfd"), looks := false }, kinds := [], alts := [], laidByText := true, laidKinds := [.data, .data, .data], laidTests := true, laidLooks := .later }
def CellLimitsCardSaid : Prop := Claim7.holds Tryz.pinned (.plain (OpenSpec.ofChange cellLimitsSpec)) cellLimitsCard

/-- THE TIED CARD OF 'overseerlaw27.SynthesisRefuses'. -/
def synthesisRefusesCard : Claim7 := { stood := { row := synthesisRefusesRow, standIns := [], harness := (true, "3214506c4b8bdee4233848c0a8c1a5b108e9f90b6b0a4bf1bbae83675dad5cfd"), looks := false }, kinds := [], alts := [], laidByText := true, laidKinds := [.data, .data, .data], laidTests := true, laidLooks := .later }
def SynthesisRefusesCardSaid : Prop := Claim7.holds Tryz.pinned (.plain (OpenSpec.ofChange synthesisRefusesSpec)) synthesisRefusesCard

/-- THE TIED CARD OF 'overseerlaw25.CellPlants'. -/
def cellPlantsCard : Claim7 := { stood := { row := cellPlantsRow, standIns := [], harness := (true, "3214506c4b8bdee4233848c0a8c1a5b108e9f90b6b0a4bf1bbae83675dad5cfd"), looks := false }, kinds := [], alts := [], laidByText := true, laidKinds := [.data, .data, .data], laidTests := true, laidLooks := .later }
def CellPlantsCardSaid : Prop := Claim7.holds Tryz.pinned (.plain (OpenSpec.ofChange cellPlantsSpec)) cellPlantsCard

/-- THE TIED CARD OF 'overseerlaw25.CellTouches'. -/
def cellTouchesCard : Claim7 := { stood := { row := cellTouchesRow, standIns := [], harness := (true, "3214506c4b8bdee4233848c0a8c1a5b108e9f90b6b0a4bf1bbae83675dad5cfd"), looks := false }, kinds := [], alts := [], laidByText := true, laidKinds := [.data, .data, .data], laidTests := true, laidLooks := .later }
def CellTouchesCardSaid : Prop := Claim7.holds Tryz.pinned (.plain (OpenSpec.ofChange cellTouchesSpec)) cellTouchesCard

/-- THE TIED CARD OF 'overseerlaw25.CellWords'. -/
def cellWordsCard : Claim7 := { stood := { row := cellWordsRow, standIns := [], harness := (true, "3214506c4b8bdee4233848c0a8c1a5b108e9f90b6b0a4bf1bbae83675dad5cfd"), looks := false }, kinds := [], alts := [], laidByText := true, laidKinds := [.data, .data, .data], laidTests := true, laidLooks := .later }
def CellWordsCardSaid : Prop := Claim7.holds Tryz.pinned (.plain (OpenSpec.ofChange cellWordsSpec)) cellWordsCard

/-- THE TIED CARD OF 'overseerlaw25.CellSpecifies'. -/
def cellSpecifiesCard : Claim7 := { stood := { row := cellSpecifiesRow, standIns := [], harness := (true, "3214506c4b8bdee4233848c0a8c1a5b108e9f90b6b0a4bf1bbae83675dad5cfd"), looks := false }, kinds := [], alts := [], laidByText := true, laidKinds := [.data, .data, .data], laidTests := true, laidLooks := .later }
def CellSpecifiesCardSaid : Prop := Claim7.holds Tryz.pinned (.plain (OpenSpec.ofChange cellSpecifiesSpec)) cellSpecifiesCard

/-- THE TIED CARD OF 'overseerlaw25.CellCompletes'. -/
def cellCompletesCard : Claim7 := { stood := { row := cellCompletesRow, standIns := [], harness := (true, "3214506c4b8bdee4233848c0a8c1a5b108e9f90b6b0a4bf1bbae83675dad5cfd"), looks := false }, kinds := [], alts := [], laidByText := true, laidKinds := [.data, .data, .data], laidTests := true, laidLooks := .later }
def CellCompletesCardSaid : Prop := Claim7.holds Tryz.pinned (.plain (OpenSpec.ofChange cellCompletesSpec)) cellCompletesCard

/-- THE TIED CARD OF 'overseerlaw25.CellMakes'. -/
def cellMakesCard : Claim7 := { stood := { row := cellMakesRow, standIns := [], harness := (true, "3214506c4b8bdee4233848c0a8c1a5b108e9f90b6b0a4bf1bbae83675dad5cfd"), looks := false }, kinds := [], alts := [], laidByText := true, laidKinds := [.data, .data, .data], laidTests := true, laidLooks := .later }
def CellMakesCardSaid : Prop := Claim7.holds Tryz.pinned (.plain (OpenSpec.ofChange cellMakesSpec)) cellMakesCard

/-- THE TIED CARD OF 'overseerlaw25.CellChecks'. -/
def cellChecksCard : Claim7 := { stood := { row := cellChecksRow, standIns := [], harness := (true, "3214506c4b8bdee4233848c0a8c1a5b108e9f90b6b0a4bf1bbae83675dad5cfd"), looks := false }, kinds := [], alts := [], laidByText := true, laidKinds := [.data, .data, .data], laidTests := true, laidLooks := .later }
def CellChecksCardSaid : Prop := Claim7.holds Tryz.pinned (.plain (OpenSpec.ofChange cellChecksSpec)) cellChecksCard

/-- THE TIED CARD OF 'overseerlaw25.CellSelects'. -/
def cellSelectsCard : Claim7 := { stood := { row := cellSelectsRow, standIns := [], harness := (true, "3214506c4b8bdee4233848c0a8c1a5b108e9f90b6b0a4bf1bbae83675dad5cfd"), looks := false }, kinds := [], alts := [], laidByText := true, laidKinds := [.data, .data, .data], laidTests := true, laidLooks := .later }
def CellSelectsCardSaid : Prop := Claim7.holds Tryz.pinned (.plain (OpenSpec.ofChange cellSelectsSpec)) cellSelectsCard

/-- THE TIED CARD OF 'overseerlaw27.SynthesisLoops'. -/
def synthesisLoopsCard : Claim7 := { stood := { row := synthesisLoopsRow, standIns := [], harness := (true, "3214506c4b8bdee4233848c0a8c1a5b108e9f90b6b0a4bf1bbae83675dad5cfd"), looks := false }, kinds := [], alts := [], laidByText := true, laidKinds := [.data, .data, .data], laidTests := true, laidLooks := .later }
def SynthesisLoopsCardSaid : Prop := Claim7.holds Tryz.pinned (.plain (OpenSpec.ofChange synthesisLoopsSpec)) synthesisLoopsCard

/-- THE TIED CARD OF 'overseerlaw27.SynthesisCells'. -/
def synthesisCellsCard : Claim7 := { stood := { row := synthesisCellsRow, standIns := [], harness := (true, "3214506c4b8bdee4233848c0a8c1a5b108e9f90b6b0a4bf1bbae83675dad5cfd"), looks := false }, kinds := [], alts := [], laidByText := true, laidKinds := [.data, .data, .data], laidTests := true, laidLooks := .later }
def SynthesisCellsCardSaid : Prop := Claim7.holds Tryz.pinned (.plain (OpenSpec.ofChange synthesisCellsSpec)) synthesisCellsCard

/-- THE SECOND FORM's CARD OF 'overseerlaw25.CellLimits'. -/
def cellLimitsUptoCard : Claim7 := { stood := { row := cellLimitsUptoRow, standIns := [], harness := (true, "3214506c4b8bdee4233848c0a8c1a5b108e9f90b6b0a4bf1bbae83675dad5cfd"), looks := false }, kinds := [], alts := [], laidByText := true, laidKinds := [.data, .data, .data], laidTests := true, laidLooks := .later }
def CellLimitsUptoCardSaid : Prop := Claim7.holds Tryz.pinned (.plain (OpenSpec.upto cellLimitsSpec)) cellLimitsUptoCard

/-- THE SECOND FORM's CARD OF 'overseerlaw27.SynthesisRefuses'. -/
def synthesisRefusesUptoCard : Claim7 := { stood := { row := synthesisRefusesUptoRow, standIns := [], harness := (true, "3214506c4b8bdee4233848c0a8c1a5b108e9f90b6b0a4bf1bbae83675dad5cfd"), looks := false }, kinds := [], alts := [], laidByText := true, laidKinds := [.data, .data, .data], laidTests := true, laidLooks := .later }
def SynthesisRefusesUptoCardSaid : Prop := Claim7.holds Tryz.pinned (.plain (OpenSpec.upto synthesisRefusesSpec)) synthesisRefusesUptoCard

/-- THE SECOND FORM's CARD OF 'overseerlaw25.CellPlants'. -/
def cellPlantsUptoCard : Claim7 := { stood := { row := cellPlantsUptoRow, standIns := [], harness := (true, "3214506c4b8bdee4233848c0a8c1a5b108e9f90b6b0a4bf1bbae83675dad5cfd"), looks := false }, kinds := [], alts := [], laidByText := true, laidKinds := [.data, .data, .data], laidTests := true, laidLooks := .later }
def CellPlantsUptoCardSaid : Prop := Claim7.holds Tryz.pinned (.plain (OpenSpec.upto cellPlantsSpec)) cellPlantsUptoCard

/-- THE SECOND FORM's CARD OF 'overseerlaw25.CellTouches'. -/
def cellTouchesUptoCard : Claim7 := { stood := { row := cellTouchesUptoRow, standIns := [], harness := (true, "3214506c4b8bdee4233848c0a8c1a5b108e9f90b6b0a4bf1bbae83675dad5cfd"), looks := false }, kinds := [], alts := [], laidByText := true, laidKinds := [.data, .data, .data], laidTests := true, laidLooks := .later }
def CellTouchesUptoCardSaid : Prop := Claim7.holds Tryz.pinned (.plain (OpenSpec.upto cellTouchesSpec)) cellTouchesUptoCard

/-- THE SECOND FORM's CARD OF 'overseerlaw25.CellWords'. -/
def cellWordsUptoCard : Claim7 := { stood := { row := cellWordsUptoRow, standIns := [], harness := (true, "3214506c4b8bdee4233848c0a8c1a5b108e9f90b6b0a4bf1bbae83675dad5cfd"), looks := false }, kinds := [], alts := [], laidByText := true, laidKinds := [.data, .data, .data], laidTests := true, laidLooks := .later }
def CellWordsUptoCardSaid : Prop := Claim7.holds Tryz.pinned (.plain (OpenSpec.upto cellWordsSpec)) cellWordsUptoCard

/-- THE SECOND FORM's CARD OF 'overseerlaw25.CellSpecifies'. -/
def cellSpecifiesUptoCard : Claim7 := { stood := { row := cellSpecifiesUptoRow, standIns := [], harness := (true, "3214506c4b8bdee4233848c0a8c1a5b108e9f90b6b0a4bf1bbae83675dad5cfd"), looks := false }, kinds := [], alts := [], laidByText := true, laidKinds := [.data, .data, .data], laidTests := true, laidLooks := .later }
def CellSpecifiesUptoCardSaid : Prop := Claim7.holds Tryz.pinned (.plain (OpenSpec.upto cellSpecifiesSpec)) cellSpecifiesUptoCard

/-- THE SECOND FORM's CARD OF 'overseerlaw25.CellCompletes'. -/
def cellCompletesUptoCard : Claim7 := { stood := { row := cellCompletesUptoRow, standIns := [], harness := (true, "3214506c4b8bdee4233848c0a8c1a5b108e9f90b6b0a4bf1bbae83675dad5cfd"), looks := false }, kinds := [], alts := [], laidByText := true, laidKinds := [.data, .data, .data], laidTests := true, laidLooks := .later }
def CellCompletesUptoCardSaid : Prop := Claim7.holds Tryz.pinned (.plain (OpenSpec.upto cellCompletesSpec)) cellCompletesUptoCard

/-- THE SECOND FORM's CARD OF 'overseerlaw25.CellMakes'. -/
def cellMakesUptoCard : Claim7 := { stood := { row := cellMakesUptoRow, standIns := [], harness := (true, "3214506c4b8bdee4233848c0a8c1a5b108e9f90b6b0a4bf1bbae83675dad5cfd"), looks := false }, kinds := [], alts := [], laidByText := true, laidKinds := [.data, .data, .data], laidTests := true, laidLooks := .later }
def CellMakesUptoCardSaid : Prop := Claim7.holds Tryz.pinned (.plain (OpenSpec.upto cellMakesSpec)) cellMakesUptoCard

/-- THE SECOND FORM's CARD OF 'overseerlaw25.CellChecks'. -/
def cellChecksUptoCard : Claim7 := { stood := { row := cellChecksUptoRow, standIns := [], harness := (true, "3214506c4b8bdee4233848c0a8c1a5b108e9f90b6b0a4bf1bbae83675dad5cfd"), looks := false }, kinds := [], alts := [], laidByText := true, laidKinds := [.data, .data, .data], laidTests := true, laidLooks := .later }
def CellChecksUptoCardSaid : Prop := Claim7.holds Tryz.pinned (.plain (OpenSpec.upto cellChecksSpec)) cellChecksUptoCard

/-- THE SECOND FORM's CARD OF 'overseerlaw25.CellSelects'. -/
def cellSelectsUptoCard : Claim7 := { stood := { row := cellSelectsUptoRow, standIns := [], harness := (true, "3214506c4b8bdee4233848c0a8c1a5b108e9f90b6b0a4bf1bbae83675dad5cfd"), looks := false }, kinds := [], alts := [], laidByText := true, laidKinds := [.data, .data, .data], laidTests := true, laidLooks := .later }
def CellSelectsUptoCardSaid : Prop := Claim7.holds Tryz.pinned (.plain (OpenSpec.upto cellSelectsSpec)) cellSelectsUptoCard

/-- THE SECOND FORM's CARD OF 'overseerlaw27.SynthesisLoops'. -/
def synthesisLoopsUptoCard : Claim7 := { stood := { row := synthesisLoopsUptoRow, standIns := [], harness := (true, "3214506c4b8bdee4233848c0a8c1a5b108e9f90b6b0a4bf1bbae83675dad5cfd"), looks := false }, kinds := [], alts := [], laidByText := true, laidKinds := [.data, .data, .data], laidTests := true, laidLooks := .later }
def SynthesisLoopsUptoCardSaid : Prop := Claim7.holds Tryz.pinned (.plain (OpenSpec.upto synthesisLoopsSpec)) synthesisLoopsUptoCard

/-- THE SECOND FORM's CARD OF 'overseerlaw27.SynthesisCells'. -/
def synthesisCellsUptoCard : Claim7 := { stood := { row := synthesisCellsUptoRow, standIns := [], harness := (true, "3214506c4b8bdee4233848c0a8c1a5b108e9f90b6b0a4bf1bbae83675dad5cfd"), looks := false }, kinds := [], alts := [], laidByText := true, laidKinds := [.data, .data, .data], laidTests := true, laidLooks := .later }
def SynthesisCellsUptoCardSaid : Prop := Claim7.holds Tryz.pinned (.plain (OpenSpec.upto synthesisCellsSpec)) synthesisCellsUptoCard
end Rows
end Go.Proofs.YtmoanlnleppcpaaGreatDoor
