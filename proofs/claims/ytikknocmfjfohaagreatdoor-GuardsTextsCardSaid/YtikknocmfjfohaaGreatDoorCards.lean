/-
  DERIVED. GIVEN WITH THE SEED: THE CARDS: each row of YtikknocmfjfohaaGreatDoorRows.lean that lists a variable, with what it lists TIED to the program's text (the seventh form; the later family's looks); each row that meets fmt, with fmt's text TOLD by the authors' own Lean function (tested against real Go, not proved from fmt's source: count such statements apart). THE CARD IS WHAT COUNTS. Prove the row's statement (the work); the ties are given (YtikknocmfjfohaaGreatDoorTie.lean); close each card by the builder's one call (the guide's Derived/Test/ToyasCard.lean, 'card_holds'). Laid BY PROGRAM, IN A SANDBOX (cutbox-door.mjs). By AI agents, Wed Nov 11 2026. No macro, syntax, notation, axiom, sorry.
-/
import Derived.Test.YtikknocmfjfohaaGreatDoorRows
import GoSem.ClaimSeven
namespace Go.Proofs.YtikknocmfjfohaaGreatDoor
namespace Rows

/-- THE TIED CARD OF 'overseerlaw31.GuardsOf'. -/
def guardsOfCard : Claim7 := { stood := { row := guardsOfRow, standIns := [], harness := (true, "12aec0685c543a21e0343cf519cec5d7e9137c8739b1769542b94fdb1254e06a"), looks := false }, kinds := [], alts := [], laidByText := true, laidKinds := [.data, .data, .data], laidTests := true, laidLooks := .later }
def GuardsOfCardSaid : Prop := Claim7.holds Tryz.pinned (.plain (OpenSpec.ofChange guardsOfSpec)) guardsOfCard

/-- THE TIED CARD OF 'overseerlaw31.GuardsLoop'. -/
def guardsLoopCard : Claim7 := { stood := { row := guardsLoopRow, standIns := [], harness := (true, "12aec0685c543a21e0343cf519cec5d7e9137c8739b1769542b94fdb1254e06a"), looks := false }, kinds := [], alts := [], laidByText := true, laidKinds := [.data, .data, .data], laidTests := true, laidLooks := .later }
def GuardsLoopCardSaid : Prop := Claim7.holds Tryz.pinned (.plain (OpenSpec.ofChange guardsLoopSpec)) guardsLoopCard

/-- THE TIED CARD OF 'overseerlaw31.GuardsSuffice'. -/
def guardsSufficeCard : Claim7 := { stood := { row := guardsSufficeRow, standIns := [], harness := (true, "12aec0685c543a21e0343cf519cec5d7e9137c8739b1769542b94fdb1254e06a"), looks := false }, kinds := [], alts := [], laidByText := true, laidKinds := [.data, .data, .data], laidTests := true, laidLooks := .later }
def GuardsSufficeCardSaid : Prop := Claim7.holds Tryz.pinned (.plain (OpenSpec.ofChange guardsSufficeSpec)) guardsSufficeCard

/-- THE TIED CARD OF 'overseerlaw31.GuardsTexts'. -/
def guardsTextsCard : Claim7 := { stood := { row := guardsTextsRow, standIns := [], harness := (true, "12aec0685c543a21e0343cf519cec5d7e9137c8739b1769542b94fdb1254e06a"), looks := false }, kinds := [], alts := [], laidByText := true, laidKinds := [.data, .data, .data], laidTests := true, laidLooks := .later }
def GuardsTextsCardSaid : Prop := Claim7.holds Tryz.pinned (.plain (OpenSpec.ofChange guardsTextsSpec)) guardsTextsCard

/-- THE TIED CARD OF 'overseerlaw31.GuardsChecks'. -/
def guardsChecksCard : Claim7 := { stood := { row := guardsChecksRow, standIns := [], harness := (true, "12aec0685c543a21e0343cf519cec5d7e9137c8739b1769542b94fdb1254e06a"), looks := false }, kinds := [], alts := [], laidByText := true, laidKinds := [.data, .data, .data], laidTests := true, laidLooks := .later }
def GuardsChecksCardSaid : Prop := Claim7.holds Tryz.pinned (.plain (OpenSpec.ofChange guardsChecksSpec)) guardsChecksCard

/-- THE SECOND FORM's CARD OF 'overseerlaw31.GuardsOf'. -/
def guardsOfUptoCard : Claim7 := { stood := { row := guardsOfUptoRow, standIns := [], harness := (true, "12aec0685c543a21e0343cf519cec5d7e9137c8739b1769542b94fdb1254e06a"), looks := false }, kinds := [], alts := [], laidByText := true, laidKinds := [.data, .data, .data], laidTests := true, laidLooks := .later }
def GuardsOfUptoCardSaid : Prop := Claim7.holds Tryz.pinned (.plain (OpenSpec.upto guardsOfSpec)) guardsOfUptoCard

/-- THE SECOND FORM's CARD OF 'overseerlaw31.GuardsLoop'. -/
def guardsLoopUptoCard : Claim7 := { stood := { row := guardsLoopUptoRow, standIns := [], harness := (true, "12aec0685c543a21e0343cf519cec5d7e9137c8739b1769542b94fdb1254e06a"), looks := false }, kinds := [], alts := [], laidByText := true, laidKinds := [.data, .data, .data], laidTests := true, laidLooks := .later }
def GuardsLoopUptoCardSaid : Prop := Claim7.holds Tryz.pinned (.plain (OpenSpec.upto guardsLoopSpec)) guardsLoopUptoCard

/-- THE SECOND FORM's CARD OF 'overseerlaw31.GuardsSuffice'. -/
def guardsSufficeUptoCard : Claim7 := { stood := { row := guardsSufficeUptoRow, standIns := [], harness := (true, "12aec0685c543a21e0343cf519cec5d7e9137c8739b1769542b94fdb1254e06a"), looks := false }, kinds := [], alts := [], laidByText := true, laidKinds := [.data, .data, .data], laidTests := true, laidLooks := .later }
def GuardsSufficeUptoCardSaid : Prop := Claim7.holds Tryz.pinned (.plain (OpenSpec.upto guardsSufficeSpec)) guardsSufficeUptoCard

/-- THE SECOND FORM's CARD OF 'overseerlaw31.GuardsTexts'. -/
def guardsTextsUptoCard : Claim7 := { stood := { row := guardsTextsUptoRow, standIns := [], harness := (true, "12aec0685c543a21e0343cf519cec5d7e9137c8739b1769542b94fdb1254e06a"), looks := false }, kinds := [], alts := [], laidByText := true, laidKinds := [.data, .data, .data], laidTests := true, laidLooks := .later }
def GuardsTextsUptoCardSaid : Prop := Claim7.holds Tryz.pinned (.plain (OpenSpec.upto guardsTextsSpec)) guardsTextsUptoCard

/-- THE SECOND FORM's CARD OF 'overseerlaw31.GuardsChecks'. -/
def guardsChecksUptoCard : Claim7 := { stood := { row := guardsChecksUptoRow, standIns := [], harness := (true, "12aec0685c543a21e0343cf519cec5d7e9137c8739b1769542b94fdb1254e06a"), looks := false }, kinds := [], alts := [], laidByText := true, laidKinds := [.data, .data, .data], laidTests := true, laidLooks := .later }
def GuardsChecksUptoCardSaid : Prop := Claim7.holds Tryz.pinned (.plain (OpenSpec.upto guardsChecksSpec)) guardsChecksUptoCard
end Rows
end Go.Proofs.YtikknocmfjfohaaGreatDoor
