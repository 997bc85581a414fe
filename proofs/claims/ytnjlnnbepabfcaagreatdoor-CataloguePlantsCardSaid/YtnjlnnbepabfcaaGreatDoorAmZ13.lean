/- A part of the proof of CataloguePlantsCardSaid: lemmas on the way (AmIqc). Conditions: none of ours. -/
import Derived.Test.YtnjlnnbepabfcaaGreatDoorAmZ12
set_option linter.unusedSectionVars false
namespace Go.AM.IP
open Go.Proofs
set_option maxRecDepth 100000
theorem plants_13 : plantsB (.ofNat 13) = true := by kernel_rfl
theorem plants_14 : plantsB (.ofNat 14) = true := by kernel_rfl
theorem plants_15 : plantsB (.ofNat 15) = true := by kernel_rfl
end Go.AM.IP
