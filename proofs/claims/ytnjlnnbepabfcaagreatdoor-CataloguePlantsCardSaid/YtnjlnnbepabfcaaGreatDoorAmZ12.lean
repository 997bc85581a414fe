/- A part of the proof of CataloguePlantsCardSaid: lemmas on the way (AmIqb). Conditions: none of ours. -/
import Derived.Test.YtnjlnnbepabfcaaGreatDoorAmZ11
set_option linter.unusedSectionVars false
namespace Go.AM.IP
open Go.Proofs
set_option maxRecDepth 100000
theorem plants_9 : plantsB (.ofNat 9) = true := by kernel_rfl
theorem plants_10 : plantsB (.ofNat 10) = true := by kernel_rfl
theorem plants_11 : plantsB (.ofNat 11) = true := by kernel_rfl
theorem plants_12 : plantsB (.ofNat 12) = true := by kernel_rfl
end Go.AM.IP
