/- A part of the proof of CataloguePlantsCardSaid: lemmas on the way (AmIqd). Conditions: none of ours. -/
import Derived.Test.YtnjlnnbepabfcaaGreatDoorAmZ13
set_option linter.unusedSectionVars false
namespace Go.AM.IP
open Go.Proofs
set_option maxRecDepth 100000
theorem plants_16 : plantsB (.ofNat 16) = true := by kernel_rfl
end Go.AM.IP
