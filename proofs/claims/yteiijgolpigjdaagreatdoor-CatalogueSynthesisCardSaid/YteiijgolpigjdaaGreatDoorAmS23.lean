/- A part of the proof of CatalogueSynthesisCardSaid: lemmas on the way (AnZsb). Conditions: none of ours. -/
import Derived.KernelRfl
import Derived.Test.YteiijgolpigjdaaGreatDoorAmS22
set_option linter.unusedSectionVars false
set_option maxHeartbeats 32000000
set_option maxRecDepth 100000
set_option linter.unusedVariables false
set_option linter.unusedSimpArgs false
namespace Go.AM.SO
open Go.Proofs Go.AM.SD Go.AM.SE
theorem QtC:Knw (catC 2 2) (facC 2 2):=Qby (by kernel_rfl)
theorem QtD:Knw (catC 2 3) (facC 2 3):=Qby (by kernel_rfl)
theorem QtE:Knw (catC 2 4) (facC 2 4):=Qby (by kernel_rfl)
end Go.AM.SO
