/- A part of the proof of CatalogueSynthesisCardSaid: lemmas on the way (AnZsc). Conditions: none of ours. -/
import Derived.KernelRfl
import Derived.Test.YteiijgolpigjdaaGreatDoorAmS23
set_option linter.unusedSectionVars false
set_option maxHeartbeats 32000000
set_option maxRecDepth 100000
set_option linter.unusedVariables false
set_option linter.unusedSimpArgs false
namespace Go.AM.SO
open Go.Proofs Go.AM.SD Go.AM.SE
theorem QtF:Knw (catC 3 2) (facC 3 2):=Qby (by kernel_rfl)
theorem QtG:Knw (catC 3 3) (facC 3 3):=Qby (by kernel_rfl)
theorem QtH:Knw (catC 3 4) (facC 3 4):=Qby (by kernel_rfl)
theorem QtI:Knw (catC 4 2) (facC 4 2):=Qby (by kernel_rfl)
theorem QtJ:Knw (catC 4 3) (facC 4 3):=Qby (by kernel_rfl)
theorem QtK:Knw (catC 4 4) (facC 4 4):=Qby (by kernel_rfl)
theorem QtL:Knw (catC 5 2) (facC 5 2):=Qby (by kernel_rfl)
theorem QtM:Knw (catC 5 3) (facC 5 3):=Qby (by kernel_rfl)
end Go.AM.SO
