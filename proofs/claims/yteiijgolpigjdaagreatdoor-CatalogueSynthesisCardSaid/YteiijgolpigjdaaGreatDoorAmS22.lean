/- A part of the proof of CatalogueSynthesisCardSaid: lemmas on the way (AnZsa). Conditions: none of ours. -/
import Derived.KernelRfl
import Derived.Test.YteiijgolpigjdaaGreatDoorAmS21
set_option linter.unusedSectionVars false
set_option maxHeartbeats 32000000
set_option maxRecDepth 100000
set_option linter.unusedVariables false
set_option linter.unusedSimpArgs false
namespace Go.AM.SO
open Go.Proofs Go.AM.SD Go.AM.SE
theorem Qtu:Knw (catC 1 1) (facC 1 1):=Qby (by kernel_rfl)
theorem Qtv:Knw (catC 1 2) (facC 1 2):=Qby (by kernel_rfl)
theorem Qtw:Knw (catC 1 3) (facC 1 3):=Qby (by kernel_rfl)
theorem Qtx:Knw (catC 1 4) (facC 1 4):=Qby (by kernel_rfl)
theorem Qty:Knw (catC 1 5) (facC 1 5):=Qby (by kernel_rfl)
theorem Qtz:Knw (catC 1 6) (facC 1 6):=Qby (by kernel_rfl)
theorem QtA:Knw (catC 1 7) (facC 1 7):=Qby (by kernel_rfl)
theorem QtB:Knw (catC 1 8) (facC 1 8):=Qby (by kernel_rfl)
end Go.AM.SO
