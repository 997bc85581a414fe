/- A part of the proof of CatalogueSynthesisCardSaid: lemmas on the way (AnZs). Conditions: none of ours. -/
import Derived.KernelRfl
import Derived.Test.YteiijgolpigjdaaGreatDoorAmS20
set_option linter.unusedSectionVars false
set_option maxHeartbeats 32000000
set_option maxRecDepth 100000
set_option linter.unusedVariables false
set_option linter.unusedSimpArgs false
namespace Go.AM.SO
open Go.Proofs Go.AM.SD Go.AM.SE
theorem Qtb:WfG (catC 1 1):=Qbd (by kernel_rfl)
theorem Qtc:WfG (catC 1 2):=Qbd (by kernel_rfl)
theorem Qtd:WfG (catC 1 3):=Qbd (by kernel_rfl)
theorem Qte:WfG (catC 1 4):=Qbd (by kernel_rfl)
theorem Qtf:WfG (catC 1 5):=Qbd (by kernel_rfl)
theorem Qtg:WfG (catC 1 6):=Qbd (by kernel_rfl)
theorem Qth:WfG (catC 1 7):=Qbd (by kernel_rfl)
theorem Qti:WfG (catC 1 8):=Qbd (by kernel_rfl)
theorem Qtj:WfG (catC 2 2):=Qbd (by kernel_rfl)
theorem Qtk:WfG (catC 2 3):=Qbd (by kernel_rfl)
theorem Qtl:WfG (catC 2 4):=Qbd (by kernel_rfl)
theorem Qtm:WfG (catC 3 2):=Qbd (by kernel_rfl)
theorem Qtn:WfG (catC 3 3):=Qbd (by kernel_rfl)
theorem Qto:WfG (catC 3 4):=Qbd (by kernel_rfl)
theorem Qtp:WfG (catC 4 2):=Qbd (by kernel_rfl)
theorem Qtq:WfG (catC 4 3):=Qbd (by kernel_rfl)
theorem Qtr:WfG (catC 4 4):=Qbd (by kernel_rfl)
theorem QpT:WfG (catC 4 5):=Qbd (by kernel_rfl)
theorem QpU:WfG (catC 4 6):=Qbd (by kernel_rfl)
theorem QpV:WfG (catC 4 7):=Qbd (by kernel_rfl)
theorem QpW:WfG (catC 4 8):=Qbd (by kernel_rfl)
theorem Qts:WfG (catC 5 2):=Qbd (by kernel_rfl)
theorem Qtt:WfG (catC 5 3):=Qbd (by kernel_rfl)
theorem QpX:WfG (catC 5 4):=Qbd (by kernel_rfl)
theorem QpY:WfG (catC 5 5):=Qbd (by kernel_rfl)
theorem QpZ:WfG (catC 5 6):=Qbd (by kernel_rfl)
end Go.AM.SO
