/- A part of the proof of CatalogueSynthesisCardSaid: lemmas on the way (AnZqa). Conditions: none of ours. -/
import Derived.Test.YteiijgolpigjdaaGreatDoorAmS17
set_option linter.unusedSectionVars false
set_option maxHeartbeats 32000000
set_option maxRecDepth 100000
set_option linter.unusedVariables false
set_option linter.unusedSimpArgs false
namespace Go.AM.KN
open Go.Proofs
theorem Qsg:runK 1 1=true:=by kernel_rfl
theorem Qsh:runC 1 1=true:=by kernel_rfl
theorem Qsi:runK 1 2=true:=by kernel_rfl
theorem Qsj:runC 1 2=true:=by kernel_rfl
theorem Qsk:runK 1 3=true:=by kernel_rfl
theorem Qsl:runC 1 3=true:=by kernel_rfl
theorem Qsm:runK 1 4=true:=by kernel_rfl
theorem Qsn:runC 1 4=true:=by kernel_rfl
theorem Qso:runK 1 5=true:=by kernel_rfl
theorem Qsp:runC 1 5=true:=by kernel_rfl
theorem Qsq:runK 1 6=true:=by kernel_rfl
theorem Qsr:runC 1 6=true:=by kernel_rfl
theorem Qss:runK 1 7=true:=by kernel_rfl
theorem Qst:runC 1 7=true:=by kernel_rfl
theorem Qsu:runK 1 8=true:=by kernel_rfl
theorem Qsv:runC 1 8=true:=by kernel_rfl
end Go.AM.KN
