/- A part of the proof of CatalogueSynthesisCardSaid: lemmas on the way (AnZqb). Conditions: none of ours. -/
import Derived.Test.YteiijgolpigjdaaGreatDoorAmS18
set_option linter.unusedSectionVars false
set_option maxHeartbeats 32000000
set_option maxRecDepth 100000
set_option linter.unusedVariables false
set_option linter.unusedSimpArgs false
namespace Go.AM.KN
open Go.Proofs
theorem Qsw:runK 2 2=true:=by kernel_rfl
theorem Qsx:runC 2 2=true:=by kernel_rfl
theorem Qsy:runK 2 3=true:=by kernel_rfl
theorem Qsz:runC 2 3=true:=by kernel_rfl
theorem QsA:runK 2 4=true:=by kernel_rfl
theorem QsB:runC 2 4=true:=by kernel_rfl
theorem QsC:runK 2 5=true:=by kernel_rfl
theorem QsD:runC 2 5=true:=by kernel_rfl
theorem QsE:runK 2 6=true:=by kernel_rfl
theorem QsF:runC 2 6=true:=by kernel_rfl
theorem QsG:runK 4 2=true:=by kernel_rfl
theorem QsH:runC 4 2=true:=by kernel_rfl
theorem QsI:runK 4 3=true:=by kernel_rfl
theorem QsJ:runC 4 3=true:=by kernel_rfl
theorem QsK:runK 4 4=true:=by kernel_rfl
theorem QsL:runC 4 4=true:=by kernel_rfl
theorem QsM:runK 4 5=true:=by kernel_rfl
theorem QsN:runC 4 5=true:=by kernel_rfl
theorem QsO:runK 4 6=true:=by kernel_rfl
theorem QsP:runC 4 6=true:=by kernel_rfl
theorem QsQ:runK 4 7=true:=by kernel_rfl
theorem QsR:runC 4 7=true:=by kernel_rfl
theorem QsS:runK 4 8=true:=by kernel_rfl
theorem QsT:runC 4 8=true:=by kernel_rfl
end Go.AM.KN
