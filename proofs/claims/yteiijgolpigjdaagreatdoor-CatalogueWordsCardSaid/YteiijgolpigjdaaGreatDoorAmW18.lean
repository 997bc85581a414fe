/- A part of the proof of CatalogueWordsCardSaid: lemmas on the way (AnZqa). Conditions: none of ours. -/
import Derived.Test.YteiijgolpigjdaaGreatDoorAmW17
set_option linter.unusedSectionVars false
set_option maxHeartbeats 32000000
set_option maxRecDepth 100000
set_option linter.unusedVariables false
set_option linter.unusedSimpArgs false
namespace Go.AM.KN
open Go.Proofs
theorem QrK:runK 1 1=true:=by kernel_rfl
theorem QrL:runC 1 1=true:=by kernel_rfl
theorem QrM:runK 1 2=true:=by kernel_rfl
theorem QrN:runC 1 2=true:=by kernel_rfl
theorem QrO:runK 1 3=true:=by kernel_rfl
theorem QrP:runC 1 3=true:=by kernel_rfl
theorem QrQ:runK 1 4=true:=by kernel_rfl
theorem QrR:runC 1 4=true:=by kernel_rfl
theorem QrS:runK 1 5=true:=by kernel_rfl
theorem QrT:runC 1 5=true:=by kernel_rfl
theorem QrU:runK 1 6=true:=by kernel_rfl
theorem QrV:runC 1 6=true:=by kernel_rfl
theorem QrW:runK 1 7=true:=by kernel_rfl
theorem QrX:runC 1 7=true:=by kernel_rfl
theorem QrY:runK 1 8=true:=by kernel_rfl
theorem QrZ:runC 1 8=true:=by kernel_rfl
end Go.AM.KN
