/- A part of the proof of CatalogueWordsCardSaid: lemmas on the way (AnZqb). Conditions: none of ours. -/
import Derived.Test.YteiijgolpigjdaaGreatDoorAmW18
set_option linter.unusedSectionVars false
set_option maxHeartbeats 32000000
set_option maxRecDepth 100000
set_option linter.unusedVariables false
set_option linter.unusedSimpArgs false
namespace Go.AM.KN
open Go.Proofs
theorem Qr0:runK 2 2=true:=by kernel_rfl
theorem Qr1:runC 2 2=true:=by kernel_rfl
theorem Qr2:runK 2 3=true:=by kernel_rfl
theorem Qr3:runC 2 3=true:=by kernel_rfl
theorem Qr4:runK 2 4=true:=by kernel_rfl
theorem Qr5:runC 2 4=true:=by kernel_rfl
theorem Qr6:runK 2 5=true:=by kernel_rfl
theorem Qr7:runC 2 5=true:=by kernel_rfl
theorem Qr8:runK 2 6=true:=by kernel_rfl
theorem Qr9:runC 2 6=true:=by kernel_rfl
theorem Qsa:runK 4 2=true:=by kernel_rfl
theorem Qsb:runC 4 2=true:=by kernel_rfl
theorem Qsc:runK 4 3=true:=by kernel_rfl
theorem Qsd:runC 4 3=true:=by kernel_rfl
theorem Qse:runK 4 4=true:=by kernel_rfl
theorem Qsf:runC 4 4=true:=by kernel_rfl
theorem Qsg:runK 4 5=true:=by kernel_rfl
theorem Qsh:runC 4 5=true:=by kernel_rfl
theorem Qsi:runK 4 6=true:=by kernel_rfl
theorem Qsj:runC 4 6=true:=by kernel_rfl
theorem Qsk:runK 4 7=true:=by kernel_rfl
theorem Qsl:runC 4 7=true:=by kernel_rfl
theorem Qsm:runK 4 8=true:=by kernel_rfl
theorem Qsn:runC 4 8=true:=by kernel_rfl
end Go.AM.KN
