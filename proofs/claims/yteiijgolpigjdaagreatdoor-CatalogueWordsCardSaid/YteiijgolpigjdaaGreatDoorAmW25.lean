/- A part of the proof of CatalogueWordsCardSaid: lemmas on the way (AnYcc). Conditions: none of ours. -/
import Derived.KernelRfl
import Derived.Test.YteiijgolpigjdaaGreatDoorAmW24
set_option linter.unusedSectionVars false
set_option maxHeartbeats 32000000
set_option maxRecDepth 100000
set_option linter.unusedVariables false
set_option linter.unusedSimpArgs false
namespace Go.AM.SO
open Go.Proofs
theorem Qtd:chkW 4 2 [0,1,10]=true:=by kernel_rfl
theorem Qte:chkW 4 3 [0,1,10,100]=true:=by kernel_rfl
theorem Qtf:chkW 4 4 [0,1,10,100,1000]=true:=by kernel_rfl
theorem Qtg:chkW 4 5 [0,1,10,100,1000,10000]=true:=by kernel_rfl
theorem Qth:chkW 4 6 [0,1,10,100,1000,10000,100000]=true:=by kernel_rfl
end Go.AM.SO
