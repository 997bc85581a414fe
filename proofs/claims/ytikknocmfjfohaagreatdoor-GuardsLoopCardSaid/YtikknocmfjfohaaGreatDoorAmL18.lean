/- A part of the proof of GuardsLoopCardSaid: lemmas on the way (AnQg). Conditions: none of ours. -/
import Derived.KernelRfl
import Derived.Test.YtikknocmfjfohaaGreatDoorAmL17
set_option linter.unusedSectionVars false
set_option maxHeartbeats 32000000
set_option maxRecDepth 100000
set_option linter.unusedVariables false
set_option linter.unusedSimpArgs false
namespace Go.AM.GJ
open Go.Proofs
noncomputable section
def isT:AV->Bool|.bool true=>true|_=>false
theorem QvL:∀u,isT u=true->u=.bool true:=by
 intro u h;unfold isT at h;split at h;·rfl
 cases h
theorem known29:Ps 8 [] (.bool true):=Qb2 (t:=ft) ft_ok QdN (d:=100000) isT QvL (by kernel_rfl)
end
end Go.AM.GJ
