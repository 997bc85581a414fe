/- A part of the proof of ExplainEventsCardSaid: lemmas on the way (AnTl, AnTo). Conditions: none of ours. -/
import Derived.Test.YtgfnbkngfedlkaaGreatDoorAmZ20
set_option linter.unusedSectionVars false
set_option maxHeartbeats 32000000
set_option maxRecDepth 100000
set_option linter.unusedVariables false
set_option linter.unusedSimpArgs false
namespace Go.AM.SO
open Go.Proofs Go.AM.SD Go.AM.SE
end Go.AM.SO
namespace Go.AM.SO
open Go.Proofs Go.AM.SD Go.AM.SE
end Go.AM.SO
