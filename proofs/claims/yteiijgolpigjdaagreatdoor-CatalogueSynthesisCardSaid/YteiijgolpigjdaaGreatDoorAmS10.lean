/- A part of the proof of CatalogueSynthesisCardSaid: lemmas on the way (AnZt, AnZu). Conditions: none of ours. -/
import Derived.Test.YteiijgolpigjdaaGreatDoorProg
import Derived.KernelRfl
import Derived.Test.YteiijgolpigjdaaGreatDoorAmS9
set_option linter.unusedSectionVars false
set_option maxHeartbeats 32000000
set_option maxRecDepth 100000
set_option linter.unusedVariables false
set_option linter.unusedSimpArgs false
namespace Go.AM.CA
open Go.Proofs
set_option maxHeartbeats 4000000
noncomputable section
def cf:YA.Cf:={most:= .pure,always:=[11,13].map fun k=>(k,.heap)}
def s3:SFn:=by
 refine(?f:YA.Yt Tryz.prog cf 3 [[4],[25],[0,1,26],[4,0,1,26,28,29,30,27,31,32],[34,35,36,33,37,38],[39,40,41,42,43,44],[5,6,7,8,45,46,47],[4,5,6,8,45,49,50,51,48,52,53],[55,56,54,57,58,59],[9,61,62,60,63,64,65,15],[10,11,13,16,66,67,68,69,70,71,72,73,74,75,76,77,78,79,80,81,82,83,84,85,86,87,88,89,90,91,92,93,94,95,96,97,98,99,100,101,102,103,104,105,106,107],[7,12,14,108],[4,108],[109,110,111,112],[113,116,117,118,119,120,121,122,123,124,125,126,127,128,129,130,131],[133,134,135,136,137,138,139,140,141,132,142,143],[145,146,147,148,144,149,150],[18,152,153,154,151,155,156],[19,20,21,22,23,24,157,158,159,162,163,166,167,170,171,173,174],[7,12,14,17,176,175,172,169,168,165,164,161,160,177],[4,177,114,115],[7,12,14,17,176,175,172,169,168,165,164,161,160]] [(7,[(0,2),(0,6),(0,9),(7,9),(0,13),(7,13),(7,14)])]) ?s ?h
 case h=>exact YA.rr
 exact fun s _=>s
def s6:SFn:=by
 refine(?f:YA.Yt Tryz.prog cf 6 [[4,5],[0,9,10,11,12],[14,15,13,16,17],[1,6,7,8,18,19,20,21,22,23,24,25,26,27]]) ?s ?h
 case h=>exact YA.rr
 exact fun s _=>s
theorem ok3:okFn Tryz.prog 3 s3=true:=by kernel_rfl
theorem ok6:okFn Tryz.prog 6 s6=true:=by kernel_rfl
end
end Go.AM.CA
namespace Go.AM.KP
open Go.Proofs
set_option maxHeartbeats 4000000
noncomputable section
def cf:YA.Cf:={}
noncomputable def ft:FT2:=YA.tre Tryz.prog cf 20 [17]
theorem ft_ok:ft.OK Tryz.prog:=YA.QfQ _ _ (YA.Qe4 (by kernel_rfl))
end
end Go.AM.KP
