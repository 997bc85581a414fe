/- A part of the proof of CatalogueWordsCardSaid: lemmas on the way (AnZt, AnZu). Conditions: none of ours. -/
import Derived.Test.YteiijgolpigjdaaGreatDoorProg
import Derived.KernelRfl
import Derived.Test.YteiijgolpigjdaaGreatDoorAmW9
set_option linter.unusedSectionVars false
set_option maxHeartbeats 32000000
set_option maxRecDepth 100000
set_option linter.unusedVariables false
set_option linter.unusedSimpArgs false
namespace Go.AM.CA
open Go.Proofs
set_option maxHeartbeats 4000000
noncomputable section
def cf:YA.Cf:={most:= .pure,always:=[11,13].map fun k=>(k,.heap)}
def s4:SFn:=by
 refine(?f:YA.Yt Tryz.prog cf 4 [[6],[22,23,24,25,26,27],[0,1,2,28,29],[6,0,1,28,31,32,33,30,34,35],[37,38,39,36,40,41],[43,44,45,42,46,47],[11,48,49,50,51,52,53,54,55,56,57],[2,7,8,9,10,12,58,59,60,61,62,63,64],[6,10,12,58,66,67,65,68,69],[14,70],[2,7,8,9,13,71],[6,71],[],[72],[],[16,73,74,75,76,77],[79,82,83,84,85,86,87,88,89,90],[91,92,93,94],[19,95,96,97,98,99],[101,102,103,100,104,105],[20,21,106,107,108],[2,7,8,9,13,15,17,18,111,109,110,78,16,112],[6,112,80,81],[2,7,8,9,13,15,16,17,18,111,109,110,78]]) ?s ?h
 case h=>exact YA.rr
 exact fun s _=>s
def s6:SFn:=by
 refine(?f:YA.Yt Tryz.prog cf 6 [[4,5],[0,9,10,11,12],[14,15,13,16,17],[1,6,7,8,18,19,20,21,22,23,24,25,26,27]]) ?s ?h
 case h=>exact YA.rr
 exact fun s _=>s
theorem ok4:okFn Tryz.prog 4 s4=true:=by kernel_rfl
theorem ok6:okFn Tryz.prog 6 s6=true:=by kernel_rfl
end
end Go.AM.CA
namespace Go.AM.KP
open Go.Proofs
set_option maxHeartbeats 4000000
noncomputable section
def cf:YA.Cf:={}
noncomputable def ft:FT2:=YA.tre Tryz.prog cf 20 [17]
theorem ft_ok:ft.OK Tryz.prog:=YA.QeC _ _ (YA.Qd6 (by kernel_rfl))
end
end Go.AM.KP
