/- A part of the proof of CellChecksCardSaid: lemmas on the way (AmTq). Conditions: none of ours. -/
import Derived.Shelf.SlSortCmp.NoneTotal
import Derived.Test.YtmoanlnleppcpaaGreatDoorAmY11
set_option linter.unusedSectionVars false
set_option maxHeartbeats 32000000
set_option maxRecDepth 100000
set_option linter.unusedVariables false
set_option linter.unusedSimpArgs false
set_option linter.unusedSectionVars false
namespace Go.AM
open Go.Proofs Go.Shelf Go.Sort
variable {P:Program} {ρ:Ren} {α:Type} [Inhabited α]
theorem QgV {ok:Okc} {c:Ctx ok} {w:World}:∀{ns:List Int} {vs:List Value},VPre c w (ns.map (AV.int .i64)) vs->∃r,vs=ns.map (Value.int .i64)++r
 |[],vs,_=>⟨vs,rfl⟩
 |n::ns,vs,h=>by
  simp only[List.map_cons,VPre]at h
  obtain⟨v,vs',rfl,hv,hr⟩:=h
  obtain⟨r,rfl⟩:=QgV hr
  simp only[VRel]at hv
  simp_all
theorem QeU {ok:Okc} {c:Ctx ok} {w:World}:∀{ns:List Int} {r:List Value},VPre c w (ns.map (AV.int .i64)) (ns.map (Value.int .i64)++r)
 |[],r=>by simp[VPre]
 |n::ns,r=>by
  simp only[List.map_cons,VPre,List.cons_append]
  exact⟨_,_,rfl,by simp[VRel],QeU⟩
end Go.AM
