/- A part of the proof of CellSelectsCardSaid: lemmas on the way (AmTq). Conditions: none of ours. -/
import Derived.Shelf.SlSortCmp.NoneTotal
import Derived.Test.YtmoanlnleppcpaaGreatDoorAmW15
set_option linter.unusedSectionVars false
set_option maxHeartbeats 32000000
set_option maxRecDepth 100000
set_option linter.unusedVariables false
set_option linter.unusedSimpArgs false
set_option linter.unusedSectionVars false
namespace Go.AM
open Go.Proofs Go.Shelf Go.Sort
variable{P:Program}{ρ:Ren}{α:Type}[Inhabited α]
theorem QiG{ok:Okc}{c:Ctx ok}{w:World}:∀{a:List Int}{vs:List Value},VPre c w (a.map (AV.int .i64)) vs->∃r,vs=a.map (Value.int .i64)++r|[],vs,_=>⟨vs,rfl⟩|n::a,vs,h=>by simp only[ZaW,VPre]at h;obtain⟨v,f,rfl,b,d⟩:=h;obtain⟨r,rfl⟩:=QiG d;simp only[VRel]at b;simp_all
theorem Qgb{ok:Okc}{c:Ctx ok}{w:World}:∀{a:List Int}{r:List Value},VPre c w (a.map (AV.int .i64)) (a.map (Value.int .i64)++r)|[],r=>by simp[VPre]|n::a,r=>by simp only[ZaW,VPre,Zbg];exact⟨_,_,rfl,by simp[VRel],Qgb⟩
end Go.AM
