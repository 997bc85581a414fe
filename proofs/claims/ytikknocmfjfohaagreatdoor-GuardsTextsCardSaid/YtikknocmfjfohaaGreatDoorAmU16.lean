/- A part of the proof of GuardsTextsCardSaid: lemmas on the way (AnQg, AnVy). Conditions: none of ours. -/
import Derived.KernelRfl
import Derived.Test.YtikknocmfjfohaaGreatDoorAmU15
set_option linter.unusedSectionVars false
set_option maxHeartbeats 32000000
set_option maxRecDepth 100000
set_option linter.unusedVariables false
set_option linter.unusedSimpArgs false
namespace Go.AM.GJ
open Go.Proofs
noncomputable section
def isT:AV->Bool| .bool true=>true|_=>false
theorem QqL:∀u,isT u=true->u= .bool true:=by
 intro u h
 unfold isT at h
 split at h
 ·rfl
 ·cases h
theorem known29:PSpec Tryz.prog 8 [] (.bool true):=
 QbT (t:=ft) ft_ok Qdb (d:=100000) isT QqL (by kernel_rfl)
end
end Go.AM.GJ
namespace Go.AM.SO
open Go.Proofs Go.AM.SD Go.AM.SE
theorem QfI (D:List Nat):(u8s D).all AV.one=true:=by
 unfold u8s
 simp[AV.one]
theorem wkNilG {sz:Nat}:SN.Wk .nilsl (.fsl [] 0 sz):=fun _ c w v hv=>by
 simp only[VRel]at hv⊢
 exact .inl ⟨⟨none,hv⟩,trivial,trivial⟩
theorem wka {f:Nat} {xs ys:List AV} {v:AV} (hp:PSpec Tryz.prog f ys v) (hw:SN.WkL xs ys) (hn:noRefs xs=true):PSpec Tryz.prog f xs v:=by
 obtain⟨_,h2,h',hc,hs⟩:=hp
 exact⟨hn,h2,h',hc,fun c w cargs H ha=>hs c w cargs H (hw.rels ha)⟩
end Go.AM.SO
