/- On the way to GuardsSuffice. Conditions: none of ours. -/
import Derived.Test.YtikknocmfjfohaaGreatDoorProg
import Derived.KernelRfl
import Derived.Test.YtikknocmfjfohaaGreatDoorAmT11
set_option maxHeartbeats 32000000
set_option maxRecDepth 100000
namespace Go.AM.GJ
open Go.Proofs
set_option maxHeartbeats 4000000
noncomputable section
def cf:YA.Cf:={}
noncomputable def ft:FT2:=YA.tre Tryz.prog cf 20 [8,13,14,23,31,35,41,44,45,46,47,48,49,50,51,52,53,62,64,65,66,69,70,71,76,77,78,83,84,86,88,95,98,99,100,101,102,103,104,105,106,107,108,109,110,111,112,113,114,115,116,117,118,119,120,121,122,123,127,128,129,130,131,132,133,139,142,144,146,147,151,152,154,155,156,157,158,159,160,161,162,163,164,165,166,167,168,169,170,171,172,173,174,175,176,177,178,179,182,183,191,192,193,194,195,196,197,198,199,200,201,202,203,204,205,206,207,208,209,210,211,212,213,214,215,216,217,218,219,220,221,222,223,224,225,226,227,228,229,230,231,232,233,234,236,237,245,251,252,253,254,255,256,257,258,259,260,261,262,263,264,265,266,267,268,269,270,271,272,276,277,278,279,280,281,282,283,284,286,287,288,289,290,291]
theorem ft_ok:ft.OK Tryz.prog:=YA.QgH _ _ (YA.QfR (by kernel_rfl))
end
noncomputable section
def isT:AV->Bool|.bool true=>true|_=>false
theorem QwT:∀u,isT u=true->u=.bool true:=by
 intro u h;unfold isT at h;split at h;·rfl
 cases h
theorem known29:Ps 8 [] (.bool true):=Qb6 (t:=ft) ft_ok QdK (d:=100000) isT QwT (by kernel_rfl)
end
end Go.AM.GJ
