/- A part of the proof of GuardsManyCardSaid: lemmas on the way (AnQa, AnGj, AnQg, AmTx). Conditions: none of ours. -/
import Derived.Test.YtgfnbkngfedlkaaGreatDoorProg
import Derived.KernelRfl
import Derived.Test.YtgfnbkngfedlkaaGreatDoorAmG8
set_option linter.unusedSectionVars false
set_option maxHeartbeats 32000000
set_option maxRecDepth 100000
set_option linter.unusedVariables false
set_option linter.unusedSimpArgs false
namespace Go.AM.QA
open Go.Proofs
set_option maxHeartbeats 4000000
noncomputable section
def cf:YA.Cf:={always:=[(29,.pure)]}
noncomputable def ft:FT2:=YA.tre Tryz.prog cf 20 [5,16,17,21,29,30,31,36,39,41,46,48,49,52,55,58,59,60,61,62,63,64,73,74,75,76,77,85,86,87,89,90,91,96,97,98,99,100,101,102,103,105,106,107,108,109,112,113,114,115,116,117,118,119,120,121,122,123,124,125,128,129,130,131,132,133,134,135,136,137,138,139,140,142,143,149,150,151,160,161,162,171,174,175,176,177,178,179,180,181,182,183,184,185,186,187,188,189,190,191,192,193,194,196,197,198,199,200,201,202,203,204,205,214,215,216,218,219,223,227,228,229,230,231,232,234,235,238,239,240,241,242,249,250,251,252,253,254,255,256,257,261,262,263,264,267,270,271,272,274,275,276,277,278,279,280,281,282,283,287,288,289,290,291,297,298,299,300,301,302,303,304,305,306,307,308,312,313,314,315,316,317,318,319,320,321]
theorem ft_ok:ft.OK Tryz.prog:=YA.QdO _ _ (YA.Qdo (by kernel_rfl))
end
end Go.AM.QA
namespace Go.AM.GJ
open Go.Proofs
set_option maxHeartbeats 4000000
noncomputable section
def cf:YA.Cf:={}
noncomputable def ft:FT2:=YA.tre Tryz.prog cf 20 [16,17,21,29,31,36,39,41,46,48,49,52,55,58,59,60,61,62,63,64,73,74,75,76,77,85,86,87,89,90,91,96,97,98,99,100,101,102,103,105,106,107,108,109,112,113,114,115,116,117,118,119,120,121,122,123,124,125,128,129,130,131,132,133,134,135,136,137,138,139,140,142,143,149,150,151,160,161,162,171,174,175,176,177,178,179,180,181,182,183,184,185,186,187,188,189,190,191,192,193,194,196,197,198,199,200,201,202,203,204,205,214,215,216,218,219,223,227,228,229,230,231,232,234,235,238,239,240,241,242,249,250,251,252,253,254,255,256,257,261,262,263,264,267,270,271,272,274,275,276,277,278,279,280,281,282,283,287,288,289,290,291,297,298,299,300,301,302,303,304,305,306,307,308,312,313,314,315,316,317,318,319,320,321]
theorem ft_ok:ft.OK Tryz.prog:=YA.QdO _ _ (YA.Qdo (by kernel_rfl))
end
end Go.AM.GJ
namespace Go.AM.GJ
open Go.Proofs
noncomputable section
def isT:AV->Bool| .bool true=>true|_=>false
theorem Qiy:∀u,isT u=true->u= .bool true:=by
 intro u h
 unfold isT at h
 split at h
 ·rfl
 ·cases h
theorem known29:PSpec Tryz.prog 29 [] (.bool true):=
 QeQ (t:=ft) ft_ok QfG (d:=100000) isT Qiy (by kernel_rfl)
end
end Go.AM.GJ
namespace Go.AM
namespace RX
def isTrue:AV->Bool| .bool true=>true|_=>false
theorem QhJ:∀u,isTrue u=true->u= .bool true:=by
 intro u h
 unfold isTrue at h
 split at h
 ·rfl
 ·cases h
def kTrue (t:Nat):KcA Bool:=fun e T _ _=>match e with
 | .ret=>isTrue (lk T t)
 |_=>false
theorem Qh4 {t:Nat} {e:SX} {T:Tmps} {h:Heap} {n:Nat} (hk:kTrue t e T h n=true):e= .ret/\lk T t= .bool true:=by
 unfold kTrue at hk
 cases e<;>simp only[Bool.false_eq_true]at hk
 exact⟨rfl,QhJ _ hk⟩
def restC:FCode->FCode
 | .seq _ b=>b
 |c=>c
def hdC:FCode->FCode
 | .seq a _=>a
 |c=>c
variable {P:Program}
theorem W2_ex {t:FT2} (ht:t.OK P) {orc:Orc} (ho:OrcOK P orc) {N:NM} {d m:Nat} {a:FCode} {T:Tmps} {h:Heap} {Q:SX->St->Prop} {G:Tmps->Heap->Nat->Prop}
  (hx:exR ansP orc t.get d a T h m (fun e T h n=>e= .normal/\G T h n)) (hG:∀T h n,G T h n->Q .normal ⟨T,h⟩):W2 P N a.slim Q ⟨T,h⟩:=by
 obtain⟨e,T',h',n',⟨rfl,h1⟩,h2,_⟩:=QcC Qig ho (FT2.ok ht) d N.n a T h m _ (show ansP.holds _ from hx)
 refine(W2.of_W h2).mono ?_
 grind
theorem Qiz {t:FT2} (ht:t.OK P) {orc:Orc} (ho:OrcOK P orc) {N:NM} {d m:Nat} {c:FCode} {T:Tmps} {h:Heap} {Q:SX->St->Prop} (k:KcA Bool)
  (hx:exR ansB orc t.get d c T h m k=true) (hk:∀e T h n,k e T h n=true->Q e ⟨T,h⟩):W2 P N c.slim Q ⟨T,h⟩:=
 W2.of_W (Qh3 ht ho k hx hk)
end RX
end Go.AM
