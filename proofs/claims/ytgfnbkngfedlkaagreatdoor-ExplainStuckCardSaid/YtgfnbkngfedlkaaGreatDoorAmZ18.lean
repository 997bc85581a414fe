/- A part of the proof of ExplainEventsCardSaid: lemmas on the way (AmTz, AnSi, AnSg, AnHz, AnSh, AnSk). Conditions: none of ours. -/
import Derived.Shelf.Slices.Reverse
import Derived.KernelRfl
import Derived.Test.YtgfnbkngfedlkaaGreatDoorProg
import Derived.Test.YtgfnbkngfedlkaaGreatDoorAmX17
set_option linter.unusedSectionVars false
set_option maxHeartbeats 32000000
set_option maxRecDepth 100000
set_option linter.unusedVariables false
set_option linter.unusedSimpArgs false
set_option linter.unusedSectionVars false
namespace Go.AM
open Go.Proofs Go.Shelf Go.Sort
variable{P:Program}{ρ:Ren}
end Go.AM
namespace Go.Proofs
open Go.Shelf
end Go.Proofs
namespace Go.AM.SO
open Go.Proofs Go.AM.SD Go.AM.SE
end Go.AM.SO
namespace Go.AM.SO
open Go.Proofs Go.AM.SD Go.AM.SE
abbrev stdY(c:Cel)(p q:Aut)(TA TB:List (List Nat))(X:List Nat)(F:List (Nat×Int×Int×Int))(r:Res)(u:List Nat):List AV:=stdX c p q (tuV TA) (tuV TB) (sliN X) (rss F) r (remM r.rem) (sliN u)
theorem Qde(F:List (Nat×Int×Int×Int)):noRef (rss F)=true:=by rw[noRef];exact Qbo _
theorem Qcu(c:Cel):stdC c=stdY c (plA c) (spQ c) (spA c (sync0 (allA c)).1) (spB c (sync0 (allA c)).1) (spP c (sync0 (auL c.cs)).1 (sync0 (allA c)).1) (forb c (sync0 (allA c)).1.length) (resC c) (uncL c.ev 5):=rfl
theorem Qho{R:List Rm}{s:Nat}:remAt R s=none↔s∉R.map (·.st):=by
 unfold remAt;rw[Zbb,Zan];constructor;·rintro h⟨x,a,rfl⟩;exact h x a (by simp)
 intro h x a e;exact h ⟨x,a,by simpa using e⟩
theorem Qr2{R:List Rm}{s:Nat}{x:Rm}(h:remAt R s=some x):rmF R s=.agg (rmC x):=by rw[rmF,h];rfl
theorem Qr3{R:List Rm}{s:Nat}{x:Rm}(h:remAt R s=some x):s∈R.map (·.st):=by rw[<-Decidable.not_not (p:=s∈_),<-Qho,h];simp
abbrev rmV(x:Rm):AV:=.agg [.int .i64 (x.st:Int),.int .i64 x.rank,.int .i64 (x.reason:Int),.int .i64 x.ev]
section
variable{P:Program}{N:NM}{n:Nat}{d:Option Nat}{dead:List Nat}{ops:List SOper}{T:Tmps}{h:Heap}{Q:QC}{fs:List Fr}
theorem QcW{R:List Rm}{s:Nat}(hk:wR P N ops dead fs (n+1) (putD T d (rmV (rmD R s))) h Q):wM P N (aLookup false [.i] (.agg [.int .i64 0,.int .i64 0,.int .i64 0,.int .i64 0]) false (remM R) (.int .i64 (s:Int))) d ops dead fs n T h Q:=by cases hm:remAt R s with|none=>refine Qeb (c:=kI) (f:=rmF R) (x:=s) (l:=R.map (·.st)) Qbb (Qho.1 hm) ?_;unfold rmD at hk;rw[hm]at hk;exact hk|some x=>refine Qdn (c:=kI) (f:=rmF R) (x:=s) (l:=R.map (·.st)) Qbb (Qr3 hm) ?_;unfold rmD at hk;rw[hm]at hk;rw[Qr2 hm];exact hk
end
end Go.AM.SO
namespace Go.AM.TU
open Go.Proofs
set_option maxHeartbeats 4000000
noncomputable section
def cf:YA.Cf:={most:=.pure,always:=[156,41].map fun k=>(k,.heap)}
end
end Go.AM.TU
namespace Go.AM.SO
open Go.Proofs Go.AM.SD Go.AM.SE
structure StOk(c:Cel)(q:Aut)(left:Nat->Bool)(F:List (Nat×Int×Int×Int))(r:Res)(u:List Nat):Prop where
 w:WfA q
 u1:u.Pairwise (·<·)ul:u.length<=1000000
 R:RemOk q u left r.rem
 F1:(fbs F).Pairwise (·<·)Fl:F.length<=1000000
 fb:∀x∈r.rem,x.reason=1->x.st∈fbs F
 rl:r.rem.length<=1000000
end Go.AM.SO
namespace Go.AM.XK
open Go.Proofs
set_option maxHeartbeats 4000000
noncomputable section
def cf:YA.Cf:={most:=.pure,always:=[41,93].map fun k=>(k,.heap),value:=.pure}
def s33:SFn:=by
 refine(?f:YA.Yt Tryz.prog cf 33 [[0,3],[1,8,9],[11,12,10,13,14,15],[4,5,6,7,16,17,18,19,20,21]]) ?s ?h;case h=>exact YA.rr
 exact fun s _=>s
def s43:SFn:=by
 refine(?f:YA.Yt Tryz.prog cf 43 [[0,5],[2,8,9,10],[],[14,15,16],[17,18,19],[1,11,12,13,7,20,21],[5,7,20,22],[1,11,12,13,23]]) ?s ?h;case h=>exact YA.rr
 exact fun s _=>s
theorem ok33:okFn Tryz.prog 33 s33=true:=by kernel_rfl
theorem ok43:okFn Tryz.prog 43 s43=true:=by kernel_rfl
end
end Go.AM.XK
