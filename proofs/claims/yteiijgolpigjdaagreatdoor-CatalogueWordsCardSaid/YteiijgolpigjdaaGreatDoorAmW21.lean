/- A part of the proof of CatalogueWordsCardSaid: lemmas on the way (AnZs, AnZv, AnZw, AnYa). Conditions: none of ours. -/
import Derived.KernelRfl
import Derived.Test.YteiijgolpigjdaaGreatDoorProg
import Derived.Test.YteiijgolpigjdaaGreatDoorAmW20
set_option linter.unusedSectionVars false
set_option maxHeartbeats 32000000
set_option maxRecDepth 100000
set_option linter.unusedVariables false
set_option linter.unusedSimpArgs false
namespace Go.AM.SO
open Go.Proofs Go.AM.SD Go.AM.SE
theorem QsF:WfG (catC 1 1):=Qbr (by kernel_rfl)
theorem QsG:WfG (catC 1 2):=Qbr (by kernel_rfl)
theorem QsH:WfG (catC 1 3):=Qbr (by kernel_rfl)
theorem QsI:WfG (catC 1 4):=Qbr (by kernel_rfl)
theorem QsJ:WfG (catC 1 5):=Qbr (by kernel_rfl)
theorem QsK:WfG (catC 1 6):=Qbr (by kernel_rfl)
theorem QsL:WfG (catC 1 7):=Qbr (by kernel_rfl)
theorem QsM:WfG (catC 1 8):=Qbr (by kernel_rfl)
theorem QsN:WfG (catC 2 2):=Qbr (by kernel_rfl)
theorem QsO:WfG (catC 2 3):=Qbr (by kernel_rfl)
theorem QsP:WfG (catC 3 2):=Qbr (by kernel_rfl)
theorem QsQ:WfG (catC 3 3):=Qbr (by kernel_rfl)
theorem QsR:WfG (catC 3 4):=Qbr (by kernel_rfl)
theorem QsS:WfG (catC 4 2):=Qbr (by kernel_rfl)
theorem QsT:WfG (catC 4 3):=Qbr (by kernel_rfl)
theorem QsU:WfG (catC 4 4):=Qbr (by kernel_rfl)
theorem QsV:WfG (catC 4 5):=Qbr (by kernel_rfl)
theorem QsW:WfG (catC 4 6):=Qbr (by kernel_rfl)
theorem QsX:WfG (catC 5 2):=Qbr (by kernel_rfl)
theorem QsY:WfG (catC 5 3):=Qbr (by kernel_rfl)
theorem QsZ:WfG (catC 5 4):=Qbr (by kernel_rfl)
end Go.AM.SO
namespace Go.AM.SO
open Go.Proofs Go.AM.SD Go.AM.SE
def least (r:Nat):Nat:=match r with|0=>1|_=>2
def most (r:Nat):Nat:=match r with|0=>8|1=>6|2=>4|3=>8|_=>6
def isSizes (r:Nat):AV->Bool
 | .tup [.int .i64 x,.int .i64 y]=>decide (x=least r)&&decide (y=most r)
 |_=>false
theorem QnL (r:Nat):∀u,isSizes r u=true->u= .tup [.int .i64 (least r),.int .i64 (most r)]:=by
 intro u h
 unfold isSizes at h
 split at h
 ·simp only [Bool.and_eq_true, decide_eq_true_eq] at h
  rw[h.1,h.2]
 ·cases h
theorem sizes17 (r:Nat) (hr:r<5):PSpec Tryz.prog 17 [.int .i64 (1+(r:Int))] (.tup [.int .i64 (least r),.int .i64 (most r)]):=by
 have h:r=0\/r=1\/r=2\/r=3\/r=4:=by omega
 rcases h with rfl|rfl|rfl|rfl|rfl
 all_goals exact QdB (t:=KP.ft) KP.ft_ok Qd5 (d:=1000) (isSizes _) (QnL _) (by kernel_rfl)
def room (r:Nat):Nat:=most r-least r+1
theorem pick6 (a b:Nat) (ha:a<256) (hb:b<256):PSpec Tryz.prog 6 [.int .u8 (a:Int),.int .u8 (b:Int)] (.tup [.int .i64 (1+((a % 5:Nat):Int)),.int .i64 ((least (a % 5):Int)+((b % room (a % 5):Nat):Int))]):=by
 have h5:a % 5<5:=Nat.mod_lt _ (by decide)
 have e5:(a:Int).tmod 5=((a % 5:Nat):Int):=by
  show(Int.ofNat a).tmod (Int.ofNat 5)=_
  rfl
 have hz:=sizes17 (a % 5) h5
 generalize hr:a % 5=r at*
 have hm:least r<=most r/\most r<=8/\1<=least r/\least r<=2/\room r=most r-least r+1:=by
  have h:r=0\/r=1\/r=2\/r=3\/r=4:=by omega
  rcases h with rfl|rfl|rfl|rfl|rfl<;>decide
 obtain⟨m1,m2,m3,m4,m5⟩:=hm
 have e7:(b:Int).tmod ((most r:Int)-(least r:Int)+1)=((b % room r:Nat):Int):=by
  rw[m5,show(most r:Int)-(least r:Int)+1=((most r-least r+1:Nat):Int) by omega]
  rfl
 have hmod:b % room r<room r:=Nat.mod_lt _ (by omega)
 have hb':(b:Int)<256:=by omega
 refine PSpec.QaB 64 CA.ok6 rfl rfl rfl ?_
 simp(disch:=first|omega|(simp only[lenW]<;>omega)) only[CA.s6,e5,wV,simprocAttr]
 refine cp hz ?_
 simp(disch:=first|omega|(simp only[lenW]<;>omega)) only[e7,wV,simprocAttr]
 exact⟨.inr trivial,_,rfl,rfl⟩
def pairs:List (Nat×Nat):=[(1,1),(1,2),(1,3),(1,4),(1,5),(1,6),(1,7),(1,8),(2,2),(2,3),(2,4),(2,5),(2,6),(3,2),(3,3),(3,4),(4,2),(4,3),(4,4),(4,5),(4,6),(4,7),(4,8),(5,2),(5,3),(5,4),(5,5),(5,6)]
theorem Qpp:∀r,r<5->∀x,x<room r->(1+r,least r+x)∈pairs:=by decide
end Go.AM.SO
namespace Go.AM.SO
open Go.Proofs Go.AM.SD Go.AM.SE
abbrev bnC (b:List Nat×Nat):List AV:=[sliN b.1,.int .i64 (b.2:Int)]
theorem Qpq (l:List (List Nat×Nat)):noRefs (l.flatMap bnC)=true:=Qa9 (fun b=>by rw[noRefs,Qaa];rfl) l
abbrev bnsV (l:List (List Nat×Nat)):AV:= .fsl (l.flatMap bnC) l.length 2
theorem frz_w {h:Heap} {b g:Nat} {w:List Nat} {e:Nat} (hb:h.get b=some (.cells g (ints (nz w)++[.int .i64 (e:Int)]))):FrzTo h (.sl b g 0 (w.length+1) 1) (sliN (w++[e])):=by
 have h1:sliN (w++[e])= .fsl (ints (nz w)++[.int .i64 (e:Int)]) (w.length+1) 1:=by
  unfold sliN
  rw[QaU,QaK,List.length_append];rfl
 rw[h1]
 refine FrzTo.sl hb (by simp[ints,nz]) ?_
 rw[List.drop_zero,List.take_of_length_le (by simp[ints,nz])]
 exact FrzL.same _
end Go.AM.SO
namespace Go.AM.KS
open Go.Proofs
set_option maxHeartbeats 4000000
noncomputable section
def cf:YA.Cf:={}
noncomputable def ft:FT2:=YA.tre Tryz.prog cf 20 [13,34]
theorem ft_ok:ft.OK Tryz.prog:=YA.QeC _ _ (YA.Qd6 (by kernel_rfl))
end
end Go.AM.KS
