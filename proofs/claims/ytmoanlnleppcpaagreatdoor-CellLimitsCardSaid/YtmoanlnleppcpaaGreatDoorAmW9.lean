/- A part of the proof of CellLimitsCardSaid: lemmas on the way (AmXm, AmGm, AmGa, AmQa, AmQb, AmQd, AmQw, AmTc, AmTd, AmTe, AmQe, AmTa, AmTb, AmTw, AmTg, AmTh, AmTj, AmTk, AmTl, AmTi, AmTn, AmCx, AmDa, AmDb, AmDc, AmDd, AmDf, AmDg). Conditions: none of ours. -/
import Derived.Test.YtmoanlnleppcpaaGreatDoorProg
import Derived.KernelRfl
import Derived.Test.YtmoanlnleppcpaaGreatDoorAmW8
set_option linter.unusedSectionVars false
set_option maxHeartbeats 32000000
set_option maxRecDepth 100000
set_option linter.unusedVariables false
set_option linter.unusedSimpArgs false
namespace Go.AM.XM
open Go.Proofs
set_option maxHeartbeats 4000000
noncomputable section
def cf:YA.Cf:={always:=[(15,.pure),(17,.pure),(18,.pure),(19,.pure)]}
noncomputable def ft:FT2:=YA.tre Tryz.prog cf 20 [3,16,68]
theorem ft_ok:ft.OK Tryz.prog:=YA.Qfc _ _ (YA.Qew (by kernel_rfl))
end
end Go.AM.XM
namespace Go.AM.TQ
open Go.Proofs
set_option maxHeartbeats 4000000
noncomputable section
def cf:YA.Cf:={most:= .pure,always:=[48,115,203].map fun k=>(k,.heap),value:= .pure}
def s18:SFn:=by
 refine(?f:YA.Yt Tryz.prog cf 18 [[0],[19,20,18,21,22],[23],[1,4,5,24,25,26],[5,24,27,28,29,30,31],[32,33,34],[],[38,39,40,41],[8,43,44,45,42,46,47],[48,49,50,51,52,53,54],[55,56,57,58,59,60,61,62,63,64,65,66,67,68,69,70,71,72,73,74],[9,76,77,78,79,80,81,75,82,83,84,85,15],[14],[7,10,11,12,13,86,87,88,89,90,91,92,93,94,95],[10,11,12,13,86,96,97,98],[99,100],[101],[102,103,104,105,106,107],[7,16,17,108,109,110,111,112,113,114,115,116,117],[7,99,118],[1,4,6,35,36,37,119]] [(10,[(4,7),(5,7),(4,13),(5,13),(10,13),(11,13),(3,15),(5,15),(9,15),(11,15)])]) ?s ?h
 case h=>exact YA.rr
 exact fun s _=>s
def s71:SFn:=by
 refine(?f:YA.Yt Tryz.prog cf 71 [[4,5],[0,7,8,9,10,11,12],[1,6,13,14,15,16,17,18,19]]) ?s ?h
 case h=>exact YA.rr
 exact fun s _=>s
def s73:SFn:=by
 refine(?f:YA.Yt Tryz.prog cf 73 [[0,4,5,6,7],[10,11,12],[13],[1,2,8,14,15],[4,5,6,7,1,8,14,16,17,18,19],[26,27],[2,9,25],[25,29,30,31,32,33],[2,9,28,34],[2,9,28,20,21,22,23,24]]) ?s ?h
 case h=>exact YA.rr
 exact fun s _=>s
def s74:SFn:=by
 refine(?f:YA.Yt Tryz.prog cf 74 [[0,1,2,6],[3,4,5,7]]) ?s ?h
 case h=>exact YA.rr
 exact fun s _=>s
def s115:SFn:=by
 refine(?f:YA.Yt Tryz.prog cf 115 [[4],[0,1,5,6,7,8]]) ?s ?h
 case h=>exact YA.rr
 exact fun s _=>s
def s157:SFn:=by
 refine(?f:YA.Yt Tryz.prog cf 157 [[0,4],[6,7],[8],[1,2,5,9,10],[1,2,5,9,11,12,13]]) ?s ?h
 case h=>exact YA.rr
 exact fun s _=>s
def s158:SFn:=by
 refine(?f:YA.Yt Tryz.prog cf 158 [[1,4],[0,3,5,6,7]]) ?s ?h
 case h=>exact YA.rr
 exact fun s _=>s
def s159:SFn:=by
 refine(?f:YA.Yt Tryz.prog cf 159 [[0,2],[],[8],[],[12,13,14],[5,15,16,17,18,19],[20],[1,9,10,11,21],[],[25,26,27],[7,28,29,30,31,32],[33],[3,22,23,24,34]]) ?s ?h
 case h=>exact YA.rr
 exact fun s _=>s
def s161:SFn:=by
 refine(?f:YA.Yt Tryz.prog cf 161 [[0,4,5],[10,11,12],[13],[1,2,6,14,15],[4,5,6,14],[1,2,16,17],[],[21,22,23],[9,24,25,26,27,28],[29],[7,18,19,20,30]]) ?s ?h
 case h=>exact YA.rr
 exact fun s _=>s
def s162:SFn:=by
 refine(?f:YA.Yt Tryz.prog cf 162 [[6],[0,12,13,14,15],[],[19,20,21,22],[23,24,25,26,27],[8,28,30,31,32,33,34,35,36,37,29,38,39,40,9,11],[10,41],[1,2,16,17,18,7,42,43],[6,7,42,44],[1,2,16,17,18]]) ?s ?h
 case h=>exact YA.rr
 exact fun s _=>s
def s195:SFn:=by
 refine(?f:YA.Yt Tryz.prog cf 195 [[4],[6],[],[9,10],[11,12,13,14,15],[0,1,7,8,5,16,17],[4,5,16,18],[0,1,7,8]]) ?s ?h
 case h=>exact YA.rr
 exact fun s _=>s
def s202:SFn:=by
 refine(?f:YA.Yt Tryz.prog cf 202 [[0,4],[7,8,9,10,11],[1,2,12],[4,1,12],[],[16,17,18,19],[5,6,20,21,22],[2,13,14,15,29,23,28,27,25,26,24,30],[4,30,31],[2,13,14,15,29,23,28,27,25,26,24]]) ?s ?h
 case h=>exact YA.rr
 exact fun s _=>s
def s203:SFn:=by
 refine(?f:YA.Yt Tryz.prog cf 203 [[4],[6],[],[9,10],[11,12,13,14,15],[0,1,7,8,5,16,17],[4,5,16,18],[0,1,7,8]]) ?s ?h
 case h=>exact YA.rr
 exact fun s _=>s
def s204:SFn:=by
 refine(?f:YA.Yt Tryz.prog cf 204 [[3],[0,1,4,5,6]]) ?s ?h
 case h=>exact YA.rr
 exact fun s _=>s
def s205:SFn:=by
 refine(?f:YA.Yt Tryz.prog cf 205 [[0,2],[1,3]]) ?s ?h
 case h=>exact YA.rr
 exact fun s _=>s
def s206:SFn:=by
 refine(?f:YA.Yt Tryz.prog cf 206 [[0,2],[1,3]]) ?s ?h
 case h=>exact YA.rr
 exact fun s _=>s
def s207:SFn:=by
 refine(?f:YA.Yt Tryz.prog cf 207 [[0,4],[6,7],[8],[1,2,5,9,10],[4,1,2,5,9,11,12,13,14,15,16,17],[18],[18]]) ?s ?h
 case h=>exact YA.rr
 exact fun s _=>s
def s233:SFn:=by
 refine(?f:YA.Yt Tryz.prog cf 233 [[0,3],[1,2,4,5,6,7,8]]) ?s ?h
 case h=>exact YA.rr
 exact fun s _=>s
def s234:SFn:=by
 refine(?f:YA.Yt Tryz.prog cf 234 [[0,3],[1,2,4,5,6,7,8,9,10,11]]) ?s ?h
 case h=>exact YA.rr
 exact fun s _=>s
def s235:SFn:=by
 refine(?f:YA.Yt Tryz.prog cf 235 [[3],[0,1,4,5,6,7,8,9]]) ?s ?h
 case h=>exact YA.rr
 exact fun s _=>s
def s236:SFn:=by
 refine(?f:YA.Yt Tryz.prog cf 236 [[0,4],[],[2,8],[],[12,13,14],[7,15,16,17,18,19,20,21,22,23,24],[25],[1,5,9,10,11,26]]) ?s ?h
 case h=>exact YA.rr
 exact fun s _=>s
theorem ok18:okFn Tryz.prog 18 s18=true:=by kernel_rfl
theorem ok71:okFn Tryz.prog 71 s71=true:=by kernel_rfl
theorem ok73:okFn Tryz.prog 73 s73=true:=by kernel_rfl
theorem ok74:okFn Tryz.prog 74 s74=true:=by kernel_rfl
theorem ok115:okFn Tryz.prog 115 s115=true:=by kernel_rfl
theorem ok157:okFn Tryz.prog 157 s157=true:=by kernel_rfl
theorem ok158:okFn Tryz.prog 158 s158=true:=by kernel_rfl
theorem ok159:okFn Tryz.prog 159 s159=true:=by kernel_rfl
theorem ok161:okFn Tryz.prog 161 s161=true:=by kernel_rfl
theorem ok162:okFn Tryz.prog 162 s162=true:=by kernel_rfl
theorem ok195:okFn Tryz.prog 195 s195=true:=by kernel_rfl
theorem ok202:okFn Tryz.prog 202 s202=true:=by kernel_rfl
theorem ok203:okFn Tryz.prog 203 s203=true:=by kernel_rfl
theorem ok204:okFn Tryz.prog 204 s204=true:=by kernel_rfl
theorem ok205:okFn Tryz.prog 205 s205=true:=by kernel_rfl
theorem ok206:okFn Tryz.prog 206 s206=true:=by kernel_rfl
theorem ok207:okFn Tryz.prog 207 s207=true:=by kernel_rfl
theorem ok233:okFn Tryz.prog 233 s233=true:=by kernel_rfl
theorem ok234:okFn Tryz.prog 234 s234=true:=by kernel_rfl
theorem ok235:okFn Tryz.prog 235 s235=true:=by kernel_rfl
theorem ok236:okFn Tryz.prog 236 s236=true:=by kernel_rfl
end
end Go.AM.TQ
namespace Go.AM.TP
open Go.Proofs
set_option maxHeartbeats 4000000
noncomputable section
def cf:YA.Cf:={most:= .pure,always:=[41].map fun k=>(k,.heap)}
def s17:SFn:=by
 refine(?f:YA.Yt Tryz.prog cf 17 [[0,3,4],[6,7],[8],[1,5,9,10,11],[1,5,9,12,13,14,15,16,17,18]]) ?s ?h
 case h=>exact YA.rr
 exact fun s _=>s
def s28:SFn:=by
 refine(?f:YA.Yt Tryz.prog cf 28 [[3,4],[17,18],[19],[0,5,20,21,22],[3,4,0,5,20,23,24],[25,26,27],[29,30,28,31,32],[8,33],[6,7,34,35],[4,34,36,37],[7,38,39,40,41],[],[42,43,44],[45,48,49,50,51,52],[53,54,55,56,57,58,59],[53,60],[],[64,65,66],[68,69,70,71,72,73,74,67,75,76],[14,77],[78,80,81,82,83,79,84,85],[16,86],[15,87,88,89],[6,9,10,61,62,63,12,13,90,91],[4,90,92,93],[94,95,96,97],[13,98,99,100,101],[12,15,13,87,102,103,104,105,106,107,108,109,110],[111],[61,62,63,46,47],[6,9,10,112,113,114],[115,116]]) ?s ?h
 case h=>exact YA.rr
 exact fun s _=>s
def s69:SFn:=by
 refine(?f:YA.Yt Tryz.prog cf 69 [[2],[],[0],[],[9,10,11],[5,12,13,14,15,16],[17],[3,6,7,8,18]]) ?s ?h
 case h=>exact YA.rr
 exact fun s _=>s
def s95:SFn:=by
 refine(?f:YA.Yt Tryz.prog cf 95 [[2],[6,7],[0,8],[2,0,8],[],[12,13,14],[4,15,16],[17],[9,10,11,5,18,19],[2,5,18,20],[9,10,11]]) ?s ?h
 case h=>exact YA.rr
 exact fun s _=>s
def s96:SFn:=by
 refine(?f:YA.Yt Tryz.prog cf 96 [[],[9,10,11,12],[0],[],[16,17,18],[19],[5,20],[],[24,25,26],[8,27,28,29,30,31,32,33,34],[35],[6,21,22,23,36,37,38,39,40,41],[42],[3,13,14,15,43]]) ?s ?h
 case h=>exact YA.rr
 exact fun s _=>s
def s97:SFn:=by
 refine(?f:YA.Yt Tryz.prog cf 97 [[0,2,3],[6],[],[10,11,12],[5,13,14],[1,7,8,9,15],[2,3,15,16],[1,7,8,9,17,18,19,20]]) ?s ?h
 case h=>exact YA.rr
 exact fun s _=>s
def s99:SFn:=by
 refine(?f:YA.Yt Tryz.prog cf 99 [[0,4],[2,7],[],[11,12,13,14],[6,5,15,16,17,18,19,20,21],[1,8,9,10,22],[4,22,23],[1,8,9,10]]) ?s ?h
 case h=>exact YA.rr
 exact fun s _=>s
def s100:SFn:=by
 refine(?f:YA.Yt Tryz.prog cf 100 [[0,6,7],[13,14],[15],[],[19,20,21,22],[10,23,24,25,26],[27,29,30,31,32,33,34,35,36,37,38,39,40,28,41,42],[12,43],[1,2,3,8,16,17,18,9,11,44],[6,7,9,11,44,45,46,47,48],[49],[1,2,3,8,16,17,18,50]]) ?s ?h
 case h=>exact YA.rr
 exact fun s _=>s
def s187:SFn:=by
 refine(?f:YA.Yt Tryz.prog cf 187 [[2],[],[0],[],[9,10,11],[5,12,13,14,15],[16],[3,6,7,8,17]]) ?s ?h
 case h=>exact YA.rr
 exact fun s _=>s
def s189:SFn:=by
 refine(?f:YA.Yt Tryz.prog cf 189 [[4],[0,1,8,9,10,7,11,12,5],[6,13]]) ?s ?h
 case h=>exact YA.rr
 exact fun s _=>s
theorem ok17:okFn Tryz.prog 17 s17=true:=by kernel_rfl
theorem ok28:okFn Tryz.prog 28 s28=true:=by kernel_rfl
theorem ok69:okFn Tryz.prog 69 s69=true:=by kernel_rfl
theorem ok95:okFn Tryz.prog 95 s95=true:=by kernel_rfl
theorem ok96:okFn Tryz.prog 96 s96=true:=by kernel_rfl
theorem ok97:okFn Tryz.prog 97 s97=true:=by kernel_rfl
theorem ok99:okFn Tryz.prog 99 s99=true:=by kernel_rfl
theorem ok100:okFn Tryz.prog 100 s100=true:=by kernel_rfl
theorem ok187:okFn Tryz.prog 187 s187=true:=by kernel_rfl
theorem ok189:okFn Tryz.prog 189 s189=true:=by kernel_rfl
end
end Go.AM.TP
namespace Go.AM
variable {P:Program}
section
variable {N:NM} {n:Nat} {d:Option Nat} {af dead:List Nat} {r:List SOper} {T:Tmps} {h:Heap} {Q:QC} {fs:List Fr}
def wL (P:Program) (N:NM) (o:Option (List AV)) (len:Nat) (v:AV) (d:Option Nat) (ops:List SOper) (dead:List Nat) (fs:List Fr) (n:Nat) (T:Tmps) (h:Heap) (Q:QC):Prop:=
 ∃cs,o=some cs/\cs.length=len/\wN P N cs v d ops dead fs n T h Q
theorem QhD {cs:List AV} {len:Nat} {v:AV}:wL P N (some cs) len v d r dead fs n T h Q=if cs.length=len then wN P N cs v d r dead fs n T h Q else False:=by
 simp_all [wL]
theorem wN_go {x:List AV} {v:AV} (hl:n<1099511627775):wN P N x v d r dead fs n T h Q=if h.get n=none then wR P N r dead fs (n+1) (putD T d v) (h.set n (.cells 0 x)) Q else False:=by
 split
 ·rename_i hn;exact Qpd hn hl
 simp_all [wN]
theorem wB_go {x:Blk} {b:Nat} {v:AV} (hl:b<1099511627775):wB P N (some x) b v d r dead fs n T h Q=wR P N r dead fs (n+1) (putD T d v) (h.set b x) Q:=Qhx hl
theorem Qa6 {k:Nat} {x:Blk} (hk:k<1099511627775):(h.set k x).get k=some x:=by rw[Tr.QaS h hk];simp
theorem Qa1 {j k:Nat} {x:Blk} (hk:k<1099511627775) (hj:j≠k):(h.set k x).get j=h.get j:=by rw[Tr.QaS h hk];simp[hj]
theorem Qfd {x:Nat->Blk} {y:List AV} (hx:x 0= .cells 0 y) {w:Nat->Nat->AV}:wM P N (HM.new .dyn n x fun b g=> .ret (w b g)) d r dead fs n T h Q=wN P N y (w n 0) d r dead fs n T h Q:=by
 apply propext;constructor
 ·rintro ⟨v', h1, hm, hk⟩
  unfold HM.new at hm
  simp only[HM.run]at hm
  cases hn:h.get n with
  |none=>
   rw[hn]at hm
   obtain⟨hl,hm⟩:=QaT hm
   simp only[HM.run,Option.some.injEq,Prod.mk.injEq]at hm
   obtain⟨rfl,rfl⟩:=hm
   rw[hx]at hk
   exact⟨hn,hl,hk⟩
  |some z=>rw[hn]at hm;cases hm
 ·rintro ⟨hn, hl, hk⟩
  refine⟨_,_,?_,by rw[<-hx]at hk;exact hk⟩
  unfold HM.new
  simp only[HM.run,hn]
  have hl':Nat.blt n lim=true:=by simp_all
  rw[hl'];rfl
theorem QjK {x:AV}:wM P N (aBox .dyn n x) d r dead fs n T h Q=if x.boxable=true then wN P N x.cells (.ptr n 0 0) d r dead fs n T h Q else False:=by
 split
 ·simp_all [QnQ]
 simp_all [aBox,Qds]
theorem QdU {sz len:Nat} {z:List AV} {ps:List (Nat×Nat×AV)}:wM P N (aBuildSlice false .dyn n sz len z ps) d r dead fs n T h Q=wL P N (fillA z ps) (len*sz) (.sl n 0 0 len sz) d r dead fs n T h Q:=by
 unfold aBuildSlice
 cases fillA z ps with
 |none=>simp[Qds,wL]
 |some cs=>
  simp only[QhD,Bool.false_eq_true,if_false]
  split
  ·exact Qfd rfl
  ·exact Qds
theorem Qee {sz bytes:Nat} {z:List AV} {k1 k2:IntKind} {l c:Int}:wM P N (aMakeSlice .dyn n sz bytes z (.int k1 l) (.int k2 c)) d r dead fs n T h Q=
  if 0<=l/\l<=c/\bytes*c<=140737488355328/\c<=140737488355328 then wN P N (List.replicate c.toNat z).flatten (.sl n 0 0 l.toNat sz) d r dead fs n T h Q else False:=by
 by_cases hc:0<=l/\l<=c/\bytes*c<=140737488355328/\c<=140737488355328
 ·simp only[aMakeSlice,if_pos hc];exact Qfd (x:=fun g=> .cells g (List.replicate c.toNat z).flatten) rfl
 simp_all [aMakeSlice,if_neg,Qds]
theorem Qil {cs:List AV}:fillA cs []=some cs:=rfl
theorem Qha {cs:List AV} {off size:Nat} {v:AV} {r:List (Nat×Nat×AV)}:fillA cs ((off,size,v)::r)=if v.cells.length=size/\off+size<=cs.length/\v.boxable=true then fillA (putR cs off v.cells) r else none:=rfl
theorem Qim {z:List AV} {ps:List (Nat×Nat×AV)}:aBuild z ps=(fillA z ps).map AV.agg:=by grind [aBuild]
theorem Qin {k:IntKind} {a:Int}:(AV.int k a).cells=[.int k a]:=rfl
theorem Qio {cs:List AV}:(AV.agg cs).cells=cs:=rfl
theorem QjL {b g off len sz:Nat}:(AV.sl b g off len sz).cells=[.sl b g off len sz]:=rfl
theorem Qip {cs:List AV} {len sz:Nat}:(AV.fsl cs len sz).cells=[.fsl cs len sz]:=rfl
theorem Qf4:AV.nilsl.cells=[.nilsl]:=rfl
theorem Qlf {k:IntKind} {a:Int}:(AV.int k a).boxable=true:=rfl
theorem Qlg {cs:List AV}:(AV.agg cs).boxable=true:=rfl
theorem QmY {b g off len sz:Nat}:(AV.sl b g off len sz).boxable=true:=rfl
theorem Qlh {cs:List AV} {len sz:Nat}:(AV.fsl cs len sz).boxable=true:=rfl
theorem Qiq:AV.nilsl.boxable=true:=rfl
theorem Qli {k:IntKind} {a:Int}:(AV.int k a).one=true:=rfl
theorem QmZ {b g off len sz:Nat}:(AV.sl b g off len sz).one=true:=rfl
theorem Qlj {cs:List AV} {len sz:Nat}:(AV.fsl cs len sz).one=true:=rfl
theorem Qir:AV.nilsl.one=true:=rfl
theorem QjM {cs:List AV} {off:Nat} {v:AV}:putR cs off [v]=cs.set off v:=rfl
theorem Qis {cs:List AV} {off:Nat} {v w:AV} {vs:List AV}:putR cs off (v::w::vs)=cs.take off++(v::w::vs)++cs.drop (off+(v::w::vs).length):=rfl
def srcB (o:Option Blk) (g off len sz:Nat):Option (List AV):=
 match o with
 |some (.cells g' cs)=>if g'=g/\off+len*sz<=cs.length then some ((cs.drop off).take (len*sz))else none
 |_=>none
theorem Qcu {g g' off len sz:Nat} {cs:List AV}:srcB (some (.cells g' cs)) g off len sz=if g'=g/\off+len*sz<=cs.length then some ((cs.drop off).take (len*sz))else none:=rfl
theorem QkH {sz bytes b g off len:Nat}:wM P N (aAppend .dyn n sz bytes .nilsl (.sl b g off (len+1) sz)) d r dead fs n T h Q=
  ∃ys,srcB (h.get b) g off (len+1) sz=some ys/\((len+1)*bytes<=140737488355328/\len+1<=140737488355328)/\ys.all AV.one=true/\wN P N ys (.sl n 0 0 (len+1) sz) d r dead fs n T h Q:=by
 simp only[aAppend,aSrc,if_true,slLen,Nat.zero_add,QcU,QcG]
 apply propext;constructor
 ·rintro ⟨cs, hb, h1, h2, h3⟩
  rw[hb,Qcu,if_pos ⟨rfl,h1⟩]
  exact⟨_,rfl,⟨h2.1,h2.2.1⟩,h2.2.2,by rw[Qfd rfl]at h3;exact h3⟩
 ·rintro ⟨ys, hy, h2, h3, h4⟩
  unfold srcB at hy
  split at hy
  ·rename_i g' cs hb
   split at hy
   ·rename_i e
    obtain⟨rfl,e⟩:=e
    cases hy
    exact⟨cs,hb,e,⟨h2.1,h2.2,h3⟩,by rw[Qfd rfl];exact h4⟩
   ·cases hy
  ·cases hy
theorem Ql4 {sz bytes b g off len b2 g2 off2 len2:Nat}:wM P N (aAppend .dyn n sz bytes (.sl b2 g2 off2 len2 sz) (.sl b g off len sz)) d r dead fs n T h Q=
  ∃ys zs,srcB (h.get b) g off len sz=some ys/\srcB (h.get b2) g2 off2 len2 sz=some zs/\((len2+len)*bytes<=140737488355328/\len2+len<=140737488355328)/\ys.all AV.one=true/\
   wB P N (some (.cells (g2+1) (zs++ys))) b2 (.sl b2 (g2+1) 0 (len2+len) sz) d r dead fs n T h Q:=by
 simp only[aAppend,aSrc,if_true,slLen,QcU,QcG,Qe7]
 apply propext;constructor
 ·rintro ⟨cs, hb, h1, h2, cs2, hb2, h3, h4⟩
  rw[hb,hb2,Qcu,Qcu,if_pos ⟨rfl,h1⟩,if_pos ⟨rfl,h3⟩]
  simp_all
 ·rintro ⟨ys, zs, hy, hz, h2, h3, h4⟩
  unfold srcB at hy hz
  grind
end
def Fresh (n:Nat) (h:Heap):Prop:=∀b,n<=b->h.get b=none
theorem Fresh.e {n:Nat}:Fresh n .e:=fun b _=>by simp[Tr.get]
theorem Fresh.le {n m:Nat} {h:Heap} (hf:Fresh n h) (hl:n<=m):Fresh m h:=fun b hb=>hf b (Nat.le_trans hl hb)
theorem Fresh.set {n k:Nat} {h:Heap} {x:Blk} (hf:Fresh n h) (hk:k<1099511627775) (hl:k<n):Fresh n (h.set k x):=fun b hb=>by
 rw[Qa1 hk (by omega)];exact hf b hb
end Go.AM
namespace Go.AM
variable {P:Program}
def FrzTo (h:Heap) (x y:AV):Prop:=∀(ok:Okc) (c:Ctx ok) (w:World) (v:Value),HRel c h w->VRel c w x v->VRel (lent c) w y v
def FrzL (h:Heap):List AV->List AV->Prop
 |[],[]=>True
 |x::xs,y::ys=>FrzTo h x y/\FrzL h xs ys
 |_,_=>False
variable {h:Heap}
theorem FrzTo.same (x:AV):FrzTo h x x:=fun _ c w v _ hv=>VRel.mono (Qgm c w) _ _ hv
theorem FrzL.same:∀(xs:List AV),FrzL h xs xs
 |[]=>trivial
 |x::xs=>⟨.same x,FrzL.same xs⟩
theorem FrzL.pre {ok:Okc} {c:Ctx ok} {w:World} (H:HRel c h w):∀{xs ys:List AV} {vs:List Value},FrzL h xs ys->VPre c w xs vs->VPre (lent c) w ys vs
 |[],[],_,_,_=>by simp[VPre]
 |[],_::_,_,hh,_=>hh.elim
 |_::_,[],_,hh,_=>hh.elim
 |x::xs,y::ys,vs,hh,hv=>by
  simp only[VPre]at hv⊢
  obtain⟨v,vs',rfl,g1,g2⟩:=hv
  exact⟨v,vs',rfl,hh.1 _ c w v H g1,FrzL.pre H hh.2 g2⟩
theorem FrzL.rels {ok:Okc} {c:Ctx ok} {w:World} (H:HRel c h w):∀{xs ys:List AV} {vs:List Value},FrzL h xs ys->VRels c w xs vs->VRels (lent c) w ys vs
 |[],[],_,_,hv=>by grind [VRels]
 |[],_::_,_,hh,_=>hh.elim
 |_::_,[],_,hh,_=>hh.elim
 |x::xs,y::ys,vs,hh,hv=>by
  simp only[VRels]at hv⊢
  obtain⟨v,vs',rfl,g1,g2⟩:=hv
  exact⟨v,vs',rfl,hh.1 _ c w v H g1,FrzL.rels H hh.2 g2⟩
section
variable {N:NM} {n:Nat} {d:Option Nat} {af dead:List Nat} {r:List SOper} {T:Tmps} {Q:QC} {fs:List Fr}
end
end Go.AM
namespace Go.AM
variable {P:Program}
abbrev HL:=List (Nat×Blk)
def hp:HL->Heap
 |[]=> .e
 |p::r=>(hp r).set p.1 p.2
theorem Qhb:hp []= .e:=rfl
theorem Qcv {b:Nat} {x:Blk} {r:HL}:hp ((b,x)::r)=(hp r).set b x:=rfl
theorem get_e {b:Nat}:Tr.get (α:=Blk) .e b=none:=by simp[Tr.get]
def lkS:List (Nat×Src)->Nat->Option Src
 |[],_=>none
 |(b,s)::r,k=>if k=b then some s else lkS r k
def srcNew (s:Src):List (Nat×Src)->Bool
 |[]=>true
 |(_,t)::r=>(match s,t with| .blk b _,.blk b' _=> !Nat.beq b b'|_,_=>true)&&srcNew s r
def okPs (m:Nat):List (Nat×Src)->HL->Bool
 |[],[]=>true
 |(b,s)::r,(b',_)::l=>Nat.beq b b'&&Nat.blt b 1099511627775&&(Nat.blt b m||((match s with| .blk k _=>Nat.ble m k| .nil=>true)&&srcNew s r))&&(r.all fun p=> !Nat.beq p.1 b)&&okPs m r l
 |_,_=>false
def ow (m:Nat) (ps:List (Nat×Src)):Nat->Option Src:=fun b=>if b<m then none else lkS ps b
def RB (m:Nat) (π:Nat->Option Src) (h:Heap):HL->Prop
 |[]=>True
 |(b',x)::r=>((b'<m/\BRn m π h (some (.blk b' x.gen)) x)\/(m<=b'/\x.gen=0/\(∀g,x≠ .dead g)/\BRn m π h (π b') x))/\RB m π h r
section
variable {m:Nat} {π:Nat->Option Src} {h:Heap}
theorem Qm0:∀{L:HL} {ps:List (Nat×Src)},okPs m ps L=true->∀{b:Nat} {x:Blk},(hp L).get b=some x->(b,x)∈L
 |[],[],_,b,x,hx=>by simp[hp,Tr.get]at hx
 |[],_::_,hh,_,_,_=>by simp[okPs]at hh
 |(b',x')::L,[],hh,_,_,_=>by simp[okPs]at hh
 | (b', x') :: L, (k, s) :: ps, hh, b, x, hx => by
  simp only[okPs,Bool.and_eq_true,Nat.blt_eq,Nat.beq_eq]at hh
  obtain⟨⟨⟨⟨rfl,h3⟩,_⟩,_⟩,h4⟩:=hh
  simp only[hp]at hx
  by_cases e:b=k
  ·simp_all [Qa6]
  ·rw [Qa1 h3 e] at hx
   simp[Qm0 h4 hx]
theorem Qlk:∀{L:HL} {ps:List (Nat×Src)},okPs m ps L=true->∀{b:Nat},(hp L).get b=none->lkS ps b=none
 |[],[],_,b,_=>rfl
 |[],_::_,hh,_,_=>by simp[okPs]at hh
 |(b',x')::L,[],hh,_,_=>by simp[okPs]at hh
 | (b', x') :: L, (k, s) :: ps, hh, b, hx => by
  simp only[okPs,Bool.and_eq_true,Nat.blt_eq,Nat.beq_eq]at hh
  obtain⟨⟨⟨⟨rfl,h3⟩,_⟩,_⟩,h4⟩:=hh
  simp only[hp]at hx
  by_cases e:b=k
  ·simp_all [Qa6]
  ·rw [Qa1 h3 e] at hx
   simp only[lkS,if_neg e]
   exact Qlk h4 hx
theorem RB.mem:∀{L:HL},RB m π h L->∀{b:Nat} {x:Blk},(b,x)∈L->(b<m/\BRn m π h (some (.blk b x.gen)) x)\/(m<=b/\x.gen=0/\(∀g,x≠ .dead g)/\BRn m π h (π b) x)
 |[],_,_,_,hm=>by cases hm
 |(b',x')::L,hh,b,x,hm=>by
  rcases List.mem_cons.1 hm with e|hm
  ·cases e;exact hh.1
  ·exact RB.mem hh.2 hm
theorem QjN:∀{ps:List (Nat×Src)} {L:HL},okPs m ps L=true->∀{b b1 g:Nat},m<=b->lkS ps b=some (.blk b1 g)->m<=b1
 |[],_,_,_,_,_,_,hs=>by simp[lkS]at hs
 |_::_,[],hh,_,_,_,_,_=>by simp[okPs]at hh
 | (k, s) :: ps, (b', x') :: L, hh, b, b1, g, hb, hs => by
  simp only[okPs,Bool.and_eq_true,Bool.or_eq_true,Nat.blt_eq]at hh
  obtain⟨⟨⟨_,h3⟩,_⟩,h4⟩:=hh
  simp only[lkS]at hs
  split at hs
  ·rename_i e
   cases hs
   rcases h3 with h3|h3
   ·omega
   simp_all
  ·exact QjN h4 hb hs
theorem Qfe:∀{ps:List (Nat×Src)} {b g b' g' k:Nat},srcNew (.blk b g) ps=true->lkS ps k=some (.blk b' g')->b≠b'
 |[],_,_,_,_,_,_,hs=>by simp[lkS]at hs
 | (j, s) :: ps, b, g, b', g', k, hh, hs => by
  simp only[srcNew,Bool.and_eq_true]at hh
  simp only[lkS]at hs
  split at hs
  ·cases hs
   have:=hh.1
   simp only[Bool.not_eq_true']at this
   intro e;simp_all
  ·exact Qfe hh.2 hs
theorem QjO:∀{ps:List (Nat×Src)} {L:HL},okPs m ps L=true->∀{b1 b2 b g g2:Nat},m<=b1->m<=b2->lkS ps b1=some (.blk b g)->lkS ps b2=some (.blk b g2)->b1=b2
 |[],_,_,_,_,_,_,_,_,_,hs,_=>by simp[lkS]at hs
 |_::_,[],hh,_,_,_,_,_,_,_,_,_=>by simp[okPs]at hh
 | (k, s) :: ps, (b', x') :: L, hh, b1, b2, b, g, g2, m1, m2, h1, h2 => by
  simp only[okPs,Bool.and_eq_true,Bool.or_eq_true,Nat.blt_eq]at hh
  obtain⟨⟨⟨_,hn⟩,_⟩,h4⟩:=hh
  simp only[lkS]at h1 h2
  split at h1<;>split at h2
  ·omega
  ·rename_i e1 e2
   cases h1
   rcases hn with hn|hn
   ·omega
   ·exact absurd rfl (Qfe hn.2 h2)
  ·rename_i e1 e2
   cases h2
   rcases hn with hn|hn
   ·omega
   ·exact absurd rfl (Qfe hn.2 h1)
  ·exact QjO h4 m1 m2 h1 h2
theorem Qll:∀{ps:List (Nat×Src)} {L:HL},okPs m ps L=true->∀{b:Nat} {s:Src},lkS ps b=some s->∃x,(b,x)∈L
 |[],_,_,_,_,hs=>by simp[lkS]at hs
 |_::_,[],hh,_,_,_=>by simp[okPs]at hh
 | (k, t) :: ps, (b', x') :: L, hh, b, s, hs => by
  simp only[okPs,Bool.and_eq_true,Nat.beq_eq]at hh
  obtain⟨⟨⟨⟨rfl,_⟩,_⟩,_⟩,h4⟩:=hh
  simp only[lkS]at hs
  split at hs
  ·simp_all
  ·obtain ⟨x, hx⟩ := Qll h4 hs
   grind
def RO (m:Nat) (L:HL) (h:Heap):Prop:=∀b,b<m->(∀p∈L,p.1≠b)->h.get b=none
theorem RO.zero {L:HL}:RO 0 L h:=fun b hb=>absurd hb (Nat.not_lt_zero _)
theorem RO.e {L:HL}:RO m L .e:=fun b _ _=>get_e
theorem RO.set {L:HL} {k:Nat} {x:Blk} (hk:(Nat.blt k 1099511627775&&(Nat.ble m k||L.any fun p=>Nat.beq p.1 k))=true) (hr:RO m L h):RO m L (h.set k x):=fun b hb hn=>by
 simp only[Bool.and_eq_true,Bool.or_eq_true,Nat.blt_eq,Nat.ble_eq,List.any_eq_true,Nat.beq_eq]at hk
 obtain⟨h1,h2⟩:=hk
 have:b≠k:=by
  grind
 rw[Qa1 h1 this];exact hr b hb hn
def Rec (m:Nat) (T':Tmps) (L:HL) (T:Tmps) (h:Heap):Prop:=∃ps,okPs m ps L=true/\RO m L h/\RB m (ow m ps) h L/\RT m (ow m ps) h T' T
theorem ow_ge {ps:List (Nat×Src)} {b:Nat} (hb:m<=b):ow m ps b=lkS ps b:=if_neg (by omega)
theorem Rec.maps {ps:List (Nat×Src)} {L:HL} (ho:okPs m ps L=true) (hb:RB m (ow m ps) h L):Maps m (ow m ps) h:=by
 refine⟨fun b' b g hm hs=>?_,fun b1 b2 b g g2 m1 m2 h1 h2=>QjO ho m1 m2 (by rw[<-ow_ge m1];exact h1) (by rw[<-ow_ge m2];exact h2)⟩
 rw[ow_ge hm]at hs
 refine⟨?_,QjN ho hm hs⟩
 obtain⟨x,hx⟩:=Qll ho hs
 rcases hb.mem hx with⟨q0,_⟩|⟨_,q1,q2,q3⟩
 ·omega
 rw[ow_ge hm,hs]at q3
 cases x with
 |cells g' cs=>obtain⟨ds,_,k1,_⟩:=q3;exact⟨_,k1,rfl,fun k=>by simp⟩
 |map g' es=>obtain⟨ds,k1,_⟩:=q3;exact⟨_,k1,rfl,fun k=>by simp⟩
 |loop g' N T ps asg body st=>obtain⟨T0,k1,_⟩:=q3;exact⟨_,k1,rfl,fun k=>by simp⟩
 |dead g'=>exact absurd rfl (q2 g')
theorem Rec.heap {ps:List (Nat×Src)} {L:HL} (ho:okPs m ps L=true) (hb:RB m (ow m ps) h L):RH m (ow m ps) h (hp L):=fun b' x' hx=>hb.mem (Qm0 ho hx)
theorem Qm1:∀{L:HL} {ps:List (Nat×Src)},okPs m ps L=true->∀{b:Nat},(hp L).get b=none->∀p∈L,p.1≠b
 |[],_,_,_,_,p,hp=>by cases hp
 |(b',x')::L,[],hh,_,_,_,_=>by simp[okPs]at hh
 | (b', x') :: L, (k, s) :: ps, hh, b, hx, p, hpm => by
  simp only[okPs,Bool.and_eq_true,Nat.blt_eq,Nat.beq_eq]at hh
  obtain⟨⟨⟨⟨rfl,h3⟩,_⟩,_⟩,h4⟩:=hh
  simp only[hp]at hx
  by_cases e:b=k
  ·simp_all [Qa6]
  ·rw [Qa1 h3 e] at hx
   rcases List.mem_cons.1 hpm with rfl|hpm
   ·omega
   ·exact Qm1 h4 hx p hpm
theorem Rec.dom {ps:List (Nat×Src)} {L:HL} (ho:okPs m ps L=true) (hr:RO m L h):RD m (ow m ps) h (hp L):=fun b' hx=>
 ⟨fun hlt=>hr b' hlt (Qm1 ho hx),fun hge=>by grind [ow_ge,Qlk]⟩
theorem W2.recL {sc:SCode} {n:Nat} {Q:SX->St->Prop} {T T':Tmps} {L:HL} (hr:Rec m T' L T h) (hw:W2 P ⟨n,m⟩ sc Q ⟨T',hp L⟩):W2 P ⟨n,m⟩ sc Q ⟨T,h⟩:=by
 obtain⟨ps,ho,hro,hb,ht⟩:=hr
 exact W2.recast (N:=⟨n,m⟩) (Rec.maps ho hb) (Rec.heap ho hb) (Rec.dom ho hro) ht hw
theorem W2.post {sc:SCode} {k:Nat} {Q:SX->St->Prop} {A:St} (hw:W2 P ⟨k,m⟩ sc (fun e B=>Q e B\/∃T' L,Rec m T' L B.T B.h/\Q e ⟨T',hp L⟩) A):W2 P ⟨k,m⟩ sc Q A:=by
 intro code hok c a w S ro hro Q' hQ
 refine hw code hok c a w S ro hro Q' ?_
 rintro e B c' a' w' (hq|⟨T',L,⟨ps,ho,hro,hb,ht⟩,hq⟩) S' E'
 ·grind
 ·have M := Rec.maps ho hb
  exact hQ e ⟨T',hp L⟩ (nctx m (ow m ps) B.h c') a' w' hq ⟨(Rec.heap ho hb).hrel (Rec.dom ho hro) M S'.heap,fun i=>ht i _ c' w' _ S'.heap M (S'.tmps i),S'.size,S'.defers.mono2 (QdE (m:=m) (π:=ow m ps) (h:=B.h) c' w')⟩ (E'.trans (QdE c' w'))
theorem RT.nil {T:Tmps}:RT m π h [] T:=fun _=>Rn.any
theorem RT.cons {T' T:Tmps} {j:Nat} {v:AV} (hv:Rn m π h v (lk T j)) (hr:RT m π h T' T):RT m π h ((j,v)::T') T:=by
 intro i
 rw[QaD]
 split
 ·simp_all
 ·exact hr i
theorem RB.nil:RB m π h []:=trivial
theorem RB.cells {b b' g:Nat} {cs ds:List AV} {r:HL} (hm:Nat.ble m b'=true) (hp:π b'=some (.blk b g)) (hg:h.get b=some (.cells g ds)) (hc:RnL m π h cs ds) (hr:RB m π h r):RB m π h ((b',.cells 0 cs)::r):=
 ⟨.inr ⟨Nat.le_of_ble_eq_true hm,rfl,fun _=>by simp,by rw[hp];exact⟨ds,ds.length,hg,by simp_all⟩⟩,hr⟩
theorem RB.newnil {b':Nat} {r:HL} (hm:Nat.ble m b'=true) (hp:π b'=some .nil) (hr:RB m π h r):RB m π h ((b',.cells 0 [])::r):=⟨.inr ⟨Nat.le_of_ble_eq_true hm,rfl,fun _=>by simp,by rw[hp];rfl⟩,hr⟩
theorem RB.map {b b' g:Nat} {es fs:List (AV×AV)} {r:HL} (hm:Nat.ble m b'=true) (hp:π b'=some (.blk b g)) (hg:h.get b=some (.map g fs)) (hc:RnM m π h es fs) (hr:RB m π h r):RB m π h ((b',.map 0 es)::r):=
 ⟨.inr ⟨Nat.le_of_ble_eq_true hm,rfl,fun _=>by simp,by rw[hp];exact⟨fs,hg,hc⟩⟩,hr⟩
theorem RB.cellsB {b g:Nat} {cs ds:List AV} {r:HL} (hm:Nat.blt b m=true) (hg:h.get b=some (.cells g ds)) (hc:RnL m π h cs ds) (hr:RB m π h r):RB m π h ((b,.cells g cs)::r):=
 ⟨.inl ⟨by simpa using hm,ds,ds.length,hg,by simp_all⟩,hr⟩
theorem RB.mapB {b g:Nat} {es fs:List (AV×AV)} {r:HL} (hm:Nat.blt b m=true) (hg:h.get b=some (.map g fs)) (hc:RnM m π h es fs) (hr:RB m π h r):RB m π h ((b,.map g es)::r):=
 ⟨.inl ⟨by simpa using hm,fs,hg,hc⟩,hr⟩
theorem QhE {s:Src}:∀{ps:List (Nat×Src)},srcNew s ps=true->∀b' g',lkS ps b'=some g'->(match s,g' with| .blk b _,.blk b2 _=>b≠b2|_,_=>True)
 |[],_,b',g',hs=>by simp[lkS]at hs
 | (j, t) :: ps, hh, b', g', hs => by
  simp only[srcNew,Bool.and_eq_true]at hh
  simp only[lkS]at hs
  split at hs
  ·cases hs
   have:=hh.1
   cases s<;>cases t<;>simp_all
   intro e;simp_all
  ·exact QhE hh.2 b' g' hs
theorem RnL.nil {m:Nat} {π:Nat->Option Src} {h:Heap}:RnL m π h [] []:=trivial
theorem RnL.cons {m:Nat} {π:Nat->Option Src} {h:Heap} {x y:AV} {xs ys:List AV} (h1:Rn m π h x y) (h2:RnL m π h xs ys):RnL m π h (x::xs) (y::ys):=⟨h1,h2⟩
theorem Rn.fz {ps:List (Nat×Src)} {b g len sz:Nat} {cs ds:List AV} (hb:h.get b=some (.cells g ds)) (hn:srcNew (.blk b g) ps=true) (hm:Nat.ble m b=true) (hl:ds.length=len*sz)
  (hL:RnL m (ow m ps) h cs ds):Rn m (ow m ps) h (.fsl cs len sz) (.sl b g 0 len sz):=by
 refine Rn.frz hb (by simpa using hm) (fun b' g' hb' e=>?_) (by omega) ?_
 ·rw[ow_ge hb']at e;exact QhE hn b' _ e rfl
 grind
theorem Rn.fzm {ps:List (Nat×Src)} {b g len sz k:Nat} {cs ds:List AV} (hb:h.get b=some (.cells g ds)) (hn:srcNew (.blk b g) ps=true) (hm:Nat.ble m b=true) (hk:k=len) (hl:ds.length=len*sz)
  (hL:RnL m (ow m ps) h cs ds):Rn m (ow m ps) h (.fsl cs k sz) (.sl b g 0 len sz):=by simp_all [Rn.fz]
theorem Rn.fz0 {b g len sz:Nat} {cs ds:List AV} (hb:h.get b=some (.cells g ds)) (hl:ds.length=len*sz)
  (hL:RnL 0 π0 h cs ds):Rn 0 π0 h (.fsl cs len sz) (.sl b g 0 len sz):=by
 refine Rn.frz hb (Nat.zero_le _) (fun b' g' _ e=>by simp[π0]at e) (by omega) ?_
 grind
end
theorem Rn.slot {m:Nat} {π:Nat->Option Src} {h:Heap} {T:Tmps} {j:Nat} {v:AV} (hv:lk T j=v) (hn:noRef v=true):Rn m π h v (lk T j):=by simp_all [Rn.same]
section
variable {m:Nat} {π:Nat->Option Src} {h:Heap}
theorem Rn.x1 {b' b g off len sz:Nat} (hm:Nat.ble m b'=true) (hp:π b'=some (.blk b g)):Rn m π h (.sl b' 0 off len sz) (.sl b g off len sz):=Rn.sl (Nat.le_of_ble_eq_true hm) hp
theorem Rn.x2 {b' b g off:Nat} (hm:Nat.ble m b'=true) (hp:π b'=some (.blk b g)):Rn m π h (.ptr b' 0 off) (.ptr b g off):=Rn.ptr (Nat.le_of_ble_eq_true hm) hp
theorem Rn.x3 {b' b g:Nat} (hm:Nat.ble m b'=true) (hp:π b'=some (.blk b g)):Rn m π h (.map b' 0) (.map b g):=Rn.map (Nat.le_of_ble_eq_true hm) hp
theorem Rn.x4 {b' sz:Nat} (hm:Nat.ble m b'=true) (hp:π b'=some .nil):Rn m π h (.sl b' 0 0 0 sz) .nilsl:=Rn.slnil (Nat.le_of_ble_eq_true hm) hp
theorem Rn.x5 {b g off len sz:Nat} (hm:Nat.ble (b+1) m=true):Rn m π h (.sl b g off len sz) (.sl b g off len sz):=Rn.slB (Nat.le_of_ble_eq_true hm)
theorem Rn.x6 {b g off:Nat} (hm:Nat.ble (b+1) m=true):Rn m π h (.ptr b g off) (.ptr b g off):=Rn.ptrB (Nat.le_of_ble_eq_true hm)
theorem Rn.x7 {b g:Nat} (hm:Nat.ble (b+1) m=true):Rn m π h (.map b g) (.map b g):=Rn.mapB (Nat.le_of_ble_eq_true hm)
end
section
variable {k m n:Nat} {T:Tmps} {h:Heap} {Q:QC} {fs:List Fr} {α:Type} {env:α->Tmps} {H:α->HL} {I:α->Prop} {μ:α->Nat} {a:α}
def loopR (P:Program) (k m:Nat) {α:Type} (env:α->Tmps) (H:α->HL) (I:α->Prop) (μ:α->Nat) (a:α) (fs:List Fr) (Q:QC):QC:=fun e T h n=>
 match e with
 | .normal=>∃a',μ a'<μ a/\I a'/\Rec m (env a') (H a') T h
 |e=>wX P ⟨k,m⟩ e fs n T h Q
theorem Qff:loopR P k m env H I μ a fs Q .normal T h n=∃a',μ a'<μ a/\I a'/\Rec m (env a') (H a') T h:=rfl
theorem Qhc {i:Nat}:loopR P k m env H I μ a fs Q (.exit i) T h n=wX P ⟨k,m⟩ (.exit i) fs n T h Q:=rfl
theorem Qit:loopR P k m env H I μ a fs Q .ret T h n=wX P ⟨k,m⟩ .ret fs n T h Q:=rfl
theorem Qba {b:SCode} (n0:Nat) (env:α->Tmps) (H:α->HL) (I:α->Prop) (μ:α->Nat) (a0:α)
  (h0:Rec m (env a0) (H a0) T h) (hI:I a0) (round:∀a,I a->wS P ⟨k,m⟩ b [] n0 (env a) (hp (H a)) (loopR P k m env H I μ a fs Q)):wS P ⟨k,m⟩ (.loop b) fs n T h Q:=by
 show W2 P ⟨k,m⟩ (.loop b) (fun e B=>∃n,ct P ⟨k,m⟩ fs Q e B.T B.h n) ⟨T,h⟩
 refine W2.loop (fun q B=>∃a,μ a=q/\I a/\Rec m (env a) (H a) B.T B.h) (μ a0) ⟨a0,rfl,hI,h0⟩ ?_
 rintro q B ⟨a,rfl,hi,hr⟩
 refine W2.recL hr ((wpC.toW (round a hi)).mono ?_)
 rintro e C ⟨n2,hq⟩
 cases e with
 |normal=>obtain⟨a',h1,h2,h3⟩:=hq;exact⟨μ a',h1,a',rfl,h2,h3⟩
 |exit i=>exact⟨n2,hq⟩
 |ret=>exact⟨n2,hq⟩
def loopX (P:Program) (k m:Nat) {α β:Type} (env:α->Tmps) (H:α->HL) (I:α->Prop) (μ:α->Nat) (i:Nat) (T1:β->Tmps) (L1:β->HL) (J:β->Prop) (a:α) (fs:List Fr) (Q:QC):QC:=fun e T h n=>
 match e with
 | .normal=>∃a',μ a'<μ a/\I a'/\Rec m (env a') (H a') T h
 | .exit j=>if j=i then ∃b,J b/\Rec m (T1 b) (L1 b) T h else wX P ⟨k,m⟩ (.exit j) fs n T h Q
 | .ret=>wX P ⟨k,m⟩ .ret fs n T h Q
section
variable {β:Type} {i:Nat} {T1:β->Tmps} {L1:β->HL} {J:β->Prop}
theorem Qfg:loopX P k m env H I μ i T1 L1 J a fs Q .normal T h n=∃a',μ a'<μ a/\I a'/\Rec m (env a') (H a') T h:=rfl
theorem Qex {j:Nat}:loopX P k m env H I μ i T1 L1 J a fs Q (.exit j) T h n=if j=i then ∃b,J b/\Rec m (T1 b) (L1 b) T h else wX P ⟨k,m⟩ (.exit j) fs n T h Q:=rfl
theorem Qiu:loopX P k m env H I μ i T1 L1 J a fs Q .ret T h n=wX P ⟨k,m⟩ .ret fs n T h Q:=rfl
end
theorem QaB {b:SCode} {β:Type} (n0:Nat) (env:α->Tmps) (H:α->HL) (I:α->Prop) (μ:α->Nat) (a0:α) (i n1:Nat) (T1:β->Tmps) (L1:β->HL) (J:β->Prop)
  (h0:Rec m (env a0) (H a0) T h) (hI:I a0) (round:∀a,I a->wS P ⟨k,m⟩ b [] n0 (env a) (hp (H a)) (loopX P k m env H I μ i T1 L1 J a fs Q))
  (cont:∀b,J b->wX P ⟨k,m⟩ (.exit i) fs n1 (T1 b) (hp (L1 b)) Q):wS P ⟨k,m⟩ (.loop b) fs n T h Q:=by
 show W2 P ⟨k,m⟩ (.loop b) (fun e B=>∃n,ct P ⟨k,m⟩ fs Q e B.T B.h n) ⟨T,h⟩
 refine W2.post ?_
 refine W2.loop (fun q B=>∃a,μ a=q/\I a/\Rec m (env a) (H a) B.T B.h) (μ a0) ⟨a0,rfl,hI,h0⟩ ?_
 rintro q B ⟨a,rfl,hi,hr⟩
 refine W2.recL hr ((wpC.toW (round a hi)).mono ?_)
 rintro e C ⟨n2,hq⟩
 cases e with
 |normal=>obtain⟨a',h1,h2,h3⟩:=hq;exact⟨μ a',h1,a',rfl,h2,h3⟩
 | exit j =>
  replace hq:loopX P k m env H I μ i T1 L1 J a fs Q (.exit j) C.T C.h n2:=hq
  rw[Qex]at hq
  split at hq
  ·rename_i e; subst e
   obtain⟨b,hJ,hr⟩:=hq
   exact .inr ⟨_,_,hr,n1,cont b hJ⟩
  ·exact .inl ⟨n2,hq⟩
 |ret=>exact .inl ⟨n2,hq⟩
end
section
variable {N:NM} {n:Nat} {d:Option Nat} {af dead:List Nat} {r:List SOper} {T:Tmps} {h:Heap} {Q:QC} {fs:List Fr}
def wA (P:Program) (N:NM) (zs ys:Option (List AV)) (g len2 len sz bytes b:Nat) (d:Option Nat) (ops:List SOper) (dead:List Nat) (fs:List Fr) (n:Nat) (T:Tmps) (h:Heap) (Q:QC):Prop:=
 ∃ y z, ys = some y /\ zs = some z /\ ((len2 + len) * bytes <= 140737488355328 /\ len2 + len <= 140737488355328) /\ y.all AV.one = true /\
   wB P N (some (.cells (g+1) (z++y))) b (.sl b (g+1) 0 (len2+len) sz) d ops dead fs n T h Q
theorem Qf5 {sz bytes b g off len b2 g2 off2 len2:Nat}:wM P N (aAppend .dyn n sz bytes (.sl b2 g2 off2 len2 sz) (.sl b g off len sz)) d r dead fs n T h Q=
  wA P N (srcB (h.get b2) g2 off2 len2 sz) (srcB (h.get b) g off len sz) g2 len2 len sz bytes b2 d r dead fs n T h Q:=by
 rw[Ql4]
 apply propext;constructor
 ·rintro⟨ys,zs,h1,h2,h3,h4,h5⟩;exact⟨ys,zs,h1,h2,h3,h4,h5⟩
 ·rintro⟨ys,zs,h1,h2,h3,h4,h5⟩;simp_all
theorem Qlm {zs ys:List AV} {g len2 len sz bytes b:Nat} (h1:(len2+len)*bytes<=140737488355328) (h2:len2+len<=140737488355328):
  wA P N (some zs) (some ys) g len2 len sz bytes b d r dead fs n T h Q=if ys.all AV.one=true then wB P N (some (.cells (g+1) (zs++ys))) b (.sl b (g+1) 0 (len2+len) sz) d r dead fs n T h Q else False:=by
 by_cases ho:ys.all AV.one=true
 ·rw [if_pos ho]; apply propext; constructor
  ·rintro⟨y,z,e1,e2,_,_,h5⟩;simp_all
  ·intro h5;exact⟨ys,zs,rfl,rfl,⟨h1,h2⟩,ho,h5⟩
 ·rw [if_neg ho]; apply propext; constructor
  ·rintro⟨y,z,e1,e2,_,h4,h5⟩;grind
  simp_all
theorem QjP {g len sz:Nat} {cs:List AV} (hl:cs.length=len*sz):srcB (some (.cells g cs)) g 0 len sz=some cs:=by
 rw[Qcu,if_pos ⟨rfl,by omega⟩,List.drop_zero,<-hl,List.take_length]
end
end Go.AM
namespace Go.AM
theorem words:type_of% @QkR/\type_of% @QmC/\type_of% @QkS/\type_of% @Qh1/\type_of% @QmD/\type_of% @QkT/\type_of% @Qjg/\type_of% @QkU/\type_of% @Qjh/\type_of% @QkV/\type_of% @QmE/\type_of% @wX_sq/\type_of% @Qh2/\type_of% @QgU/\type_of% @QmF/\type_of% @QgV/\type_of% @QfQ/\type_of% @Qfa/\type_of% @Qg6/\type_of% @Qii/\type_of% @ev_t/\type_of% @ev_c/\type_of% @ev_f/\type_of% @QmG/\type_of% @QaD/\type_of% @Qhw/\type_of% @QmH/\type_of% @QmI/\type_of% @rm_no/\type_of% @QkW/\type_of% @Qh3/\type_of% @Qh4/\type_of% @Qji/\type_of% @Qh5/\type_of% @QkX/\type_of% @Qjj/\type_of% @Qjk/\type_of% @Qjl/\type_of% @QfR/\type_of% @Qe6/\type_of% @QmJ/\type_of% @Qjm/\type_of% @QkY/\type_of% @QkZ/\type_of% @QmK/\type_of% @Qk0/\type_of% @Qk1/\type_of% @Qjn/\type_of% @Qh6/\type_of% @QmL/\type_of% @wR_eq/\type_of% @wR_un/\type_of% @Qk2/\type_of% @Qeu/\type_of% @Qjp/\type_of% @Qjq/\type_of% @Qjr/\type_of% @Qjs/\type_of% @Qjt/\type_of% @QgW/\type_of% @Qh7/\type_of% @Qju/\type_of% @QmN/\type_of% @Qh8/\type_of% @Qk3/\type_of% @Qjv/\type_of% @Qjw/\type_of% @QgX/\type_of% @Qh9/\type_of% @Qk4/\type_of% @QmO/\type_of% @Qia/\type_of% @Qk5/\type_of% @Qk6/\type_of% @Qdr/\type_of% @Qjx/\type_of% @QmP/\type_of% @Qb8/\type_of% @Qhx/\type_of% @Qid/\type_of% @QfS/\type_of% @QfT/\type_of% @QgY/\type_of% @Qie/\type_of% @Qjz/\type_of% @Qif/\type_of% @QfU/\type_of% @Qig/\type_of% @Qib/\type_of% @Qic/\type_of% @Qgq/\type_of% @Qgr/\type_of% @Qgs/\type_of% @Qgt/\type_of% @QjA/\type_of% @QjB/\type_of% @QdF/\type_of% @QdG/\type_of% @QdH/\type_of% @QdI/\type_of% @QdJ/\type_of% @QdK/\type_of% @Qk8/\type_of% @Qk9/\type_of% @Qe8/\type_of% @Qg0/\type_of% @QfV/\type_of% @QgZ/\type_of% @Qe9/\type_of% @QjC/\type_of% @QjD/\type_of% @Qg1/\type_of% @wr_u8/\type_of% @QmR/\type_of% @QmS/\type_of% @QmQ/\type_of% @QmT/\type_of% @Qg2/\type_of% @Qih/\type_of% @Qg3/\type_of% @QfW/\type_of% @Qg4/\type_of% @QfX/\type_of% @QfY/\type_of% @QfZ/\type_of% @List.elem_cons.{0}/\type_of% @List.elem_nil.{0}/\type_of% @Bool.false_eq_true/\type_of% @Bool.true_eq_false/\type_of% @List.getElem?_cons_zero.{0}/\type_of% @List.getElem?_cons_succ.{0}/\type_of% @decide_eq_true_eq/\type_of% @decide_eq_false_iff_not/\type_of% @decide_true/\type_of% @decide_false/\type_of% @Bool.not_true/\type_of% @Bool.not_false/\type_of% @Bool.not_eq_true'/\type_of% @Bool.not_eq_eq_eq_not/\type_of% @List.nil_append.{0}/\type_of% @List.append_nil.{0}/\type_of% @List.cons_append.{0}/\type_of% @and_true/\type_of% @true_and/\type_of% @Int.natCast_nonneg/\type_of% @Int.toNat_natCast/\type_of% @Nat.mul_one/\type_of% @Nat.zero_add/\type_of% @Int.toNat_zero/\type_of% @Qg7/\type_of% @QjE/\type_of% @Qla/\type_of% @Qg5:=
 ⟨@QkR,@QmC,@QkS,@Qh1,@QmD,@QkT,@Qjg,@QkU,@Qjh,@QkV,@QmE,@wX_sq,@Qh2,@QgU,@QmF,@QgV,@QfQ,@Qfa,@Qg6,@Qii,@ev_t,@ev_c,@ev_f,@QmG,@QaD,@Qhw,@QmH,@QmI,@rm_no,@QkW,@Qh3,@Qh4,@Qji,@Qh5,@QkX,@Qjj,@Qjk,@Qjl,@QfR,@Qe6,@QmJ,@Qjm,@QkY,@QkZ,@QmK,@Qk0,@Qk1,@Qjn,@Qh6,@QmL,@wR_eq,@wR_un,@Qk2,@Qeu,@Qjp,@Qjq,@Qjr,@Qjs,@Qjt,@QgW,@Qh7,@Qju,@QmN,@Qh8,@Qk3,@Qjv,@Qjw,@QgX,@Qh9,@Qk4,@QmO,@Qia,@Qk5,@Qk6,@Qdr,@Qjx,@QmP,@Qb8,@Qhx,@Qid,@QfS,@QfT,@QgY,@Qie,@Qjz,@Qif,@QfU,@Qig,@Qib,@Qic,@Qgq,@Qgr,@Qgs,@Qgt,@QjA,@QjB,@QdF,@QdG,@QdH,@QdI,@QdJ,@QdK,@Qk8,@Qk9,@Qe8,@Qg0,@QfV,@QgZ,@Qe9,@QjC,@QjD,@Qg1,@wr_u8,@QmR,@QmS,@QmQ,@QmT,@Qg2,@Qih,@Qg3,@QfW,@Qg4,@QfX,@QfY,@QfZ,@List.elem_cons.{0},@List.elem_nil.{0},@Bool.false_eq_true,@Bool.true_eq_false,@List.getElem?_cons_zero.{0},@List.getElem?_cons_succ.{0},@decide_eq_true_eq,@decide_eq_false_iff_not,@decide_true,@decide_false,@Bool.not_true,@Bool.not_false,@Bool.not_eq_true',@Bool.not_eq_eq_eq_not,@List.nil_append.{0},@List.append_nil.{0},@List.cons_append.{0},@and_true,@true_and,@Int.natCast_nonneg,@Int.toNat_natCast,@Nat.mul_one,@Nat.zero_add,@Int.toNat_zero,@Qg7,@QjE,@Qla,@Qg5⟩
theorem wordsN:type_of% @QjK/\type_of% @Qee/\type_of% @QdU/\type_of% @Qim/\type_of% @Option.map_some.{0,0}/\type_of% @QhD/\type_of% @wN_go/\type_of% @wB_go/\type_of% @Qa6/\type_of% @Qa1/\type_of% @Qil/\type_of% @Qha/\type_of% @Qin/\type_of% @Qio/\type_of% @QjL/\type_of% @Qip/\type_of% @Qf4/\type_of% @Qlf/\type_of% @Qlg/\type_of% @QmY/\type_of% @Qlh/\type_of% @Qiq/\type_of% @Qli/\type_of% @QmZ/\type_of% @Qlj/\type_of% @Qir/\type_of% @QjM/\type_of% @List.set_cons_zero.{0}/\type_of% @List.set_cons_succ.{0}/\type_of% @List.length_cons.{0}/\type_of% @List.length_nil.{0}/\type_of% @List.all_cons.{0}/\type_of% @List.all_nil.{0}/\type_of% @Bool.and_true/\type_of% @Bool.true_and/\type_of% @List.drop_zero.{0}/\type_of% @List.drop_succ_cons.{0}/\type_of% @List.take_succ_cons.{0}/\type_of% @List.take_zero.{0}/\type_of% @List.head?_cons.{0}/\type_of% @Qis/\type_of% @Nat.le_refl/\type_of% @Int.cast_ofNat_Int/\type_of% @Int.natCast_zero/\type_of% @Int.natCast_one:=
 ⟨@QjK,@Qee,@QdU,@Qim,@Option.map_some.{0,0},@QhD,@wN_go,@wB_go,@Qa6,@Qa1,@Qil,@Qha,@Qin,@Qio,@QjL,@Qip,@Qf4,@Qlf,@Qlg,@QmY,@Qlh,@Qiq,@Qli,@QmZ,@Qlj,@Qir,@QjM,@List.set_cons_zero.{0},@List.set_cons_succ.{0},@List.length_cons.{0},@List.length_nil.{0},@List.all_cons.{0},@List.all_nil.{0},@Bool.and_true,@Bool.true_and,@List.drop_zero.{0},@List.drop_succ_cons.{0},@List.take_succ_cons.{0},@List.take_zero.{0},@List.head?_cons.{0},@Qis,@Nat.le_refl,@Int.cast_ofNat_Int,@Int.natCast_zero,@Int.natCast_one⟩
theorem wordsR:type_of% @Qhb/\type_of% @Qcv/\type_of% @get_e/\type_of% @Qff/\type_of% @Qhc/\type_of% @Qit/\type_of% @Qfg/\type_of% @Qex/\type_of% @Qiu/\type_of% @Qf5/\type_of% @Qlm/\type_of% @QjP/\type_of% @Int.ofNat_lt/\type_of% @Int.ofNat_le/\type_of% @Int.ofNat_inj/\type_of% @Int.natCast_pos/\type_of% @Int.natCast_add/\type_of% @List.length_map.{0,0}/\type_of% @List.length_append.{0}/\type_of% @List.take_length.{0}/\type_of% @Nat.zero_mul/\type_of% @Nat.one_mul/\type_of% @Nat.add_zero/\type_of% @Int.zero_add/\type_of% @Nat.not_lt_zero/\type_of% @Int.le_refl/\type_of% @not_true/\type_of% @not_false_iff/\type_of% @Nat.lt_irrefl/\type_of% @Int.lt_irrefl:=
 ⟨@Qhb,@Qcv,@get_e,@Qff,@Qhc,@Qit,@Qfg,@Qex,@Qiu,@Qf5,@Qlm,@QjP,@Int.ofNat_lt,@Int.ofNat_le,@Int.ofNat_inj,@Int.natCast_pos,@Int.natCast_add,@List.length_map.{0,0},@List.length_append.{0},@List.take_length.{0},@Nat.zero_mul,@Nat.one_mul,@Nat.add_zero,@Int.zero_add,@Nat.not_lt_zero,@Int.le_refl,@not_true,@not_false_iff,@Nat.lt_irrefl,@Int.lt_irrefl⟩
end Go.AM
namespace Go.AM
variable {P:Program}
section
variable {N:NM} {n:Nat} {d:Option Nat} {dead:List Nat} {r:List SOper} {T:Tmps} {h:Heap} {Q:QC} {fs:List Fr}
theorem Qc0 {sz bytes len b2 g2 off2 len2:Nat} {cs:List AV}:wM P N (aAppend .dyn n sz bytes (.sl b2 g2 off2 len2 sz) (.fsl cs len sz)) d r dead fs n T h Q=
  wA P N (srcB (h.get b2) g2 off2 len2 sz) (some cs) g2 len2 len sz bytes b2 d r dead fs n T h Q:=by
 simp only[aAppend,aSrc,if_true,slLen,QcU,QcG,Qe7]
 apply propext;constructor
 ·rintro ⟨h2, cs2, hb2, h3, h4⟩
  rw[hb2,Qcu,if_pos ⟨rfl,h3⟩]
  exact⟨_,_,rfl,rfl,⟨h2.1,h2.2.1⟩,h2.2.2,h4⟩
 ·rintro ⟨ys, zs, hy, hz, h2, h3, h4⟩
  cases hy
  unfold srcB at hz
  grind
theorem Qcj {sz bytes b2 g2 off2 len2:Nat}:wM P N (aAppend .dyn n sz bytes (.sl b2 g2 off2 len2 sz) .nilsl) d r dead fs n T h Q=
  wA P N (srcB (h.get b2) g2 off2 len2 sz) (some []) g2 len2 0 sz bytes b2 d r dead fs n T h Q:=by
 simp only[aAppend,aSrc,if_true,slLen,QcU,QcG,Qe7]
 apply propext;constructor
 ·rintro ⟨h2, cs2, hb2, h3, h4⟩
  rw[hb2,Qcu,if_pos ⟨rfl,h3⟩]
  exact⟨_,_,rfl,rfl,⟨h2.1,h2.2.1⟩,h2.2.2,h4⟩
 ·rintro ⟨ys, zs, hy, hz, h2, h3, h4⟩
  cases hy
  unfold srcB at hz
  grind
end
theorem Qc1 {cs:List AV} {len sz:Nat} {k:IntKind} {a:Int}:aSliceC (some sz) (.fsl cs len sz) (some (.int k a)) none none=
  if 0<=a/\a<=len then some (.fsl ((cs.drop (a.toNat*sz)).take ((len-a.toNat)*sz)) (len-a.toNat) sz)else none:=by
 simp_all [aSliceC,aSlice,bnd]
theorem Qc2 {cs:List AV} {len sz:Nat} {k:IntKind} {b:Int}:aSliceC (some sz) (.fsl cs len sz) none (some (.int k b)) none=
  if 0<=b/\b<=len then some (.fsl (cs.take (b.toNat*sz)) b.toNat sz)else none:=by
 simp_all [aSliceC,aSlice,bnd]
theorem Qc3 {cs:List AV} {len sz:Nat} {k k2:IntKind} {a b:Int}:aSliceC (some sz) (.fsl cs len sz) (some (.int k a)) (some (.int k2 b)) none=
  if 0<=a/\a<=b/\b<=len then some (.fsl ((cs.drop (a.toNat*sz)).take ((b.toNat-a.toNat)*sz)) (b.toNat-a.toNat) sz)else none:=by
 simp_all [aSliceC,aSlice,bnd]
theorem Qdi {b g off len sz:Nat} {k:IntKind} {a:Int}:aSliceC (some sz) (.sl b g off len sz) (some (.int k a)) none none=
  if 0<=a/\a<=len then some (.sl b g (off+a.toNat*sz) (len-a.toNat) sz)else none:=by
 simp_all [aSliceC,aSlice,bnd]
theorem Qdj {b g off len sz:Nat} {k:IntKind} {c:Int}:aSliceC (some sz) (.sl b g off len sz) none (some (.int k c)) none=
  if 0<=c/\c<=len then some (.sl b g off c.toNat sz)else none:=by
 simp_all [aSliceC,aSlice,bnd]
theorem Qdk {b g off len sz:Nat} {k k2:IntKind} {a c:Int}:aSliceC (some sz) (.sl b g off len sz) (some (.int k a)) (some (.int k2 c)) none=
  if 0<=a/\a<=c/\c<=len then some (.sl b g (off+a.toNat*sz) (c.toNat-a.toNat) sz)else none:=by
 simp_all [aSliceC,aSlice,bnd]
end Go.AM
namespace Go.AM
variable {P:Program}
def HM.tch {α:Type} (B:Nat->Prop):HM α->Prop
 | .ret _=>True
 | .fail=>True
 | .look b k=>B b/\∀x,(k x).tch B
 | .put b _ k=>B b/\k.tch B
theorem HM.Qpf {α:Type} {B:Nat->Prop} (m:HM α):m.tch B->∀h b,b∈(m.fp h).1\/b∈(m.fp h).2->B b:=by
 induction m with
 |ret a=>intro _ h b hb;simp[HM.fp]at hb
 |fail=>intro _ h b hb;simp[HM.fp]at hb
 |look b k ih=>
  rintro⟨h1,h2⟩ h b' hb
  simp only[HM.fp,List.mem_cons]at hb
  rcases hb with(rfl|hb)|hb
  ·exact h1
  ·grind
  ·grind
 |put b x k ih=>
  rintro⟨h1,h2⟩ h b' hb
  simp only[HM.fp,List.mem_cons]at hb
  rcases hb with hb|rfl|hb
  ·grind
  ·exact h1
  ·grind
theorem HM.QnT {α β:Type} {B:Nat->Prop} {m:HM α} {f:α->HM β} (h1:m.tch B) (h2:∀a,(f a).tch B):(m.bind f).tch B:=by
 induction m with
 |ret a=>exact h2 a
 |fail=>trivial
 |look b k ih=>exact⟨h1.1,fun x=>ih x (h1.2 x)⟩
 |put b x k ih=>exact⟨h1.1,ih h1.2⟩
theorem Qln {α:Type} {B:Nat->Prop} (o:Option α):(HM.opt o).tch B:=by cases o<;>trivial
theorem Qda {α:Type} {B:Nat->Prop} {b g:Nat} {k:List AV->HM α} (hb:B b) (hk:∀cs,(k cs).tch B):(HM.cells b g k).tch B:=by
 refine⟨hb,fun x=>?_⟩
 match x with
 |some (.cells g' cs)=>
  simp only
  cases Nat.beq g' g<;>first|exact trivial|exact hk cs
 |some (.map _ _)=>trivial
 |some (.dead _)=>trivial
 |some (.loop ..)=>trivial
 |none=>trivial
theorem QhF {α:Type} {B:Nat->Prop} {i:Nat} {x:Nat->Blk} {k:Nat->Nat->HM α} (hb:B i) (hk:∀b g,(k b g).tch B):(HM.new .dyn i x k).tch B:=by
 refine⟨hb,fun y=>?_⟩
 match y with
 |none=>exact⟨hb,hk _ _⟩
 |some z=>trivial
def blks:AV->Option (List Nat)
 | .ptr b _ _=>some [b]
 | .sl b _ _ _ _=>some [b]
 | .map b _=>some [b]
 | .any=>none
 | .agg _=>none
 | .tup []=>some []
 | .tup _=>none
 | .fn _ _ _=>none
 | .ifc _ _=>none
 | .typed _ _ _=>none
 |_=>some []
def Pts (v:AV) (bs:List Nat):Prop:=∃cs,blks v=some cs/\∀b∈cs,b∈bs
abbrev Abs:=List (Nat×Option (List Nat))
def absT (T:Tmps):Abs->Nat->Option (List Nat)
 |[],i=>blks (lk T i)
 |(j,a)::r,i=>bif Nat.beq j i then a else absT T r i
def absO (T:Tmps) (A:Abs):Opd->Option (List Nat)
 | .t i=>absT T A i
 | .c v=>blks v
 |_=>none
def SOp.absV (i:Nat) (ax:Opd->Option (List Nat)):SOp->Option (List Nat)
 | .mov x=>ax x
 | .slice _ x _ _ _=>ax x
 | .iaddr _ _ x _=>ax x
 | .faddr _ x=>ax x
 | .alloc .dyn _=>some [i]
 | .box .dyn _=>some [i]
 | .bslice false .dyn _ _ _ _=>some [i]
 | .mkslice .dyn _ _ _ _ _=>some [i]
 | .mkmap .dyn=>some [i]
 | .append .dyn _ _ x _=>(ax x).map fun bs=>i::bs
 |_=>none
def SOp.touch (i:Nat) (ax:Opd->Option (List Nat)):SOp->Option (List Nat)
 | .load _ x=>ax x
 | .store _ x _=>ax x
 | .len _ x=>ax x
 | .alloc .dyn _=>some [i]
 | .box .dyn _=>some [i]
 | .bslice _ .dyn _ _ _ _=>some [i]
 | .mkslice .dyn _ _ _ _ _=>some [i]
 | .mkmap .dyn=>some [i]
 | .append .dyn _ _ x y=>match ax x,ax y with
  |some a,some b=>some (i::(a++b))
  |_,_=>none
 | .copy _ x y=>match ax x,ax y with
  |some a,some b=>some (a++b)
  |_,_=>none
 | .lookup _ _ _ _ x _=>ax x
 | .mupd _ _ x _ _=>ax x
 |s=>bif Nat.beq s.cls 0 then some []else none
def touches (n:Nat) (T:Tmps):List SOper->Abs->List (Option (List Nat))
 |[],_=>[]
 |s::r,A=>s.op.touch n (absO T A)::touches (n+1) T r (match s.dst with|some d=>(d,s.op.absV n (absO T A))::A|none=>A)
def pairsOK (ts:List (Option (List Nat))) (ps:List (Nat×Nat)):Bool:=
 ps.all fun p=>match ts.getD p.1 none,ts.getD p.2 none with
  |some a,some b=>a.all fun x=> !b.elem x
  |_,_=>false
section
variable {i:Nat} {T:Tmps} {ax:Opd->Option (List Nat)} {B:Nat->Prop}
theorem QnU {n:Option Nat} {v:AV} {bs:List Nat} (h:Pts v bs):(aLoad n v).tch (· ∈bs):=by
 obtain⟨cs,h1,h2⟩:=h
 unfold aLoad
 split
 ·simp only [blks, Option.some.injEq] at h1
  subst h1
  refine Qda (h2 _ (by simp)) fun cs=>?_
  split
  ·exact Qln _
  ·split<;>trivial
 ·split
  ·exact Qln _
  ·split<;>trivial
 ·trivial
theorem Qm2 {n:Nat} {v u:AV} {bs:List Nat} (h:Pts v bs):(aStore n v u).tch (· ∈bs):=by
 obtain⟨cs,h1,h2⟩:=h
 unfold aStore
 split
 ·simp only [blks, Option.some.injEq] at h1
  subst h1
  have hb:=h2 _ (List.mem_singleton.2 rfl)
  refine Qda hb fun cs=>?_
  split
  ·exact⟨hb,trivial⟩
  ·trivial
 ·trivial
theorem QoB {k:Nat} {v:AV} {bs:List Nat} (h:Pts v bs):(aLenC k v).tch (· ∈bs):=by
 obtain⟨cs,h1,h2⟩:=h
 unfold aLenC
 split
 ·unfold aLen
  split<;>try trivial
  simp only[blks,Option.some.injEq]at h1
  subst h1
  refine⟨h2 _ (by simp),fun y=>?_⟩
  match y with
  |some (.map g' es)=>
   simp only
   generalize Nat.beq g' _=t
   cases t<;>trivial
  |some (.cells _ _)=>trivial
  |some (.dead _)=>trivial
  |some (.loop ..)=>trivial
  |none=>trivial
 ·trivial
theorem Qfv {sz:Nat} {v:AV} {bs:List Nat} {k:List AV->Nat->HM AV} (h:Pts v bs) (hs:∀b∈bs,B b) (hk:∀ys n,(k ys n).tch B):(aSrc sz v k).tch B:=by
  obtain⟨cs,h1,h2⟩:=h
  unfold aSrc
  split
  · simp only [blks, Option.some.injEq] at h1
    subst h1
    split
    · refine Qda (hs _ (h2 _ (by simp))) fun cs => ?_
      split
      · exact hk _ _
      · trivial
    · trivial
  · split
    · exact hk _ _
    · trivial
  · exact hk _ _
  · exact hk _ _
  · exact hk _ _
  · split
    · exact hk _ _
    · trivial
  · trivial
theorem Ql5 {sz bytes : Nat} {x y : AV} {a b : List Nat} (hx : Pts x a) (hy : Pts y b) : (aAppend .dyn i sz bytes x y).tch (· ∈ i :: (a ++ b)) := by
  unfold aAppend
  refine Qfv hy (fun c hc=>by simp[hc]) fun ys n=>?_
  split
  · obtain ⟨cs, h1, h2⟩ := hx
    split
    · split
      · trivial
      · exact QhF (by simp) fun _ _=>trivial
    · split
      · trivial
      · exact QhF (by simp) fun _ _=>trivial
    · split<;>trivial
    · simp only [blks, Option.some.injEq] at h1
      subst h1
      have hb:=h2 _ (List.mem_singleton.2 rfl)
      split
      · refine Qda (by simp [hb]) fun cs => ?_
        split
        · exact⟨by simp[hb],trivial⟩
        · trivial
      · trivial
    · simp[blks]at h1
    · trivial
  · trivial
theorem QnV {sz:Nat} {x y:AV} {a b:List Nat} (hx:Pts x a) (hy:Pts y b):(aCopy sz x y).tch (· ∈a++b):=by
  obtain⟨cs,h1,h2⟩:=hx
  unfold aCopy
  split
  · simp only [blks, Option.some.injEq] at h1
    subst h1
    have hb:=h2 _ (List.mem_singleton.2 rfl)
    split
    · refine Qfv hy (fun c hc => by simp [hc]) fun ys n => ?_
      refine Qda (by simp[hb]) fun cs=>?_
      split
      · exact⟨by simp[hb],trivial⟩
      · trivial
    · trivial
  · exact Qfv hy (fun c hc=>by simp[hc]) fun ys n=>trivial
  · exact Qfv hy (fun c hc=>by simp[hc]) fun ys n=>trivial
  · trivial
theorem Qf6 {α:Type} {b g:Nat} {k:List (AV×AV)->HM α} (hb:B b) (hk:∀es,(k es).tch B):(HM.entries b g k).tch B:=by
 refine⟨hb,fun x=>?_⟩
 match x with
 |some (.map g' es)=>
  simp only
  cases Nat.beq g' g<;>first|exact trivial|exact hk es
 |some (.cells _ _)=>trivial
 |some (.dead _)=>trivial
 |some (.loop ..)=>trivial
 |none=>trivial
theorem Ql6 {row ok:Bool} {ks:List LK} {z x k:AV} {bs:List Nat} (h:Pts x bs):(aLookup row ks z ok x k).tch (· ∈bs):=by
 obtain⟨cs,h1,h2⟩:=h
 unfold aLookup
 split
 ·split
  ·trivial
  ·simp only [blks, Option.some.injEq] at h1
   subst h1
   refine Qf6 (h2 _ (by simp)) fun es=>?_
   split<;>trivial
  ·split<;>trivial
  ·trivial
 ·trivial
theorem QnW {row:Bool} {ks:List LK} {x k v:AV} {bs:List Nat} (h:Pts x bs):(aMapUpd row ks x k v).tch (· ∈bs):=by
 obtain⟨cs,h1,h2⟩:=h
 unfold aMapUpd
 split
 ·split
  ·simp only [blks, Option.some.injEq] at h1
   subst h1
   have hb:=h2 _ (List.mem_singleton.2 rfl)
   refine Qf6 hb fun es=>?_
   split
   ·exact⟨hb,trivial⟩
   ·exact⟨hb,trivial⟩
   ·trivial
  ·trivial
 ·trivial
theorem Qbx {m:HM AV} (h:m.tch B):(hval m).tch B:=HM.QnT h fun _=>trivial
theorem QnX {s:SOp} {ts:List Nat} (hax:∀x bs,ax x=some bs->Pts (ev T x) bs) (h:s.touch i ax=some ts):s.cls≠0->(aop i T s).tch (· ∈ts)/\∀m x asg,s≠ .call m x asg:=by
 intro h0
 have new1:∀{x:Nat->Blk} {r:Nat->Nat->AV},(HM.new .dyn i x fun b g=> .ret (r b g)).tch (· ∈[i]):=fun{x r}=>QhF (by simp) fun _ _=>trivial
 cases s<;>try (exact absurd rfl h0)
 ·rename_i s z
  cases s<;>simp only[SOp.touch,SOp.cls,show Nat.beq 2 0=false from rfl,cond_false,reduceCtorEq,Option.some.injEq]at h
  subst h
  refine⟨Qbx ?_,fun _ _ _=>by simp⟩
  unfold aBox;split
  ·exact new1
  ·trivial
 ·simp only[SOp.touch,SOp.cls,show Nat.beq 2 0=false from rfl,cond_false,reduceCtorEq]at h
 ·rename_i s z
  cases s<;>simp only[SOp.touch,SOp.cls,show Nat.beq 2 0=false from rfl,cond_false,reduceCtorEq,Option.some.injEq]at h
  subst h
  refine⟨Qbx ?_,fun _ _ _=>by simp⟩
  unfold aBox;split
  ·exact new1
  ·trivial
 ·rename_i fz s sz len z ps
  cases s<;>simp only[SOp.touch,SOp.cls,show Nat.beq 2 0=false from rfl,cond_false,reduceCtorEq,Option.some.injEq]at h
  subst h
  refine⟨Qbx ?_,fun _ _ _=>by simp⟩
  unfold aBuildSlice
  split
  ·split
   ·split
    ·split<;>trivial
    ·exact new1
   ·trivial
  ·trivial
 ·exact⟨Qbx (QnU (hax _ _ h)),fun _ _ _=>by simp⟩
 ·exact⟨Qbx (Qm2 (hax _ _ h)),fun _ _ _=>by simp⟩
 ·simp only[SOp.touch,SOp.cls,show Nat.beq 1 0=false from rfl,cond_false,reduceCtorEq]at h
 ·simp only[SOp.touch,SOp.cls,show Nat.beq 2 0=false from rfl,cond_false,reduceCtorEq]at h
 ·simp only[SOp.touch,SOp.cls,show Nat.beq 2 0=false from rfl,cond_false,reduceCtorEq]at h
 ·simp only[SOp.touch,SOp.cls,show Nat.beq 2 0=false from rfl,cond_false,reduceCtorEq]at h
 ·simp only[SOp.touch,SOp.cls,show Nat.beq 2 0=false from rfl,cond_false,reduceCtorEq]at h
 ·simp only[SOp.touch,SOp.cls,show Nat.beq 2 0=false from rfl,cond_false,reduceCtorEq]at h
 ·simp only[SOp.touch,SOp.cls,show Nat.beq 2 0=false from rfl,cond_false,reduceCtorEq]at h
 ·simp only[SOp.touch,SOp.cls,show Nat.beq 1 0=false from rfl,cond_false,reduceCtorEq]at h
 ·rename_i s
  cases s<;>simp only[SOp.touch,SOp.cls,show Nat.beq 2 0=false from rfl,cond_false,reduceCtorEq,Option.some.injEq]at h
  subst h
  exact⟨Qbx new1,fun _ _ _=>by simp⟩
 ·rename_i s sz b z l c
  cases s<;>simp only[SOp.touch,SOp.cls,show Nat.beq 2 0=false from rfl,cond_false,reduceCtorEq,Option.some.injEq]at h
  subst h
  refine⟨Qbx ?_,fun _ _ _=>by simp⟩
  unfold aMakeSlice
  split
  ·split
   ·exact new1
   ·trivial
  ·trivial
 ·exact⟨Qbx (Ql6 (hax _ _ h)),fun _ _ _=>by simp⟩
 ·exact⟨Qbx (QnW (hax _ _ h)),fun _ _ _=>by simp⟩
 ·exact⟨Qbx (QoB (hax _ _ h)),fun _ _ _=>by simp⟩
 ·rename_i s sz b x y
  cases s<;>simp only[SOp.touch,SOp.cls,show Nat.beq 2 0=false from rfl,cond_false,reduceCtorEq]at h
  split at h
  ·rename_i a b ha hb
   cases h
   exact⟨Qbx (Ql5 (hax _ _ ha) (hax _ _ hb)),fun _ _ _=>by simp⟩
  ·cases h
 ·rename_i sz x y
  simp only[SOp.touch]at h
  split at h
  ·rename_i a b ha hb
   cases h
   exact⟨Qbx (QnV (hax _ _ ha) (hax _ _ hb)),fun _ _ _=>by simp⟩
  ·cases h
 ·rename_i m x asg
  exfalso
  simp only[SOp.touch]at h
  have:Nat.beq (SOp.call m x asg).cls 0=false:=by cases m<;>rfl
  simp_all
theorem Qf7 {s : SOper} {h h1 : Heap} {v : AV} {f : FP} {ts : List Nat} (hax : ∀ x bs, ax x = some bs -> Pts (ev T x) bs) (ht : s.op.touch i ax = some ts) (hs : StepV P i s T h v h1 f) :
    f.all=false/\∀b,b∈f.R\/b∈f.W->b∈ts:=by
  by_cases h0:s.op.cls=0
  · obtain ⟨k1, k2, k3⟩ := hs.cls (by omega)
    simp_all
  obtain⟨t1,t2⟩:=QnX hax ht h0
  have key:∀{s':SOp},s'=s.op->StepX P i s' T h v h1 f->f.all=false/\∀b,b∈f.R\/b∈f.W->b∈ts:=by
    rintro s' rfl ⟨out,h2,hm,ho⟩
    have fin:f=fpOf ((aop i T s.op).fp h)->f.all=false/\∀b,b∈f.R\/b∈f.W->b∈ts:=by
      rintro rfl;exact⟨rfl,fun b hb=>HM.Qpf _ t1 h b hb⟩
    match out,ho with
    | .val u,ho=>exact fin ho.2.2
    | .call .pure f' args,ho=>exact fin ho.2.2
    | .call .borrow f' args,ho=>exact fin ho.2.2.2
    | .call .heap f' args, ho =>
      exfalso
      cases hso:s.op with
      |call m x asg=>exact t2 m x asg hso
      | _ =>
        rw[hso]at hm
        first
          |(obtain⟨u,hu,he⟩:=QaN hm;cases he)
          |(obtain⟨u,h3,hu,he⟩:=QaL hm;cases he)
          |(simp[aop,HM.run]at hm)
    | .round b' g' args, ho =>
      exfalso
      cases hso:s.op with
      |call m x asg=>exact t2 m x asg hso
      | _ =>
        rw[hso]at hm
        first
          |(obtain⟨u,hu,he⟩:=QaN hm;cases he)
          |(obtain⟨u,h3,hu,he⟩:=QaL hm;cases he)
          |(simp[aop,HM.run]at hm)
  unfold StepV at hs
  grind
theorem Pts.slice {n:Option Nat} {x v:AV} {l h m:Option AV} {bs:List Nat} (hx:Pts x bs) (hv:aSliceC n x l h m=some v):Pts v bs:=by
 obtain⟨cs,h1,h2⟩:=hx
 have key : aSlice x l h m = some v -> Pts v bs := by
  intro hv
  unfold aSlice at hv
  have nil:∀{v:AV},blks v=some []->Pts v bs:=fun h=>⟨[],h,fun b hb=>by cases hb⟩
  split at hv
  ·cases hv
  ·split at hv
   ·split at hv
    ·split at hv
     ·split at hv<;>first|(cases hv;exact nil rfl)|cases hv
     ·split at hv<;>first|(split at hv<;>first|(cases hv;first|exact⟨cs,h1,h2⟩|exact nil rfl)|cases hv)|cases hv
    ·cases hv
   ·cases hv
   ·split at hv
    ·split at hv
     ·cases hv
     ·split at hv
      ·cases hv;exact⟨cs,h1,h2⟩
      ·cases hv
    ·split at hv
     ·cases hv
     ·split at hv
      ·cases hv;exact nil rfl
      ·cases hv
    ·split at hv
     ·cases hv
     ·split at hv
      ·cases hv;exact nil rfl
      ·cases hv
    ·split at hv
     ·cases hv
     ·split at hv
      ·cases hv;exact nil rfl
      ·cases hv
    ·split at hv
     ·cases hv
     ·split at hv
      ·cases hv;exact nil rfl
      ·cases hv
    ·cases hv
 unfold aSliceC at hv
 grind
theorem Pts.iaddr {a:Option Nat} {sz:Nat} {x j v:AV} {bs:List Nat} (hx:Pts x bs) (hv:aIAddr a sz x j=some v):Pts v bs:=by
 obtain⟨cs,h1,h2⟩:=hx
 have nil:∀{v:AV},blks v=some []->Pts v bs:=fun h=>⟨[],h,fun b hb=>by cases hb⟩
 unfold aIAddr at hv
 split at hv
 ·split at hv<;>first|(split at hv<;>first|(cases hv;first|exact⟨cs,h1,h2⟩|exact nil rfl)|cases hv)|cases hv
 ·cases hv
theorem Pts.faddr {off:Nat} {x v:AV} {bs:List Nat} (hx:Pts x bs) (hv:aFAddr off x=some v):Pts v bs:=by
 obtain⟨cs,h1,h2⟩:=hx
 have nil:∀{v:AV},blks v=some []->Pts v bs:=fun h=>⟨[],h,fun b hb=>by cases hb⟩
 unfold aFAddr at hv
 split at hv
 ·cases hv;exact⟨cs,h1,h2⟩
 ·cases hv;exact nil rfl
 ·simp[blks]at h1
 ·cases hv
def HM.gives {α:Type} (R:α->Prop):HM α->Prop
 | .ret a=>R a
 | .fail=>True
 | .look _ k=>∀x,(k x).gives R
 | .put _ _ k=>k.gives R
theorem HM.Qm3 {α:Type} {R:α->Prop} (m:HM α):m.gives R->∀h a h1,m.run h=some (a,h1)->R a:=by
 induction m with
 |ret a=>intro hr h b h1 hm;simp only[HM.run,Option.some.injEq,Prod.mk.injEq]at hm;rw[<-hm.1];exact hr
 |fail=>intro _ h b h1 hm;simp[HM.run]at hm
 |look b k ih=>intro hr h a h1 hm;exact ih _ (hr _) h a h1 hm
 |put b x k ih=>intro hr h a h1 hm;exact ih hr _ a h1 (QaT hm).2
theorem Qf8 {α:Type} {R:α->Prop} {b g:Nat} {k:List AV->HM α} (hk:∀cs,(k cs).gives R):(HM.cells b g k).gives R:=by
 intro x
 match x with
 |some (.cells g' cs)=>
  simp only
  cases Nat.beq g' g<;>first|exact trivial|exact hk cs
 |some (.map _ _)=>trivial
 |some (.dead _)=>trivial
 |some (.loop ..)=>trivial
 |none=>trivial
theorem Qb9 {α:Type} {R:α->Prop} {i:Nat} {x:Nat->Blk} {k:Nat->Nat->HM α} (hk:(k i 0).gives R):(HM.new .dyn i x k).gives R:=by
 intro y
 match y with
 |none=>exact hk
 |some z=>trivial
theorem Qm4 {R:AV->Prop} {sz:Nat} {v:AV} {k:List AV->Nat->HM AV} (hk:∀ys n,(k ys n).gives R):(aSrc sz v k).gives R:=by
 unfold aSrc
 split
 ·split
  ·refine Qf8 fun cs => ?_
   split
   ·exact hk _ _
   ·trivial
  ·trivial
 ·split
  ·exact hk _ _
  ·trivial
 ·exact hk _ _
 ·exact hk _ _
 ·exact hk _ _
 ·split
  ·exact hk _ _
  ·trivial
 ·trivial
theorem QjQ {sz bytes:Nat} {x y:AV} {a:List Nat} (hx:Pts x a):(aAppend .dyn i sz bytes x y).gives fun v=>Pts v (i::a):=by
 have nil:∀{v:AV},blks v=some []->Pts v (i::a):=fun h=>⟨[],h,fun b hb=>by cases hb⟩
 unfold aAppend
 refine Qm4 fun ys n=>?_
 split
 ·obtain ⟨cs, h1, h2⟩ := hx
  split
  ·split
   ·exact nil rfl
   ·exact Qb9 ⟨_,rfl,fun b hb=>by simp_all⟩
  ·split
   ·exact nil rfl
   ·exact Qb9 ⟨_,rfl,fun b hb=>by simp_all⟩
  ·split
   ·exact nil rfl
   ·trivial
  ·simp only [blks, Option.some.injEq] at h1
   subst h1
   split
   ·refine Qf8 fun cs => ?_
    split
    ·exact⟨_,rfl,fun b hb=>List.mem_cons_of_mem _ (h2 b hb)⟩
    ·trivial
   ·trivial
  ·simp[blks]at h1
  ·trivial
 ·trivial
theorem Qey {s:SOper} {h h1:Heap} {v:AV} {f:FP} {bs:List Nat} (hax:∀x bs,ax x=some bs->Pts (ev T x) bs) (ht:s.op.absV i ax=some bs) (hs:StepV P i s T h v h1 f):Pts v bs:=by
 have self:∀{v:AV},blks v=some [i]->Pts v [i]:=fun h=>⟨_,h,fun b hb=>hb⟩
 have key:∀{s':SOp},s'.absV i ax=some bs->StepX P i s' T h v h1 f->Pts v bs:=by
  rintro s' ht ⟨out,h2,hm,ho⟩
  have hv:∀{m:HM AV},aop i T s'=hval m->(m.gives fun v=>Pts v bs)->Pts v bs:=by
   grind [QaL,HM.Qm3]
  have hl:∀{o:Option AV},aop i T s'=lift o->(∀u,o=some u->Pts u bs)->Pts v bs:=by
   grind [QaN]
  cases s'<;>try (simp only[SOp.absV,reduceCtorEq]at ht;done)
  ·simp only [aop, HM.run, Option.some.injEq, Prod.mk.injEq] at hm
   obtain⟨rfl,rfl⟩:=hm
   rw[ho.1];exact hax _ _ ht
  ·rename_i s z
   cases s<;>simp only[SOp.absV,reduceCtorEq,Option.some.injEq]at ht
   subst ht
   refine hv rfl ?_
   unfold aBox;split
   ·exact Qb9 (self rfl)
   ·trivial
  ·rename_i s z
   cases s<;>simp only[SOp.absV,reduceCtorEq,Option.some.injEq]at ht
   subst ht
   refine hv rfl ?_
   unfold aBox;split
   ·exact Qb9 (self rfl)
   ·trivial
  ·rename_i fz s sz len z ps
   cases fz<;>cases s<;>simp only[SOp.absV,reduceCtorEq,Option.some.injEq]at ht
   subst ht
   refine hv rfl ?_
   unfold aBuildSlice
   split
   ·split
    ·rw[if_neg (by simp)];exact Qb9 (self rfl)
    ·trivial
   ·trivial
  ·rename_i s
   cases s<;>simp only[SOp.absV,reduceCtorEq,Option.some.injEq]at ht
   subst ht
   exact hv rfl (Qb9 (self rfl))
  ·rename_i s sz b z l c
   cases s<;>simp only[SOp.absV,reduceCtorEq,Option.some.injEq]at ht
   subst ht
   refine hv rfl ?_
   unfold aMakeSlice
   split
   ·split
    ·exact Qb9 (self rfl)
    ·trivial
   ·trivial
  ·exact hl rfl fun u hu=>(hax _ _ ht).slice hu
  ·exact hl rfl fun u hu=>(hax _ _ ht).faddr hu
  ·exact hl rfl fun u hu=>(hax _ _ ht).iaddr hu
  ·rename_i s sz b x y
   cases s<;>simp only[SOp.absV,reduceCtorEq,Option.map_eq_some_iff]at ht
   obtain⟨a,ha,rfl⟩:=ht
   exact hv rfl (QjQ (hax _ _ ha))
 unfold StepV at hs
 split at hs
 ·exact key ht hs
 ·obtain ⟨t, _, hs⟩ := hs
  split at hs
  ·exact key ht hs
  ·obtain⟨rfl,_⟩:=hs;exact⟨[],rfl,fun b hb=>by cases hb⟩
end
def AbsOK (T0:Tmps) (A:Abs) (T:Tmps):Prop:=∀j bs,absT T0 A j=some bs->Pts (lk T j) bs
theorem AbsOK.opd {T0 T:Tmps} {A:Abs} (h:AbsOK T0 A T):∀x bs,absO T0 A x=some bs->Pts (ev T x) bs:=by
 intro x bs hx
 cases x with
 |t i=>exact h i bs hx
 |c v=>exact⟨bs,hx,fun b hb=>hb⟩
 |f n=>cases hx
 |g n=>cases hx
theorem AbsOK.nil {T:Tmps}:AbsOK T [] T:=fun j bs h=>⟨bs,h,fun b hb=>hb⟩
theorem AbsOK.up {T0 T:Tmps} {A:Abs} {d:Nat} {v:AV} {a:Option (List Nat)} (h:AbsOK T0 A T) (hv:∀bs,a=some bs->Pts v bs):AbsOK T0 ((d,a)::A) (up T d v):=by
 intro j bs hj
 rw[lk_up]
 simp only[absT]at hj
 by_cases e:d=j
 ·simp_all
 ·have : Nat.beq d j = false := by simp_all [Bool.eq_false_iff]
  rw[this]at hj
  rw[if_neg (fun h=>e h.symm)]
  exact h j bs hj
theorem Qlo {T0:Tmps}:∀{r:List SOper} {n:Nat} {A:Abs} {T:Tmps} {h:Heap} {K:Tmps->Heap->Nat->Prop} (hA:AbsOK T0 A T) (K':List FP->Tmps->Heap->Nat->Prop),
  (∀fs T h n',fs.length=r.length->(∀(j:Nat) ts,(touches n T0 r A).getD j none=some ts->(fs.getD j ⟨false,[],[]⟩).all=false/\∀b,b∈(fs.getD j ⟨false,[],[]⟩).R\/b∈(fs.getD j ⟨false,[],[]⟩).W->b∈ts)->K T h n'->K' fs T h n')->
  wpR P n r T h K->wpRF P n r T h K'
 |[],n,A,T,h,K,hA,K',hK,hw=>hK [] T h n rfl (fun j ts hj=>by simp_all) hw
 | s :: r, n, A, T, h, K, hA, K', hK, hw => by
  obtain⟨v,h1,f,hs,hr⟩:=hw
  refine⟨v,h1,f,hs,?_⟩
  have hA2:AbsOK T0 (match s.dst with|some d=>(d,s.op.absV n (absO T0 A))::A|none=>A) (putD T s.dst v):=by
   cases s.dst with
   |none=>exact hA
   |some d=>exact AbsOK.up hA fun bs hb=>Qey hA.opd hb hs
  refine Qlo hA2 (fun fs T h n=>K' (f::fs) T h n) (fun fs T h n' hl hf hk=>?_) hr
  refine hK (f::fs) T h n' (by simp[hl]) (fun j ts hj=>?_) hk
  cases j with
  |zero=>
   simp only[touches,List.getD_cons_zero]at hj⊢
   exact Qf7 hA.opd hj hs
  |succ j=>
   simp only[touches,List.getD_cons_succ]at hj⊢
   exact hf j ts hj
inductive PairsOK (n:Nat) (T:Tmps) (ops:List SOper) (ps:List (Nat×Nat)):Prop
 |mk (h:pairsOK (touches n T ops []) ps=true)
theorem Qdl {N:NM} {ops:List SOper} {p:Nat×Nat} {ps:List (Nat×Nat)} {dead:List Nat} {fs:List Fr} {n:Nat} {T:Tmps} {h:Heap} {Q:QC} (hp:PairsOK n T ops (p::ps)):
  wS P N (.region ops (p::ps) dead) fs n T h Q=wR P N ops dead fs n T h Q:=by
 obtain⟨hp⟩:=hp
 apply propext;constructor
 ·intro hw
  have:∀{r:List SOper} {n:Nat} {T:Tmps} {h:Heap} {K:List FP->Tmps->Heap->Nat->Prop} {K':Tmps->Heap->Nat->Prop},(∀fs T h n,K fs T h n->K' T h n)->wpRF P n r T h K->wpR P n r T h K':=by
   intro r
   induction r with
   |nil=>intro n T h K K' hK hw;exact hK _ _ _ _ hw
   |cons s r ih=>
    rintro n T h K K' hK ⟨v,h1,f,hs,hr⟩
    exact⟨v,h1,f,hs,ih (fun fs T h n hk=>hK _ _ _ _ hk) hr⟩
  exact this (fun fs' T h n hk=>hk.2) hw
 ·intro hw
  refine Qlo AbsOK.nil _ (fun fs' T h n' hl hf hk=>⟨?_,hk⟩) hw
  rw[List.all_eq_true]
  intro q hq
  have:=List.all_eq_true.1 hp q hq
  split at this
  ·rename_i a b ha hb
   obtain⟨f1,f2⟩:=hf _ _ ha
   obtain⟨g1,g2⟩:=hf _ _ hb
   have hd:∀x y,x∈a->y∈b->x≠y:=by
    grind
   have dj:∀xs ys:List Nat,(∀x∈xs,∀y∈ys,x≠y)->disj xs ys=true:=by
    intro xs ys hh
    unfold disj
    grind
   grind [FP.apart]
  ·cases this
theorem FrzL.nil {h:Heap}:FrzL h [] []:=trivial
theorem FrzL.cons {h:Heap} {x y:AV} {xs ys:List AV} (h1:FrzTo h x y) (h2:FrzL h xs ys):FrzL h (x::xs) (y::ys):=⟨h1,h2⟩
end Go.AM
namespace Go.AM
variable {P:Program}
def setL:HL->Heap->Heap
 |[],h=>h
 |(k,x)::r,h=>(setL r h).set k x
theorem Qez {h:Heap}:setL [] h=h:=rfl
theorem QdV {k:Nat} {x:Blk} {r:HL} {h:Heap}:setL ((k,x)::r) h=(setL r h).set k x:=rfl
theorem QjR {b:Nat} {h:Heap} (hf:Fresh b h):∀{L:HL},(L.all fun p=>Nat.ble b p.1&&Nat.blt p.1 1099511627775)=true->∀k,(setL L h).get k=if k<b then h.get k else(hp L).get k
 |[],_,k=>by
  simp only[setL,hp]
  split
  ·rfl
  ·rw[hf k (by omega),get_e]
 |(j,x)::r,hL,k=>by
  simp only[List.all_cons,Bool.and_eq_true,Nat.ble_eq,Nat.blt_eq]at hL
  obtain⟨⟨h1,h2⟩,h3⟩:=hL
  have ih:=QjR hf (L:=r) (by simpa using h3) k
  simp only[setL,hp]
  by_cases e:k=j
  ·simp_all [Qa6,if_neg]
  simp_all [Qa1]
theorem HSpec.of_O {f b:Nat} {args:List AV} {v:AV} {h:Heap} {L:HL} (hn:noRefs args=true) (hs:HSpec P f args .e v (hp L)) (hf:Fresh b h) (hL:(L.all fun p=>Nat.ble b p.1&&Nat.blt p.1 1099511627775)=true):HSpec P f args h v (setL L h):=by
 obtain⟨hc,hs⟩:=hs
 refine⟨hc,fun c w cargs H ha=>?_⟩
 refine(hs (only c.F) w cargs (HRel.only H.inF) (VRels.noRef (c:=c) (c':=only c.F) (fun _ h=>h) _ _ hn ha)).mono ?_
 rintro e w' ⟨cv,c',rfl,E,H',V⟩
 have hnewO:∀k,c'.O k->w.heap.size<=k:=fun k hO=>(E.own k hO).elim (fun h=>h.elim) id
 have hnewF:∀k,c'.F k->c.F k\/w.heap.size<=k:=fun k hF=>(E.frzNew k hF).elim .inl fun h=>h.elim (fun h=>h.elim) .inr
 have hkeep:∀k,k<w.heap.size->w'.heap[k]?=w.heap[k]?:=fun k hk=>E.keep k hk (fun h=>h)
 have hg:=QjR hf hL
 have hlow:∀k,(hp L).get k≠none->b<=k:=fun k hk=>by
  rcases Nat.lt_or_ge k b with h1|h1
  ·exfalso
   apply hk
   have:∀{M:HL},(M.all fun p=>Nat.ble b p.1&&Nat.blt p.1 1099511627775)=true->(hp M).get k=none:=by
    intro M
    induction M with
    |nil=>intro _;exact get_e
    |cons q M ih=>
     obtain⟨j,x⟩:=q
     intro hM
     simp only[List.all_cons,Bool.and_eq_true,Nat.ble_eq,Nat.blt_eq]at hM
     rw[Qcv,Qa1 hM.1.2 (by omega)];exact ih (by grind)
   exact this hL
  ·exact h1
 have hrlow:∀k g,k<b->c'.ρ k g=none:=fun k g hk=>by
  have:(hp L).get k=none:=by
   grind
  exact H'.fresh k this g
 have hrhigh:∀k g,b<=k->c.ρ k g=none:=fun k g hk=>H.fresh k (hf k hk) g
 let c2:Ctx (okc P):={ρ:=fun k g=>if k<b then c.ρ k g else c'.ρ k g,F:=c'.F,O:=fun k=>c.O k\/c'.O k,base:=c.base}
 have hr1:∀k g,k<b->c2.ρ k g=c.ρ k g:=fun k g hk=>if_pos hk
 have hr2:∀k g,b<=k->c2.ρ k g=c'.ρ k g:=fun k g hk=>if_neg (by omega)
 have hx1:∀k g p,c.ρ k g=some p->c2.ρ k g=some p:=fun k g p hp=>by
  grind
 have hx2:∀k g p,c'.ρ k g=some p->c2.ρ k g=some p:=fun k g p hp=>by
  grind
 have E2:Evo c w c2 w':=⟨E.os,E.tape,E.output,E.size,E.shape,fun k hk _=>hkeep k hk,hx1,fun k hk=>E.frz k hk,fun k hk=>(hnewF k hk).elim .inl fun h=> .inr (.inr h),fun k hk=>hk.elim .inl fun h=> .inr (hnewO k h),rfl⟩
 have X2:Ext c' w' c2 w':=⟨hx2,fun _ h=>h,fun k _ _ h=>h,fun k C e fr h=>⟨C,fr,h,rfl⟩⟩
 refine⟨cv,c2,rfl,E2,?_,VRel.mono X2 _ _ V⟩
 refine⟨fun k hk g=>?_,fun k x hk g hlt=>?_,fun k x hk=>?_,?_,fun k hF hO=>?_,fun k hF=>H'.inF k hF,fun k hO=>hO.elim (fun h=>Nat.lt_of_lt_of_le (H.inO k h) E.size) (H'.inO k)⟩
 ·rw [hg k] at hk
  split at hk
  ·rename_i h1;rw[hr1 k g h1];exact H.fresh k hk g
  ·rename_i h1;rw[hr2 k g (by omega)];exact H'.fresh k hk g
 ·rw [hg k] at hk
  split at hk
  ·rename_i h1;rw[hr1 k g h1];exact H.later k x hk g hlt
  ·rename_i h1;rw[hr2 k g (by omega)];exact H'.later k x hk g hlt
 ·rw [hg k] at hk
  split at hk
  ·refine BRel.mono (E2.ext H.disj) (fun cb base hd hp => ?_) (H.blk k x hk)
   have hO:=H.owned ⟨x,hk,rfl,hd⟩ hp
   exact⟨.inl hO,hkeep cb (H.inO _ hO)⟩
  ·refine BRel.mono X2 (fun cb base hd hp => ?_) (H'.blk k x hk)
   have hO:=H'.owned ⟨x,hk,rfl,hd⟩ hp
   grind
 ·intro b1 g1 b2 g2 cb base1 base2 l1 l2 p1 p2
  have key:∀k g base,Live (setL L h) k g->c2.ρ k g=some (.loc cb base)->(k<b/\Live h k g/\c.ρ k g=some (.loc cb base)/\cb<w.heap.size)\/(b<=k/\Live (hp L) k g/\c'.ρ k g=some (.loc cb base)/\w.heap.size<=cb):=by
   rintro k g base ⟨x,hk,rfl,hd⟩ hp
   rw[hg k]at hk
   split at hk
   ·rename_i h1
    rw[hr1 k _ h1]at hp
    exact .inl ⟨h1,⟨x,hk,rfl,hd⟩,hp,H.inO _ (H.owned ⟨x,hk,rfl,hd⟩ hp)⟩
   ·rename_i h1
    rw[hr2 k _ (by omega)]at hp
    exact .inr ⟨by omega,⟨x,hk,rfl,hd⟩,hp,hnewO _ (H'.owned ⟨x,hk,rfl,hd⟩ hp)⟩
  rcases key b1 g1 base1 l1 p1 with⟨k1,k2,k3,k4⟩|⟨k1,k2,k3,k4⟩<;>rcases key b2 g2 base2 l2 p2 with⟨j1,j2,j3,j4⟩|⟨j1,j2,j3,j4⟩
  ·exact H.inj _ _ _ _ _ _ _ k2 j2 k3 j3
  ·omega
  ·omega
  ·exact H'.inj _ _ _ _ _ _ _ k2 j2 k3 j3
 ·rcases hO with hO | hO
  ·rcases hnewF k hF with h1 | h1
   ·exact H.disj k h1 hO
   ·have:=H.inO k hO;omega
  ·exact H'.disj k hF hO
theorem HSpec.QbP {f:Nat} {sf:SFn} {args:List AV} {v:AV} {L:HL} (n:Nat) (hok:okFn P f sf=true) (hl:Nat.ble args.length sf.n=true)
  (hw:wS P ⟨sf.n,0⟩ sf.body [] n (argT 0 args) .e fun e T k _=>(e= .normal\/e= .ret)/\∃vs,resV T k sf.res=some vs/\Rec 0 [(0,v)] L [(0,resOf vs)] k):HSpec P f args .e v (hp L):=by
 refine HSpec.of_W2 (m:=0) hok (Nat.le_of_ble_eq_true hl) (fun b _=>get_e) ((wpC.toW hw).mono ?_)
 rintro e B ⟨n',h1,vs,h2,ps,ho,hro,hb,ht⟩
 exact⟨h1,vs,_,h2,Rec.maps ho hb,Rec.heap ho hb,Rec.dom ho hro,ht 0⟩
end Go.AM
namespace Go.AM
variable {P:Program}
section
variable {h:Heap}
end
section
variable {h:Heap}
theorem FrzTo.fn {f:Nat} {xs ys us vs:List AV} (hL:FrzL h xs ys) (hK:FrzL h us vs):FrzTo h (.fn f xs us) (.fn f ys vs):=fun _ c w v H hv=>by
 simp only[VRel]at hv⊢
 obtain⟨x',y',rfl,h1,h2⟩:=hv
 exact⟨x',y',rfl,hL.rels H h1,hK.rels H h2⟩
theorem FrzTo.ptr {b g off:Nat} {cs ys:List AV} (hb:h.get b=some (.cells g cs)) (hL:FrzL h (cs.drop off) ys):FrzTo h (.ptr b g off) (.fptr ys):=fun _ c w v H hv=>by
 simp only[VRel]at hv
 obtain⟨cb,base,hp,rfl⟩:=hv
 obtain⟨C',e',fr',hO,hC',hfr,hbs,hpre⟩:=H.here hb hp
 have hp2:=Qbc off hpre
 rw[List.drop_drop]at hp2
 simp only[VRel]
 exact⟨cb,base+off,C',e',fr',rfl,.inr hO,hC',hL.pre H hp2⟩
theorem HSpec.lend {f:Nat} {args bs:List AV} {v:AV} (hL:FrzL h args bs) (hp:PSpec P f bs v) (hv:flatV v=true):HSpec P f args h v h:=by
 obtain⟨h',hc,_⟩:=hp.2.2
 exact⟨hc,fun c w cargs H ha=>(hp.borrow hv H (hL.rels H ha)).2⟩
end
end Go.AM
namespace Go.AM
variable {P:Program}
def noLoop:SCode->Bool
 | .loop _| .mloop .. =>false
 | .seq a b=>noLoop a&&noLoop b
 | .cond _ a b=>noLoop a&&noLoop b
 | .block _ b=>noLoop b
 | .rfunc .. =>false
 |_=>true
theorem wpC.toW1 {N:NM}:∀{c:SCode} {n:Nat} {T:Tmps} {h:Heap} {Q:QC},noLoop c=true->wpC P N c n T h Q->W P N.n c (fun e B=>∃n,Q e B.T B.h n) ⟨T,h⟩
 | .skip,n,T,h,Q,_,hk=>W.skip ⟨n,hk⟩
 | .ret,n,T,h,Q,_,hk=>W.ret ⟨n,hk⟩
 | .exit i,n,T,h,Q,_,hk=>W.exit ⟨n,hk⟩
 | .bad,_,_,_,_,_,hk=>hk.elim
 | .mloop ..,n,T,h,Q,hn,hk=>by simp[noLoop]at hn
 | .rfunc ..,n,T,h,Q,hn,hk=>by simp[noLoop]at hn
 | .loop _,n,T,h,Q,hn,hk=>by simp[noLoop]at hn
 | .region ops [] dead,n,T,h,Q,_,hk=>by
  have:=wpR.toWR (i:=0) hk
  exact W.regionR n (this|>fun h=>by simpa using(show _ from(wpC.toW.wr_mono h)))
 | .region ops (p::ps) dead,n,T,h,Q,_,hk=>by
  obtain⟨fs,T',h',h1,h2,h3⟩:=wpRF.toF (i:=0) hk
  grind [W.regionF]
 | .seq a b,n,T,h,Q,hn,hk=>by
  simp only[wpC]at hk
  simp only[noLoop,Bool.and_eq_true]at hn
  refine W.seq ((wpC.toW1 (c:=a) hn.1 hk).mono ?_)
  rintro e B ⟨n',hq⟩
  cases e with
  |normal=>exact wpC.toW1 hn.2 hq
  |exit i=>exact⟨n',hq⟩
  |ret=>exact⟨n',hq⟩
 | .cond x a b,n,T,h,Q,hn,⟨t,hx,hk⟩=>by
  simp only[noLoop,Bool.and_eq_true]at hn
  refine W.cond hx ?_ ?_
  ·intro e;rw[if_pos e]at hk;exact wpC.toW1 hn.1 hk
  ·intro e;rw[if_neg (by simp[e])]at hk;exact wpC.toW1 hn.2 hk
 | .block i b,n,T,h,Q,hn,hk=>by
  simp only[wpC]at hk
  refine W.block ((wpC.toW1 (c:=b) hn hk).mono ?_)
  grind
section
variable {N:NM} {n:Nat} {T L:Tmps} {h:Heap} {Q:QC} {fs:List Fr} {b2:Nat} {G:Prop}
end
end Go.AM
namespace Go.AM
variable {P:Program}
section
variable {N:NM} {n:Nat} {d:Option Nat} {af dead:List Nat} {r:List SOper} {T:Tmps} {h:Heap} {Q:QC} {fs:List Fr}
theorem Qfh (hl:n<1099511627775):wM P N (aMakeMap .dyn n) d r dead fs n T h Q=if h.get n=none then wR P N r dead fs (n+1) (putD T d (.map n 0)) (h.set n (.map 0 [])) Q else False:=by
 have hl':Nat.blt n lim=true:=by simp[Nat.blt];unfold lim;omega
 apply propext;constructor
 ·rintro ⟨v', h1, hm, hk⟩
  unfold aMakeMap HM.new at hm
  simp only[HM.run]at hm
  cases hn:h.get n with
  |none=>
   rw[hn]at hm
   obtain⟨hl,hm⟩:=QaT hm
   simp only[HM.run,Option.some.injEq,Prod.mk.injEq]at hm
   obtain⟨rfl,rfl⟩:=hm
   rw[if_pos rfl];exact hk
  |some z=>rw[hn]at hm;cases hm
 ·split
  ·rename_i hn
   intro hk
   refine⟨_,_,?_,hk⟩
   grind [aMakeMap,HM.new,HM.run]
  simp_all
def keyM (k:IntKind) (v:AV) (l:List Nat):List (AV×AV):=l.map fun x:Nat=>(.int k (x:Int),v)
theorem RnM.keyM {m:Nat} {π:Nat->Option Src} {h:Heap} {k:IntKind} {v:AV} (hv:noRef v=true):∀{l:List Nat},RnM m π h (keyM k v l) (keyM k v l)
 |[]=>trivial
 |x::l=>⟨⟨Rn.same rfl,Rn.same hv⟩,RnM.keyM hv (l:=l)⟩
end
theorem wordsM:AV.nilmap.boxable=true/\AV.nilmap.cells=[.nilmap]/\(∀b g,(AV.map b g).cells=[.map b g])/\(∀b g,(AV.map b g).one=true)/\(∀b g,(AV.map b g).boxable=true)/\AV.nilmap.one=true:=
 ⟨rfl,rfl,fun _ _=>rfl,fun _ _=>rfl,fun _ _=>rfl,rfl⟩
theorem HSpec.Qck {f m:Nat} {sf:SFn} {args:List AV} {L0 L:HL} {v:AV} (n:Nat) (hok:okFn P f sf=true) (hl:Nat.ble args.length sf.n=true) (hm:(Nat.ble m 1099511627775&&L0.all fun p=>Nat.blt p.1 m)=true)
  (hv:noRef v=true) (hw:wS P ⟨sf.n,m⟩ sf.body [] n (argT 0 args) (hp L0) fun e T k _=>(e= .normal\/e= .ret)/\∃vs,resV T k sf.res=some vs/\resOf vs=v/\Rec m [] L T k):HSpec P f args (hp L0) v (hp L):=by
 simp only[Bool.and_eq_true,Nat.ble_eq]at hm
 refine HSpec.of_W2 hok (Nat.le_of_ble_eq_true hl) (fun b hb=>?_) ((wpC.toW hw).mono ?_)
 ·have : ∀ M : HL, M.all (fun p => Nat.blt p.1 m) = true -> (hp M).get b = none := by
   intro M
   induction M with
   |nil=>intro _;exact get_e
   |cons q M ih=>
    obtain⟨j,x⟩:=q
    intro hM
    simp only[List.all_cons,Bool.and_eq_true,Nat.blt,Nat.ble_eq]at hM
    rw[Qcv,Qa1 (by omega) (by omega)];exact ih (by grind [Nat.blt])
  grind
 ·rintro e B ⟨n', h1, vs, h2, h3, ps, ho, hro, hb, ht⟩
  exact⟨h1,vs,_,h2,Rec.maps ho hb,Rec.heap ho hb,Rec.dom ho hro,by simp_all [Rn.same]⟩
end Go.AM
namespace Go.AM
theorem wV:type_of% @words/\type_of% @wordsN/\type_of% @wordsR/\type_of% @Qdl/\type_of% @Qc0/\type_of% @Qcj/\type_of% @Qc1/\type_of% @Qc2/\type_of% @Qc3/\type_of% @Qdi/\type_of% @Qdj/\type_of% @Qdk/\type_of% @QdV/\type_of% @Qez/\type_of% @SX.exit.injEq/\type_of% @if_true.{1}/\type_of% @if_false.{1}/\type_of% @ne_eq.{1}:=
 ⟨@words,@wordsN,@wordsR,@Qdl,@Qc0,@Qcj,@Qc1,@Qc2,@Qc3,@Qdi,@Qdj,@Qdk,@QdV,@Qez,@SX.exit.injEq,@if_true,@if_false,@ne_eq⟩
theorem gg {p:Prop} (h:p:=by first|(simp(disch:=omega) only[Qa6,Qa1,Qcv];done)|(simp(disch:=omega) only[Qa6,Qa1,Qcv];rfl)):p:=h
end Go.AM
namespace Go.AM
variable {P:Program}
end Go.AM
namespace Go.AM
end Go.AM
namespace Go.AM
variable {P:Program}
abbrev Claims:=List (Nat×List Nat)
def clm:Claims->Nat->Option (List Nat)
 |[],_=>none
 |(j,bs)::r,d=>bif Nat.beq j d then some bs else clm r d
def absH (C:Claims) (d:Nat) (a:Option (List Nat)):Option (List Nat):=match clm C d with|some bs=>some bs|none=>a
def touch2 (i:Nat) (ax:Opd->Option (List Nat)):SOp->Option (List Nat)
 | .call .pure _ _=>some []
 |s=>s.touch i ax
theorem Qfi {i:Nat} {T:Tmps} {ax:Opd->Option (List Nat)} {s:SOper} {h h1:Heap} {v:AV} {f:FP} {ts:List Nat} (hax:∀x bs,ax x=some bs->Pts (ev T x) bs) (ht:touch2 i ax s.op=some ts) (hs:StepV P i s T h v h1 f):
  f.all=false/\∀b,b∈f.R\/b∈f.W->b∈ts:=by
 by_cases hc:∃x asg,s.op= .call .pure x asg
 ·obtain ⟨x, asg, hop⟩ := hc
  have key:StepX P i s.op T h v h1 f->f.all=false/\∀b,b∈f.R\/b∈f.W->b∈ts:=by
   rintro⟨out,h2,hm,ho⟩
   rw[hop]at hm ho
   simp only[aop]at hm ho
   cases hx:ev T x with
   |fn f' first cap=>
    rw[hx]at hm ho
    simp only[aCall,HM.run,Option.some.injEq,Prod.mk.injEq]at hm
    obtain⟨rfl,rfl⟩:=hm
    simp only[aCall,HM.fp]at ho
    obtain⟨_,_,rfl⟩:=ho
    exact⟨rfl,fun b hb=>by simp[fpOf]at hb⟩
   |_=>rw[hx]at hm;simp[aCall,HM.run]at hm
  unfold StepV at hs
  grind
 ·refine Qf7 hax ?_ hs
  simp_all [touch2]
def touchesH (C:Claims) (n:Nat) (T:Tmps):List SOper->Abs->List (Option (List Nat))
 |[],_=>[]
 |s::r,A=>touch2 n (absO T A) s.op::touchesH C (n+1) T r (match s.dst with|some d=>(d,absH C d (s.op.absV n (absO T A)))::A|none=>A)
def ssa (C:Claims):List SOper->Bool
 |[]=>true
 |s::r=>(match s.dst with|some d=>(clm C d).isNone||r.all fun s'=>(match s'.dst with|some e=> !Nat.beq e d|none=>true)|none=>true)&&ssa C r
theorem Qlp:∀{r:List SOper} {n:Nat} {T:Tmps} {h:Heap} {K:Tmps->Heap->Nat->Prop},wpR P n r T h K->∃T' h' n',K T' h' n'/\∀d,(∀s∈r,s.dst≠some d)->lk T' d=lk T d
 |[],n,T,h,K,hk=>⟨T,h,n,hk,fun _ _=>rfl⟩
 |s::r,n,T,h,K,⟨v,h1,f,hs,hr⟩=>by
  obtain⟨T',h',n',hk,he⟩:=Qlp hr
  refine⟨T',h',n',hk,fun d hd=>?_⟩
  simp_all [Qbu]
theorem QjS {T0:Tmps} {C:Claims}:∀{r:List SOper} {n:Nat} {A:Abs} {T:Tmps} {h:Heap} {K:Tmps->Heap->Nat->Prop} (hA:AbsOK T0 A T) (K':List FP->Tmps->Heap->Nat->Prop)
  (hC:∀T h n,K T h n->∀d bs,clm C d=some bs->Pts (lk T d) bs) (hssa:ssa C r=true),
  (∀fs T h n',fs.length=r.length->(∀(j:Nat) ts,(touchesH C n T0 r A).getD j none=some ts->(fs.getD j ⟨false,[],[]⟩).all=false/\∀b,b∈(fs.getD j ⟨false,[],[]⟩).R\/b∈(fs.getD j ⟨false,[],[]⟩).W->b∈ts)->K T h n'->K' fs T h n')->
  wpR P n r T h K->wpRF P n r T h K'
 |[],n,A,T,h,K,hA,K',hC,hssa,hK,hw=>hK [] T h n rfl (fun j ts hj=>by simp_all) hw
 | s :: r, n, A, T, h, K, hA, K', hC, hssa, hK, hw => by
  obtain⟨v,h1,f,hs,hr⟩:=hw
  simp only[ssa,Bool.and_eq_true]at hssa
  obtain⟨hs1,hs2⟩:=hssa
  refine⟨v,h1,f,hs,?_⟩
  have hA2:AbsOK T0 (match s.dst with|some d=>(d,absH C d (s.op.absV n (absO T0 A)))::A|none=>A) (putD T s.dst v):=by
   cases e:s.dst with
   |none=>exact hA
   | some d =>
    refine AbsOK.up hA fun bs hb=>?_
    unfold absH at hb
    split at hb
    ·rename_i bs' hc
     cases hb
     obtain⟨T',h',n',hk,he⟩:=Qlp hr
     have h3:=hC T' h' n' hk d _ hc
     rw[he d ?_,Qbu,if_pos e]at h3
     ·exact h3
     ·intro s' hs'
      rw[e]at hs1
      simp only[hc,Option.isNone_some,Bool.false_or,List.all_eq_true]at hs1
      have:=hs1 s' hs'
      intro e2
      simp_all
    ·exact Qey hA.opd hb hs
  refine QjS hA2 (fun fs T h n=>K' (f::fs) T h n) hC hs2 (fun fs T h n' hl hf hk=>?_) hr
  refine hK (f::fs) T h n' (by simp[hl]) (fun j ts hj=>?_) hk
  cases j with
  |zero=>
   simp only[touchesH,List.getD_cons_zero]at hj⊢
   exact Qfi hA.opd hj hs
  |succ j=>
   simp only[touchesH,List.getD_cons_succ]at hj⊢
   exact hf j ts hj
def Clms (T:Tmps):Claims->Prop
 |[]=>True
 |(d,bs)::r=>Pts (lk T d) bs/\Clms T r
theorem Clms.get {T:Tmps}:∀{C:Claims},Clms T C->∀d bs,clm C d=some bs->Pts (lk T d) bs
 |[],_,d,bs,h=>by cases h
 | (j, cs) :: r, hh, d, bs, h => by
  simp only[clm]at h
  cases e:Nat.beq j d with
  |true=>
   rw[e]at h
   simp only[cond_true,Option.some.injEq]at h
   have:j=d:=by simpa using e
   subst this;subst h;exact hh.1
  |false=>rw[e]at h;exact Clms.get hh.2 d bs h
theorem Ql7 (C:Claims) {N:NM} {ops:List SOper} {p:Nat×Nat} {ps:List (Nat×Nat)} {dead:List Nat} {fs:List Fr} {n:Nat} {T:Tmps} {h:Heap} {Q:QC} (hssa:ssa C ops=true) (hp:pairsOK (touchesH C n T ops []) (p::ps)=true)
  (hw:wR P N ops [] [] n T h fun e T h n=>Clms T C/\wX P N .normal fs n (rm T dead) h Q):wS P N (.region ops (p::ps) dead) fs n T h Q:=by
 have rm0:∀T:Tmps,rm T []=T:=by
  intro T
  induction T with
  |nil=>rfl
  |cons p T ih=>obtain⟨j,v⟩:=p;simp[rm,ih]
 refine QjS (C:=C) (K:=fun T h n=>Clms T C/\wX P N .normal fs n (rm T dead) h Q) AbsOK.nil _ (fun T h n hk d bs hc=>hk.1.get d bs hc) hssa (fun fs' T h n' hl hf hk=>⟨?_,hk.2⟩) ?_
 ·rw [List.all_eq_true]
  intro q hq
  have:=List.all_eq_true.1 hp q hq
  split at this
  ·rename_i a b ha hb
   obtain⟨f1,f2⟩:=hf _ _ ha
   obtain⟨g1,g2⟩:=hf _ _ hb
   have hd:∀x y,x∈a->y∈b->x≠y:=by
    grind
   have dj:∀xs ys:List Nat,(∀x∈xs,∀y∈ys,x≠y)->disj xs ys=true:=by
    intro xs ys hh
    unfold disj
    grind
   grind [FP.apart]
  ·cases this
 ·have hw' : wpR P n ops T h fun T h n => Clms (rm T []) C /\ wX P N .normal fs n (rm (rm T []) dead) h Q := hw
  simp_all
end Go.AM
namespace Go.AM
variable {P:Program} {N:NM} {n:Nat} {d:Option Nat} {af dead:List Nat} {r:List SOper} {T:Tmps} {h:Heap} {Q:QC} {fs:List Fr}
end Go.AM
namespace Go.AM
end Go.AM
namespace Go.AM
theorem Rn.nilK {m:Nat} {π:Nat->Option Src} {h:Heap} {sz:Nat}:Rn m π h (.fsl [] 0 sz) .nilsl:=fun _ c w v H M hv=>by
 simp_all [VRel]
end Go.AM
namespace Go.AM
variable {P:Program}
end Go.AM
namespace Go.AM
variable {P:Program}
theorem HSpec.empty {f sz:Nat} {asg:List AV} {h h':Heap} {v:AV} (h1:HSpec P f (.nilsl::asg) h v h') (h2:HSpec P f (.nsl::asg) h v h'):HSpec P f (.fsl [] 0 sz::asg) h v h':=by
 obtain⟨hc,h1⟩:=h1
 obtain⟨_,h2⟩:=h2
 refine⟨hc,fun c w cargs H ha=>?_⟩
 simp only[VRels]at ha
 obtain⟨u,us,e,hv,hr⟩:=ha
 simp only[VRel]at hv
 rcases hv with⟨⟨a,rfl⟩,_⟩|⟨cb,off,cap,C,_,_,rfl,_⟩
 ·cases a with
  |none=>exact h1 c w cargs H (by rw[e];simp only[VRels];exact⟨_,_,rfl,by simp[VRel],hr⟩)
  |some a=>exact h2 c w cargs H (by rw[e];simp only[VRels];exact⟨_,_,rfl,by simp[VRel],hr⟩)
 ·exact h2 c w cargs H (by rw[e];simp only[VRels];exact⟨_,_,rfl,by simp[VRel],hr⟩)
end Go.AM
namespace Go.AM
end Go.AM
namespace Go.AM
variable {P:Program}
theorem HSpec.freeze {f b g len sz : Nat} {args ds : List AV} {h h1 : Heap} (S : HSpec P f args h (.sl b g 0 len sz) h1) (hb : h1.get b = some (.cells g ds)) (hf : flatVs ds = true) (hl : len * sz <= ds.length)
    (hlim:Nat.blt b 1099511627775=true):HSpec P f args h (.fsl (ds.take (len*sz)) len sz) (h1.set b (.dead g)):=by
  have hlim':b<1099511627775:=by simp_all
  obtain⟨hc,hs⟩:=S
  refine⟨hc,fun c w cargs H ha=>(hs c w cargs H ha).mono ?_⟩
  rintro e w' ⟨cv,c',rfl,E,H',V⟩
  have hlive:Live h1 b g:=⟨_,hb,rfl,fun _=>by simp⟩
  let c2:Ctx (okc P):={c' with F:=fun k=>c'.F k\/∃base,c'.ρ b g=some (.loc k base),O:=fun k=>c'.O k/\¬∃base,c'.ρ b g=some (.loc k base)}
  have hset:∀k,(h1.set b (.dead g)).get k=if k=b then some (.dead g)else h1.get k:=fun k=>by
    by_cases e:k=b
    · subst e;rw[Qa6 hlim',if_pos rfl]
    simp_all [Qa1]
  have hlv:∀k y,Live (h1.set b (.dead g)) k y->k≠b/\Live h1 k y:=by
    rintro k y ⟨x,hk,hg,hd⟩
    rw[hset]at hk
    split at hk
    · grind
    · rename_i e;exact⟨e,x,hk,hg,hd⟩
  have E2:Evo c w c2 w':=⟨E.os,E.tape,E.output,E.size,E.shape,E.keep,E.rho,fun k hk=> .inl (E.frz k hk),fun k hk=>by
    rcases hk with hk|⟨base,hk⟩
    · exact E.frzNew k hk
    · rcases E.own k (H'.owned hlive hk) with h | h
      · simp_all
      omega,fun k hk=>E.own k hk.1,E.base⟩
  refine⟨cv,c2,rfl,E2,⟨fun k hk y=>?_,fun k x hk y hlt=>?_,fun k x hk=>?_,fun k y k' y' cb base base' l1 l2 p1 p2=>H'.inj k y k' y' cb base base' (hlv _ _ l1).2 (hlv _ _ l2).2 p1 p2,fun k hF hO=>?_,fun k hF=>?_,fun k hO=>H'.inO k hO.1⟩,?_⟩
  · rw [hset] at hk
    split at hk
    · cases hk
    · exact H'.fresh k hk y
  · rw [hset] at hk
    split at hk
    · rename_i e; subst e; cases hk
      exact H'.later k _ hb y hlt
    · exact H'.later k x hk y hlt
  · rw [hset] at hk
    split at hk
    · cases hk;trivial
    · rename_i e
      refine BRel.mono (c:=c') (c':=c2) (w:=w') (w':=w') ⟨fun _ _ _ h=>h,fun _ h=> .inl h,fun _ _ _ h=>h,fun _ C _ fr h=>⟨C,fr,h,rfl⟩⟩ (fun cb base hd hp=>?_) (H'.blk k x hk)
      have hlk:Live h1 k x.gen:=⟨x,hk,rfl,hd⟩
      exact⟨⟨H'.owned hlk hp,fun⟨base',hp'⟩=>e (H'.inj _ _ _ _ _ _ _ hlk hlive hp hp')⟩,rfl⟩
  · rcases hF with hF | hF
    · exact H'.disj k hF hO.1
    grind
  · rcases hF with hF | ⟨base, hF⟩
    · exact H'.inF k hF
    · exact H'.inO k (H'.owned hlive hF)
  · simp only [VRel] at V
    rcases V with⟨hp,rfl,_,rfl⟩|⟨cb,base,o,cap,C,e,fr,hp,rfl,hlc,hC,hcap⟩
    · simp_all [VRel]
    · obtain ⟨C', e', fr', hO, hC', hfr, hbs, hpre⟩ := H'.here hb hp
      rw[hC]at hC';cases hC'
      have hF:c2.F cb:= .inr ⟨base,hp⟩
      by_cases h0:cap=0
      · have hl0 : len = 0 := by omega
        subst hl0
        simp only[VRel]
        simp_all
      · obtain ⟨rfl, hbd⟩ := hcap.resolve_left h0
        have hp2:=VPre.flat (c':=c2) (w':=w') hf hpre
        have hp3:=VPre_take2 (len*sz) hp2
        simp only[VRel]
        grind
where
  VPre_take2 {c:Ctx (okc P)} {w:World}:∀(n:Nat) {xs:List AV} {vs:List Value},VPre c w xs vs->VPre c w (xs.take n) vs
    |0,xs,vs,h=>by simp[VPre]
    |n+1,[],vs,h=>by simp[VPre]
    | n + 1, x :: xs, vs, h => by
      simp only[VPre]at h
      obtain⟨v,vs',rfl,h1,h2⟩:=h
      simp only[List.take_succ_cons,VPre]
      exact⟨v,vs',rfl,h1,VPre_take2 n h2⟩
end Go.AM
namespace Go.AM
variable {P:Program}
def OnlyD (D:Nat->Prop) (args:List AV):Prop:=∀(ok:Okc) (c c1:Ctx ok) (w:World) (vs:List Value),(∀b g,D b->c1.ρ b g=c.ρ b g)->(∀k,c.F k->c1.F k)->VRels c w args vs->VRels c1 w args vs
theorem OnlyD.nil {D:Nat->Prop}:OnlyD D []:=fun _ c c1 w vs _ _ h=>by grind [VRels]
theorem OnlyD.cons {D:Nat->Prop} {x:AV} {xs:List AV} (hx:OnlyD D [x]) (h:OnlyD D xs):OnlyD D (x::xs):=fun ok c c1 w vs h1 h2 hv=>by
 simp only[VRels]at hv⊢
 obtain⟨v,vs',rfl,h3,h4⟩:=hv
 have:=hx ok c c1 w [v] h1 h2 (by simp only[VRels];simp_all)
 simp only[VRels]at this
 obtain⟨v2,vs2,e,h5,_⟩:=this
 cases e
 exact⟨v,vs',rfl,h5,h _ c c1 w vs' h1 h2 h4⟩
theorem OnlyD.same {D:Nat->Prop} {x:AV} (hn:noRef x=true):OnlyD D [x]:=fun _ c c1 w vs h1 h2 hv=>by
 simp only[VRels]at hv⊢
 obtain⟨v,vs',rfl,h3,h4⟩:=hv
 exact⟨v,vs',rfl,VRel.noRef h2 _ _ hn h3,h4⟩
theorem OnlyD.map {D:Nat->Prop} {b g:Nat} (hb:D b):OnlyD D [.map b g]:=fun _ c c1 w vs h1 h2 hv=>by
 simp only[VRels]at hv⊢
 obtain⟨v,vs',rfl,h3,h4⟩:=hv
 refine⟨v,vs',rfl,?_,h4⟩
 simp_all [VRel]
def NoRefB:Blk->Prop
 | .cells _ cs=>noRefs cs=true
 | .map _ es=>∀e∈es,noRef e.1=true/\noRef e.2=true
 | .dead _=>True
 |_=>False
theorem VPre.noRef2 {ok:Okc} {c c':Ctx ok} {w:World} (hF:∀k,c.F k->c'.F k) {xs:List AV} {vs:List Value} (hn:noRefs xs=true) (h:VPre c w xs vs):VPre c' w xs vs:=VPre.noRef hF _ _ hn h
theorem MRel.noRef2 {ok:Okc} {c c':Ctx ok} {w:World} (hF:∀k,c.F k->c'.F k):∀{xs:List (AV×AV)} {es:List MapEntry} {clock:Nat},(∀e∈xs,noRef e.1=true/\noRef e.2=true)->MRel c w xs es clock->MRel c' w xs es clock
 |[],_,_,_,h=>h
 |(k,x)::r,es,clock,hn,h=>by
  obtain⟨e,es',h1,h2,h3,h4,h5,h6⟩:=h
  obtain⟨q1,q2⟩:=hn (k,x) (by simp)
  exact⟨e,es',h1,VRel.noRef hF _ _ q1 h2,VRel.noRef hF _ _ q2 h3,h4,h5,MRel.noRef2 hF (fun e he=>hn e (by simp[he])) h6⟩
theorem NoRefB.rel {ok:Okc} {c c':Ctx ok} {w:World} {b:Nat} {x:Blk} (hx:NoRefB x) (hF:∀k,c.F k->c'.F k) (hr:∀g,c'.ρ b g=c.ρ b g) (hO:∀k g base,c.ρ b g=some (.loc k base)->(∀j,x≠ .dead j)->x.gen=g->c.O k->c'.O k) (h:BRel c w b x):BRel c' w b x:=by
 cases x with
 |dead g=>trivial
 |map g es=>
  obtain⟨cb,es',clock,h1,h2,h3,h4⟩:=h
  exact⟨cb,es',clock,(hr _).trans h1,hO cb g 0 h1 (fun _=>by simp) rfl h2,h3,MRel.noRef2 hF hx h4.1,h4.2⟩
 |loop=>exact hx.elim
 |cells g cs=>
  rcases h with⟨h1,h2⟩|⟨cb,base,C,e,fr,h1,h2,h3,h4,h5,h6⟩
  ·exact .inl ⟨(hr _).trans h1,h2⟩
  ·exact .inr ⟨cb,base,C,e,fr,(hr _).trans h1,hO cb g base h1 (fun _=>by simp) rfl h2,h3,h4,h5,VPre.noRef2 hF hx h6⟩
theorem HSpec.frame {f : Nat} {args : List AV} {v : AV} {h h1 h1' h' : Heap} (D : Nat -> Prop) [DecidablePred D] (hs : HSpec P f args h1 v h1') (ha : OnlyD D args) (hv : OnlyD D [v])
    (e1:∀k,h1.get k=if D k then h.get k else none) (e2:∀k,¬D k->h1'.get k=none) (e3:∀k,h'.get k=if D k then h1'.get k else h.get k)
    (n1:∀k x,h1.get k=some x->NoRefB x) (n2:∀k x,h1'.get k=some x->NoRefB x):HSpec P f args h v h':=by
  obtain⟨hc,hs⟩:=hs
  refine⟨hc,fun c w cargs H hargs=>?_⟩
  let c1:Ctx (okc P):={ρ:=fun k y=>if D k then c.ρ k y else none,F:=c.F,O:=fun k=>∃b g base,D b/\Live h b g/\c.ρ b g=some (.loc k base),base:=c.base}
  have hr1:∀b y,D b->c1.ρ b y=c.ρ b y:=fun b y hb=>if_pos hb
  have hO1:∀k,c1.O k->c.O k:=fun k ⟨b,g,base,_,hl,hk⟩=>H.owned hl hk
  have hg1:∀{k x},h1.get k=some x->D k/\h.get k=some x:=fun{k x} hk=>by
    simp_all
  have hl1:∀{k y},Live h1 k y->D k/\Live h k y:=fun{k y} ⟨x,hk,hx,hd⟩=>⟨(hg1 hk).1,x,(hg1 hk).2,hx,hd⟩
  have H1:HRel c1 h1 w:=by
    refine⟨fun k hk y=>?_,fun k x hk y hlt=>?_,fun k x hk=>?_,fun k y k' y' cb base base' l1 l2 p1 p2=>?_,fun k hF hO=>H.disj k hF (hO1 k hO),H.inF,fun k hO=>H.inO k (hO1 k hO)⟩
    · rw [e1] at hk
      split at hk
      · rename_i hd;rw[hr1 _ _ hd];exact H.fresh k hk y
      grind
    · obtain ⟨hd, hk⟩ := hg1 hk
      rw[hr1 _ _ hd];exact H.later k _ hk y hlt
    · obtain ⟨hd, hk2⟩ := hg1 hk
      exact NoRefB.rel (c:=c) (c':=c1) (n1 k x hk) (fun _ h=>h) (fun g=>hr1 k g hd) (fun cb g base hp hne hgen _=>⟨k,g,base,hd,⟨x,hk2,hgen,hne⟩,hp⟩) (H.blk k x hk2)
    · obtain ⟨d1, l1⟩ := hl1 l1
      obtain⟨d2,l2⟩:=hl1 l2
      rw[hr1 _ _ d1]at p1
      rw[hr1 _ _ d2]at p2
      exact H.inj _ _ _ _ _ _ _ l1 l2 p1 p2
  refine(hs c1 w cargs H1 (ha _ c c1 w _ (fun b g hb=>hr1 b g hb) (fun _ h=>h) hargs)).mono ?_
  rintro e w' ⟨cv,c',rfl,E,H',V⟩
  let c2:Ctx (okc P):={ρ:=fun k y=>if D k then c'.ρ k y else c.ρ k y,F:=c'.F,O:=fun k=>c'.O k\/(c.O k/\¬c1.O k),base:=c.base}
  have hrD:∀b y,D b->c2.ρ b y=c'.ρ b y:=fun b y hb=>if_pos hb
  have hrN:∀b y,¬D b->c2.ρ b y=c.ρ b y:=fun b y hb=>if_neg hb
  have E2:Evo c w c2 w':=by
    refine⟨E.os,E.tape,E.output,E.size,E.shape,fun k hk hO=>E.keep k hk fun h=>hO (hO1 k h),fun b y p hp=>?_,fun k hk=>E.frz k hk,fun k hk=>?_,fun k hk=>?_,rfl⟩
    · by_cases hd : D b
      · rw[hrD _ _ hd];exact E.rho b y p ((hr1 _ _ hd).trans hp)
      simp_all
    · rcases E.frzNew k hk with h | h | h
      · exact .inl h
      · simp_all
      omega
    · rcases hk with hk | hk
      · rcases E.own k hk with h | h
        · simp_all
        · exact .inr h
      simp_all
  have hg3:∀{k x},h'.get k=some x->(D k/\h1'.get k=some x)\/(¬D k/\h.get k=some x):=fun{k x} hk=>by
    grind
  have hl3:∀{k y},Live h' k y->(D k/\Live h1' k y)\/(¬D k/\Live h k y):=fun{k y} ⟨x,hk,hx,hd⟩=>by
    rcases hg3 hk with⟨q1,q2⟩|⟨q1,q2⟩
    · exact .inl ⟨q1,x,q2,hx,hd⟩
    · exact .inr ⟨q1,x,q2,hx,hd⟩
  have hout:∀{k y cb base},¬D k->Live h k y->c.ρ k y=some (.loc cb base)->¬c1.O cb:=by
    rintro k y cb base hd hl hp ⟨b,g,base',hb,hlb,hpb⟩
    have:=H.inj _ _ _ _ _ _ _ hl hlb hp hpb
    simp_all
  have hcross:∀{k y k' y' cb base base'},D k->Live h1' k y->c'.ρ k y=some (.loc cb base)->¬D k'->Live h k' y'->c.ρ k' y'=some (.loc cb base')->False:=by
    intro k y k' y' cb base base' hd l1 p1 hd' l2 p2
    rcases E.own cb (H'.owned l1 p1)with h|h
    · grind
    · have:=H.inO cb (H.owned l2 p2);omega
  refine⟨cv,c2,rfl,E2,⟨fun k hk y=>?_,fun k x hk y hlt=>?_,fun k x hk=>?_,fun k y k' y' cb base base' l1 l2 p1 p2=>?_,fun k hF hO=>?_,H'.inF,fun k hO=>?_⟩,?_⟩
  · rw [e3] at hk
    split at hk
    · rename_i hd;rw[hrD _ _ hd];exact H'.fresh k hk y
    · rename_i hd;rw[hrN _ _ hd];exact H.fresh k hk y
  · rcases hg3 hk with ⟨hd, hk⟩ | ⟨hd, hk⟩
    · rw[hrD _ _ hd];exact H'.later k x hk y hlt
    · rw[hrN _ _ hd];exact H.later k x hk y hlt
  · rcases hg3 hk with ⟨hd, hk⟩ | ⟨hd, hk⟩
    · exact NoRefB.rel (c:=c') (c':=c2) (n2 k x hk) (fun _ h=>h) (fun g=>hrD k g hd) (fun cb g base hp hne hgen hO=> .inl hO) (H'.blk k x hk)
    · refine BRel.mono (E2.ext H.disj) (fun cb base hne hp => ?_) (H.blk k x hk)
      have hl:Live h k x.gen:=⟨x,hk,rfl,hne⟩
      have hO:=H.owned hl hp
      have hn:=hout hd hl hp
      exact⟨.inr ⟨hO,hn⟩,E.keep cb (H.inO cb hO) hn⟩
  · rcases hl3 l1 with ⟨d1, l1⟩ | ⟨d1, l1⟩
    · rw [hrD _ _ d1] at p1
      rcases hl3 l2 with⟨d2,l2⟩|⟨d2,l2⟩
      · rw [hrD _ _ d2] at p2
        exact H'.inj _ _ _ _ _ _ _ l1 l2 p1 p2
      grind
    · rw [hrN _ _ d1] at p1
      rcases hl3 l2 with⟨d2,l2⟩|⟨d2,l2⟩
      · grind
      · rw [hrN _ _ d2] at p2
        exact H.inj _ _ _ _ _ _ _ l1 l2 p1 p2
  · rcases hO with hO | ⟨hO, hn⟩
    · exact H'.disj k hF hO
    · rcases E.frzNew k hF with h | h | h
      · exact H.disj k h hO
      · exact hn h
      · have:=H.inO k hO;omega
  · rcases hO with hO | ⟨hO, _⟩
    · exact H'.inO k hO
    · exact Nat.lt_of_lt_of_le (H.inO k hO) E.size
  · have h5 : VRels c' w' [v] [cv] := by simp only [VRels]; simp_all
    have h6:=hv _ c' c2 w' [cv] (fun b g hb=>hrD b g hb) (fun _ h=>h) h5
    simp_all [VRels]
theorem Qef {b:Nat} {x:Blk} (hb:b<1099511627775) (k:Nat):(hp [(b,x)]).get k=if k=b then some x else none:=by
 simp only[hp]
 by_cases e:k=b
 ·subst e;rw[Qa6 hb,if_pos rfl]
 simp_all [Qa1,get_e]
theorem HSpec.frameM {f b g g':Nat} {args:List AV} {xs ys:List (AV×AV)} {v:AV} {h:Heap} (hs:HSpec P f args (hp [(b,.map g xs)]) v (hp [(b,.map g' ys)])) (ha:OnlyD (fun k=>k=b) args) (hv:OnlyD (fun k=>k=b) [v]) (hx:∀e∈xs,noRef e.1=true/\noRef e.2=true) (hy:∀e∈ys,noRef e.1=true/\noRef e.2=true)
  (hb:h.get b=some (.map g xs)) (hlim:Nat.blt b 1099511627775=true):HSpec P f args h v (h.set b (.map g' ys)):=by
 have hlim':b<1099511627775:=by simp_all
 refine HSpec.frame (fun k=>k=b) hs ha hv (fun k=>?_) (fun k hk=>?_) (fun k=>?_) (fun k x hk=>?_) (fun k x hk=>?_)
 ·rw [Qef hlim']
  simp_all
 ·simp_all [Qef]
 ·rw [Qef hlim']
  by_cases e:k=b
  ·subst e;rw[if_pos rfl,if_pos rfl,Qa6 hlim']
  simp_all [Qa1]
 ·rw [Qef hlim'] at hk
  split at hk
  ·cases hk;exact hx
  ·cases hk
 ·rw [Qef hlim'] at hk
  split at hk
  ·cases hk;exact hy
  ·cases hk
end Go.AM
namespace Go.AM
section
variable {m:Nat} {π:Nat->Option Src} {h:Heap}
theorem Rn.frzM {b g:Nat} {es:List (AV×AV)} {ks vs:List AV} (hb:h.get b=some (.map g es)) (hm:m<=b) (hn:∀b' g',m<=b'->π b'≠some (.blk b g')) (hk:RnL m π h ks (es.map (·.1))) (hv:RnL m π h vs (es.map (·.2))):
  Rn m π h (.fmap ks vs) (.map b g):=fun _ c w v H M hx=>by
 simp only[VRel]at hx
 obtain⟨cb,hp,rfl⟩:=hx
 obtain⟨ms,clock,hO,hC,hR,hcl⟩:=H.atMap hb hp
 have hout:=M.out H ⟨_,hb,rfl,fun k=>by simp⟩ hp hm hn
 obtain⟨g1,g2,g3⟩:=QkN hR
 have hl:=QbM hR
 simp only[VRel]
 exact⟨cb,ms,clock,rfl,.inr ⟨hO,hout⟩,hC,by simp_all,g1,hk.rels H M g2,hv.rels H M g3⟩
end
end Go.AM
namespace Go.AM
variable {P:Program}
def mapS (f:List UInt8->AV) (l:List (List UInt8)):List (AV×AV):=l.map fun x=>(.str x,f x)
def updS (f:List UInt8->AV) (x:List UInt8) (v:AV):List UInt8->AV:=fun y=>if y=x then v else f y
theorem QdW {x y:List UInt8}:keyEq false [.s] (.str x) (.str y)=some (decide (x=y)):=by
 simp_all [keyEq,eqCells,eqCell]
theorem Qiv {f:List UInt8->AV} {x:List UInt8}:∀(l:List (List UInt8)) (i:Nat),x∈l->aFind false [.s] (.str x) (mapS f l) i=some (some (i+l.findIdx (· ==x),f x))
 | y :: l, i, hx => by
  show(match keyEq false [.s] (.str x) (.str y)with|some true=>_|some false=>_|none=>_)=_
  rw[QdW,List.findIdx_cons]
  by_cases e:x=y
  ·subst e;simp
  ·have h2 : (y == x) = false := by grind
   rw[decide_eq_false e,h2]
   show aFind false [.s] (.str x) (mapS f l) (i+1)=_
   rw[Qiv l (i+1) ((List.mem_cons.1 hx).resolve_left e)]
   grind
theorem QeA {f:List UInt8->AV} {x:List UInt8}:∀(l:List (List UInt8)) (i:Nat),x∉l->aFind false [.s] (.str x) (mapS f l) i=some none
 |[],_,_=>rfl
 |y::l,i,hx=>by
  simp only[List.mem_cons,not_or]at hx
  show(match keyEq false [.s] (.str x) (.str y)with|some true=>_|some false=>_|none=>_)=_
  rw[QdW,decide_eq_false hx.1]
  exact QeA l (i+1) hx.2
theorem QnY {f:List UInt8->AV} {x:List UInt8} {v:AV} {l:List (List UInt8)} (hx:x∉l):mapS f l++[(.str x,v)]=mapS (updS f x v) (l++[x]):=by
 grind [mapS,updS,List.map_congr_left]
theorem Qfj {x:List UInt8}:keyOK false [.s] (.str x)=true:=by unfold keyOK;rw[QdW]
section
variable {N:NM} {d:Option Nat} {r:List SOper} {dead:List Nat} {fs:List Fr} {n:Nat} {T:Tmps} {h:Heap} {Q:QC}
theorem Qf9 {f:List UInt8->AV} {x:List UInt8} {l:List (List UInt8)} {b g:Nat} {z:AV} {ok:Bool} (hb:h.get b=some (.map g (mapS f l))) (hx:x∈l)
  (hk:wR P N r dead fs (n+1) (putD T d (if ok then .tup [f x,.bool true]else f x)) h Q):wM P N (aLookup false [.s] z ok (.map b g) (.str x)) d r dead fs n T h Q:=by
 refine⟨_,h,?_,hk⟩
 simp_all [aLookup,Qfj,HM.entries,HM.run,Qiv]
theorem Qfk {f:List UInt8->AV} {x:List UInt8} {l:List (List UInt8)} {b g:Nat} {z:AV} {ok:Bool} (hb:h.get b=some (.map g (mapS f l))) (hx:x∉l)
  (hk:wR P N r dead fs (n+1) (putD T d (if ok then .tup [z,.bool false]else z)) h Q):wM P N (aLookup false [.s] z ok (.map b g) (.str x)) d r dead fs n T h Q:=by
 refine⟨_,h,?_,hk⟩
 simp_all [aLookup,Qfj,HM.entries,HM.run,QeA]
theorem QdN {f:List UInt8->AV} {x:List UInt8} {l:List (List UInt8)} {b g:Nat} {v:AV} (hb:h.get b=some (.map g (mapS f l))) (hx:x∉l) (hl:b<1099511627775)
  (hk:wR P N r dead fs (n+1) (putD T d .any) (h.set b (.map g (mapS (updS f x v) (l++[x])))) Q):wM P N (aMapUpd false [.s] (.map b g) (.str x) v) d r dead fs n T h Q:=by
 refine⟨_,_,?_,hk⟩
 have hg:Nat.beq g g=true:=by simp
 have hl':Nat.blt b lim=true:=by simp[Nat.blt];exact hl
 unfold aMapUpd
 rw[if_pos Qfj]
 simp only[HM.entries,HM.run,hb,hg,cond_true,QeA l 0 hx,hl',QnY hx]
end
theorem RnM.mapS {m:Nat} {π:Nat->Option Src} {h:Heap} {f g:List UInt8->AV}:∀{l:List (List UInt8)},(∀x∈l,Rn m π h (f x) (g x))->RnM m π h (mapS f l) (mapS g l)
 |[],_=>trivial
 |x::l,hf=>⟨⟨Rn.same rfl,hf x (by simp)⟩,RnM.mapS (l:=l) fun y hy=>hf y (by simp[hy])⟩
end Go.AM
set_option linter.unusedSectionVars false
namespace Go.AM
variable {P:Program} {α:Type} [DecidableEq α]
def mapG (c:α->AV) (f:α->AV) (l:List α):List (AV×AV):=l.map fun x=>(c x,f x)
def updG (f:α->AV) (x:α) (v:AV):α->AV:=fun y=>if y=x then v else f y
def KeyG (row:Bool) (ks:List LK) (c:α->AV) (x:α) (l:List α):Prop:=keyOK row ks (c x)=true/\∀y∈l,keyEq row ks (c x) (c y)=some (decide (x=y))
theorem Qfl {row:Bool} {ks:List LK} {c f:α->AV} {x:α}:∀(l:List α) (i:Nat),KeyG row ks c x l->x∈l->aFind row ks (c x) (mapG c f l) i=some (some (i+l.findIdx (· ==x),f x))
 | y :: l, i, hk, hx => by
  show(match keyEq row ks (c x) (c y)with|some true=>_|some false=>_|none=>_)=_
  rw[hk.2 y (by simp),List.findIdx_cons]
  by_cases e:x=y
  ·subst e;simp
  ·have h2 : (y == x) = false := by grind
   rw[decide_eq_false e,h2]
   show aFind row ks (c x) (mapG c f l) (i+1)=_
   rw[Qfl l (i+1) ⟨hk.1,fun y hy=>hk.2 y (by simp[hy])⟩ ((List.mem_cons.1 hx).resolve_left e)]
   grind
theorem Qdm {row:Bool} {ks:List LK} {c f:α->AV} {x:α}:∀(l:List α) (i:Nat),KeyG row ks c x l->x∉l->aFind row ks (c x) (mapG c f l) i=some none
 |[],_,_,_=>rfl
 |y::l,i,hk,hx=>by
  simp only[List.mem_cons,not_or]at hx
  show(match keyEq row ks (c x) (c y)with|some true=>_|some false=>_|none=>_)=_
  rw[hk.2 y (by simp),decide_eq_false hx.1]
  exact Qdm l (i+1) ⟨hk.1,fun y hy=>hk.2 y (by simp[hy])⟩ hx.2
theorem QnZ {c f:α->AV} {x:α} {v:AV} {l:List α} (hx:x∉l):mapG c f l++[(c x,v)]=mapG c (updG f x v) (l++[x]):=by
 grind [mapG,updG,List.map_congr_left]
theorem Qhd {c f g:α->AV} {l:List α} (h:∀x∈l,f x=g x):mapG c f l=mapG c g l:=List.map_congr_left fun x hx=>by rw[h x hx]
abbrev fmapG (c f:α->AV) (l:List α):AV:= .fmap (l.map c) (l.map f)
theorem QjT {c f:α->AV} (l:List α):(l.map c).zip (l.map f)=mapG c f l:=by
 induction l with
 |nil=>rfl
 |cons x l ih=>simp only[List.map_cons,List.zip_cons_cons,ih];rfl
section
variable {N:NM} {d:Option Nat} {r:List SOper} {dead:List Nat} {fs:List Fr} {n:Nat} {T:Tmps} {h:Heap} {Q:QC} {row:Bool} {ks:List LK} {c f:α->AV} {x:α} {l:List α} {b g:Nat} {z v:AV} {ok:Bool}
theorem Qga (hb:h.get b=some (.map g (mapG c f l))) (hq:KeyG row ks c x l) (hx:x∈l)
  (hk:wR P N r dead fs (n+1) (putD T d (if ok then .tup [f x,.bool true]else f x)) h Q):wM P N (aLookup row ks z ok (.map b g) (c x)) d r dead fs n T h Q:=by
 refine⟨_,h,?_,hk⟩
 have hg:Nat.beq g g=true:=by simp
 unfold aLookup
 rw[if_pos hq.1]
 simp_all [HM.entries,HM.run,Qfl]
theorem QcI (hb:h.get b=some (.map g (mapG c f l))) (hq:KeyG row ks c x l) (hx:x∉l)
  (hk:wR P N r dead fs (n+1) (putD T d (if ok then .tup [z,.bool false]else z)) h Q):wM P N (aLookup row ks z ok (.map b g) (c x)) d r dead fs n T h Q:=by
 refine⟨_,h,?_,hk⟩
 have hg:Nat.beq g g=true:=by simp
 unfold aLookup
 rw[if_pos hq.1]
 simp_all [HM.entries,HM.run,Qdm]
theorem QdO (hq:KeyG row ks c x l) (hx:x∈l) (hk:wR P N r dead fs (n+1) (putD T d (if ok then .tup [f x,.bool true]else f x)) h Q):wM P N (aLookup row ks z ok (fmapG c f l) (c x)) d r dead fs n T h Q:=by
 refine⟨_,h,?_,hk⟩
 unfold aLookup
 rw[if_pos hq.1]
 simp only[fmapG]
 rw[QjT,Qfl l 0 hq hx];rfl
theorem QiV (hq:KeyG row ks c x l) (hx:x∉l) (hk:wR P N r dead fs (n+1) (putD T d (if ok then .tup [z,.bool false]else z)) h Q):wM P N (aLookup row ks z ok (fmapG c f l) (c x)) d r dead fs n T h Q:=by
 refine⟨_,h,?_,hk⟩
 unfold aLookup
 rw[if_pos hq.1]
 simp only[fmapG]
 rw[QjT,Qdm l 0 hq hx];rfl
theorem Qca (hb:h.get b=some (.map g (mapG c f l))) (hq:KeyG row ks c x l) (hx:x∉l) (hl:b<1099511627775)
  (hk:wR P N r dead fs (n+1) (putD T d .any) (h.set b (.map g (mapG c (updG f x v) (l++[x])))) Q):wM P N (aMapUpd row ks (.map b g) (c x) v) d r dead fs n T h Q:=by
 refine⟨_,_,?_,hk⟩
 have hg:Nat.beq g g=true:=by simp
 have hl':Nat.blt b lim=true:=by simp[Nat.blt];exact hl
 unfold aMapUpd
 rw[if_pos hq.1]
 simp only[HM.entries,HM.run,hb,hg,cond_true,Qdm l 0 hq hx,hl',QnZ hx]
end
theorem RnM.mapG {m:Nat} {π:Nat->Option Src} {h:Heap} {c f:α->AV}:∀{l:List α},(∀x∈l,noRef (c x)=true/\noRef (f x)=true)->RnM m π h (mapG c f l) (mapG c f l)
 |[],_=>trivial
 |x::l,hf=>⟨⟨Rn.same (hf x (by simp)).1,Rn.same (hf x (by simp)).2⟩,RnM.mapG (l:=l) fun y hy=>hf y (by simp[hy])⟩
abbrev kP (x:Nat×Nat):AV:= .agg [.int .i64 (x.1:Int),.int .i64 (x.2:Int)]
theorem QjU {x:Nat×Nat} {l:List (Nat×Nat)}:KeyG true [.i,.i] kP x l:=by
 have key:∀y:Nat×Nat,keyEq true [.i,.i] (kP x) (kP y)=some (decide (x=y)):=by
  intro y
  obtain⟨a,b⟩:=x
  obtain⟨c,d⟩:=y
  simp only[keyEq,eqCells,eqCell,Prod.mk.injEq]
  by_cases e1:a=c<;>by_cases e2:b=d<;>simp[e1,e2]<;>omega
 refine⟨?_,fun y _=>key y⟩
 simp_all [keyOK]
end Go.AM
namespace Go.AM
theorem Rn.fzM {α:Type} {m:Nat} {h:Heap} {ps:List (Nat×Src)} {b g:Nat} {c f:α->AV} {l:List α} (hb:h.get b=some (.map g (mapG c f l))) (hn:srcNew (.blk b g) ps=true) (hm:Nat.ble m b=true) (hk:∀x∈l,noRef (c x)=true/\noRef (f x)=true):Rn m (ow m ps) h (fmapG c f l) (.map b g):=by
  refine Rn.frzM hb (by simpa using hm) (fun b' g' hb' e=>?_) ?_ ?_
  · rw[ow_ge hb']at e;exact QhE hn b' _ e rfl
  · have e : (mapG c f l).map (·.1) = l.map c := by simp [mapG]
    rw[e]
    clear hb e
    induction l with
    |nil=>trivial
    |cons x l ih=>exact⟨Rn.same (hk x (by simp)).1,ih fun y hy=>hk y (by simp[hy])⟩
  · have e : (mapG c f l).map (·.2) = l.map f := by simp [mapG]
    rw[e]
    clear hb e
    induction l with
    |nil=>trivial
    |cons x l ih=>exact⟨Rn.same (hk x (by simp)).2,ih fun y hy=>hk y (by simp[hy])⟩
end Go.AM
namespace Go.AM.SO
open Go.Proofs
set_option maxHeartbeats 4000000
noncomputable section
def cf:YA.Cf:={most:= .pure,always:=[83].map fun k=>(k,.heap),value:= .pure}
def s21:SFn:=by
 refine(?f:YA.Yt Tryz.prog cf 21 [[0,2],[15,16,17],[18],[1,3,19,20],[2,3,19,21,22,23],[25,26],[1,4,24],[4,24,28,29,30,31,32,33,34,35,36,37],[1,27],[2,27,38],[],[39,40],[],[43,44],[8,45,46,47,48],[49],[41,42,50],[],[54,55,56],[57,58,59,60,61,62,63],[64],[1,5,6,7,51,52,53,10,11,65,66],[2,10,11,65,67,68,69,70,71],[72],[6,51,52,53,73],[],[77,78,79],[13,80,81,82,83,84,85,86],[87],[1,5,7,74,75,76,14,88,89],[2,14,88,90],[1,5,7,74,75,76,91,92,93]]) ?s ?h
 case h=>exact YA.rr
 exact fun s _=>s
def s36:SFn:=by
 refine(?f:YA.Yt Tryz.prog cf 36 [[4],[0,1,5,6,7,8]]) ?s ?h
 case h=>exact YA.rr
 exact fun s _=>s
def s60:SFn:=by
 refine(?f:YA.Yt Tryz.prog cf 60 [[0,2],[1,3,4,5,6,7,8,9,10,11]]) ?s ?h
 case h=>exact YA.rr
 exact fun s _=>s
def s82:SFn:=by
 refine(?f:YA.Yt Tryz.prog cf 82 [[2],[6,7],[0,8],[2,8,9],[0],[],[13,14,15],[17,18,19,20],[3,10,11,12,45,42,44,43,41,40,33,32,31,5,16],[16,22,23,24,25],[3,10,11,12,45,42,44,43,41,40,33,32,31,5,21],[21,27,28,29,30,34],[3,10,11,12,45,42,44,43,41,40,33,32,31,5,26],[26,36,37,38,39,46],[3,10,11,12,45,42,44,43,41,40,33,32,31,5,35],[2,5,35,47,48,49],[50],[3,10,11,12,45,42,44,43,41,40,33,32,31]]) ?s ?h
 case h=>exact YA.rr
 exact fun s _=>s
def s84:SFn:=by
 refine(?f:YA.Yt Tryz.prog cf 84 [[4],[0,1,5,6,7]]) ?s ?h
 case h=>exact YA.rr
 exact fun s _=>s
def s85:SFn:=by
 refine(?f:YA.Yt Tryz.prog cf 85 [[0],[10],[11],[],[15,16,17],[5,18,19,20,21,22,23,24,25],[26],[12,13,14,27],[],[31,32,33],[7,34,35,36,37,38,39,40,41,42,43,44],[45],[1,28,29,30,46],[],[50,51,52],[9,53,54,55,56,57,58,59,60,61,62,63,64,65],[66],[3,47,48,49,67]]) ?s ?h
 case h=>exact YA.rr
 exact fun s _=>s
def s103:SFn:=by
 refine(?f:YA.Yt Tryz.prog cf 103 [[0,1,4],[7,8,9],[2,3,10],[4,10,11],[],[15,16,17,18],[20,21,22,23,30],[2,3,12,13,14,59,52,58,57,54,56,55,53,51,44,36,43,42,41,38,40,39,37,35,29,25,28,27,26,24,6,5,19],[5,19,32,33,34,45],[2,3,12,13,14,59,52,58,57,54,56,55,53,51,44,36,43,42,41,38,40,39,37,35,29,25,28,27,26,24,6,31],[6,31,47,48,49,50,60],[2,3,12,13,14,59,52,58,57,54,56,55,53,51,44,36,43,42,41,38,40,39,37,35,29,25,28,27,26,24,46],[4,46,61],[2,3,12,13,14,59,52,58,57,54,56,55,53,51,44,36,43,42,41,38,40,39,37,35,29,25,28,27,26,24]]) ?s ?h
 case h=>exact YA.rr
 exact fun s _=>s
def s105:SFn:=by
 refine(?f:YA.Yt Tryz.prog cf 105 [[0,1,4],[7,8,9],[2,3,10],[4,10,11],[],[15,16,17,18],[20,21,22,23,30],[2,3,12,13,14,53,52,51,44,36,43,42,41,38,40,39,37,35,29,25,28,27,26,24,6,5,19],[5,19,32,33,34,45],[2,3,12,13,14,53,52,51,44,36,43,42,41,38,40,39,37,35,29,25,28,27,26,24,6,31],[6,31,47,48,49,50,54],[2,3,12,13,14,53,52,51,44,36,43,42,41,38,40,39,37,35,29,25,28,27,26,24,46],[4,46,55],[2,3,12,13,14,53,52,51,44,36,43,42,41,38,40,39,37,35,29,25,28,27,26,24,56,57],[58],[58]]) ?s ?h
 case h=>exact YA.rr
 exact fun s _=>s
def s110:SFn:=by
 refine(?f:YA.Yt Tryz.prog cf 110 [[4],[6],[],[9,10],[11,12,13,14,15],[0,1,7,8,5,16,17],[4,5,16,18],[0,1,7,8]]) ?s ?h
 case h=>exact YA.rr
 exact fun s _=>s
def s148:SFn:=by
 refine(?f:YA.Yt Tryz.prog cf 148 [[2],[3],[0,4],[0,4,5,6,7]]) ?s ?h
 case h=>exact YA.rr
 exact fun s _=>s
def s149:SFn:=by
 refine(?f:YA.Yt Tryz.prog cf 149 [[2],[3],[0,4],[0,4,5,6,7]]) ?s ?h
 case h=>exact YA.rr
 exact fun s _=>s
def s166:SFn:=by
 refine(?f:YA.Yt Tryz.prog cf 166 [[3],[0,1,4,5,6]]) ?s ?h
 case h=>exact YA.rr
 exact fun s _=>s
def s167:SFn:=by
 refine(?f:YA.Yt Tryz.prog cf 167 [[4],[0,1,5,6,7,8,9]]) ?s ?h
 case h=>exact YA.rr
 exact fun s _=>s
def s168:SFn:=by
 refine(?f:YA.Yt Tryz.prog cf 168 [[6],[],[11,12,13,14],[18,19,20,21,22,35],[36,37,38,39,52],[],[],[53,54,55,56,57,58],[53],[59,60,61,62,63,64],[8,9,59,65,66,67],[10,68,69,70,71,72],[0,1,2,7,51,43,50,46,49,48,47,45,44,42,41,40,34,26,33,29,32,31,30,28,27,25,24,23,17,16,15,73]]) ?s ?h
 case h=>exact YA.rr
 exact fun s _=>s
def s169:SFn:=by
 refine(?f:YA.Yt Tryz.prog cf 169 [[4],[0,1,5,6,7,8]]) ?s ?h
 case h=>exact YA.rr
 exact fun s _=>s
def s190:SFn:=by
 refine(?f:YA.Yt Tryz.prog cf 190 [[2],[0,3,4,5,6,7,8]]) ?s ?h
 case h=>exact YA.rr
 exact fun s _=>s
def s219:SFn:=by
 refine(?f:YA.Yt Tryz.prog cf 219 [[4],[0,1,5,6,7]]) ?s ?h
 case h=>exact YA.rr
 exact fun s _=>s
def s242:SFn:=by
 refine(?f:YA.Yt Tryz.prog cf 242 [[4],[0,1,5,6,7,8,9]]) ?s ?h
 case h=>exact YA.rr
 exact fun s _=>s
theorem ok21:okFn Tryz.prog 21 s21=true:=by kernel_rfl
theorem ok36:okFn Tryz.prog 36 s36=true:=by kernel_rfl
theorem ok60:okFn Tryz.prog 60 s60=true:=by kernel_rfl
theorem ok82:okFn Tryz.prog 82 s82=true:=by kernel_rfl
theorem ok84:okFn Tryz.prog 84 s84=true:=by kernel_rfl
theorem ok85:okFn Tryz.prog 85 s85=true:=by kernel_rfl
theorem ok103:okFn Tryz.prog 103 s103=true:=by kernel_rfl
theorem ok105:okFn Tryz.prog 105 s105=true:=by kernel_rfl
theorem ok110:okFn Tryz.prog 110 s110=true:=by kernel_rfl
theorem ok148:okFn Tryz.prog 148 s148=true:=by kernel_rfl
theorem ok149:okFn Tryz.prog 149 s149=true:=by kernel_rfl
theorem ok166:okFn Tryz.prog 166 s166=true:=by kernel_rfl
theorem ok167:okFn Tryz.prog 167 s167=true:=by kernel_rfl
theorem ok168:okFn Tryz.prog 168 s168=true:=by kernel_rfl
theorem ok169:okFn Tryz.prog 169 s169=true:=by kernel_rfl
theorem ok190:okFn Tryz.prog 190 s190=true:=by kernel_rfl
theorem ok219:okFn Tryz.prog 219 s219=true:=by kernel_rfl
theorem ok242:okFn Tryz.prog 242 s242=true:=by kernel_rfl
end
end Go.AM.SO
namespace Go.AM.SD
abbrev Ed:=Nat×Nat×Nat
def o0 (n:Nat) (mk:List Nat) (left:Nat->Bool):List Int:=(List.range n).map fun i=>if left i&&mk.contains i then 0 else-1
end Go.AM.SD
namespace Go.AM.SD
def preds (es:List Ed) (v:Nat):List Nat:=(es.filter fun e=>e.2.2==v).map (·.1)
end Go.AM.SD
namespace Go.AM.SD
def bad (left:Nat->Bool) (unc:List Nat) (e:Ed):Bool:=left e.1&& !left e.2.2&&unc.contains e.2.1
structure Rm where
 st:Nat
 rank:Int
 reason:Nat
 ev:Int
deriving DecidableEq
end Go.AM.SD
namespace Go.AM.SD
abbrev LB:=List Bool
end Go.AM.SD
namespace Go.AM.SD
structure Aut where
 al:List Nat
 n:Nat
 ms:List Nat
 es:List Ed
structure WfA (a:Aut):Prop where
 al:a.al.Pairwise (· < ·)
 al5:∀x∈a.al,x<32
 n5:a.n<=4096
 ms:a.ms.Pairwise (· < ·)
 msn:∀x∈a.ms,x<a.n
 es:a.es.Pairwise fun x y=>x.1<y.1\/(x.1=y.1/\x.2.1<y.2.1)
 esn:∀e∈a.es,e.1<a.n/\e.2.2<a.n
 ev:∀e∈a.es,e.2.1∈a.al
theorem WfA.nd {a:Aut} (h:WfA a):a.ms.Nodup:=by
 rw[List.nodup_iff_pairwise_ne];exact h.ms.imp fun h=>by omega
theorem WfA.srt {a:Aut} (h:WfA a):a.es.Pairwise fun x y=>x.1<=y.1:=h.es.imp fun h=>by omega
def stepA (es:List Ed) (s ev:Nat):Option Nat:=(es.find? fun e=>e.1==s&&e.2.1==ev).map (·.2.2)
def idx (l:List Nat) (x:Nat):Nat:=l.findIdx (· ==x)
theorem Qn0 {n:Nat} {es:List Ed} (hn:∀e∈es,e.1<n/\e.2.2<n) {s ev to:Nat} (h:stepA es s ev=some to):to<n:=by
 unfold stepA at h
 cases hf:es.find? fun e=>e.1==s&&e.2.1==ev with
 |none=>rw[hf]at h;cases h
 |some e=>rw[hf]at h;cases h;exact(hn e (List.mem_of_find?_eq_some hf)).2
structure FI (n:Nat) (out:List Nat):Prop where
 nd:out.Nodup
 lt:∀x∈out,x<n
theorem Qbk:∀(n:Nat) (l:List Nat),l.Nodup->(∀x∈l,x<n)->l.length<=n
 |0,l,_,h=>by
  cases l with
  |nil=>exact Nat.le_refl _
  |cons x l=>have:=h x (by simp);omega
 | n + 1, l, hn, h => by
  by_cases hm:n∈l
  ·have h1 := Qbk n (l.erase n) (hn.erase n) fun x hx => by
    grind
   simp_all
  ·have := Qbk n l hn fun x hx => by
    grind
   omega
theorem FI.len {n:Nat} {out:List Nat} (h:FI n out):out.length<=n:=Qbk n out h.nd h.lt
theorem Qpg {l:List Nat} {x:Nat} (h:x∈l):idx l x<l.length:=List.findIdx_lt_length_of_exists ⟨x,h,by simp⟩
theorem pairwise_flatMap {l:List Nat} {f:Nat->List Ed} {R:Ed->Ed->Prop} (h1:∀i∈l,(f i).Pairwise R) (h2:l.Pairwise fun i j=>∀x∈f i,∀y∈f j,R x y):(l.flatMap f).Pairwise R:=by
 grind
end Go.AM.SD
namespace Go.AM.SD
abbrev OE:=List Nat×List Ed
def sEd (i:Nat) (s:OE) (e:Ed):OE:=if s.1.contains e.2.2 then(s.1,s.2++[(i,e.2.1,idx s.1 e.2.2)])else(s.1++[e.2.2],s.2++[(i,e.2.1,s.1.length)])
def sOut (es:List Ed) (left:Nat->Bool) (v:Nat):List Ed:=es.filter fun e=>e.1==v&&left e.2.2
def sRow (es:List Ed) (left:Nat->Bool) (i v:Nat) (s:OE):OE:=(sOut es left v).foldl (sEd i) s
def sQ (es:List Ed) (left:Nat->Bool):Nat->Nat->OE->OE
 |0,_,s=>s
 |k+1,i,s=>match s.1[i]? with|some v=>sQ es left k (i+1) (sRow es left i v s)|none=>s
def sAll (a:Aut) (left:Nat->Bool):OE:=sQ a.es left (a.n+1) 0 (if decide (0<a.n)&&left 0 then[0]else[],[])
def restr (a:Aut) (left:Nat->Bool):Aut:=⟨a.al,(sAll a left).1.length,(List.range (sAll a left).1.length).filter fun i=>a.ms.contains ((sAll a left).1.getD i 0),(sAll a left).2⟩
theorem Qfw {l t:List Nat} {x:Nat} (h:x∈l):idx (l++t) x=idx l x:=by
 simp_all [idx,List.findIdx_append]
theorem Qfx {l:List Nat} {x:Nat} (h:x∉l):idx (l++[x]) x=l.length:=by
 grind [idx]
def num (o:List Nat) (i:Nat) (e:Ed):Ed:=(i,e.2.1,idx o e.2.2)
theorem QeB {n : Nat} {left : Nat -> Bool} (i : Nat) : ∀ (es2 : List Ed) (s : OE), (∀ e ∈ es2, e.2.2 < n /\ left e.2.2 = true) -> FI n s.1 -> (∀ x ∈ s.1, left x = true) ->
    FI n (es2.foldl (sEd i) s).1/\(∀x∈(es2.foldl (sEd i) s).1,left x=true)/\(∃t,(es2.foldl (sEd i) s).1=s.1++t)/\(∀e∈es2,e.2.2∈(es2.foldl (sEd i) s).1)/\(es2.foldl (sEd i) s).2=s.2++es2.map (num (es2.foldl (sEd i) s).1 i):=by
  intro es2
  induction es2 with
  |nil=>intro s _ h hl;exact⟨h,hl,⟨[],by simp⟩,(fun e he=>by cases he),by simp⟩
  | cons e es2 ih =>
    intro s hes h hl
    rw[List.foldl_cons]
    obtain⟨he1,he2⟩:=hes e (by simp)
    by_cases hc:s.1.contains e.2.2=true
    · have e1 : sEd i s e = (s.1, s.2 ++ [(i, e.2.1, idx s.1 e.2.2)]) := if_pos hc
      have hm:e.2.2∈s.1:=by simpa using hc
      rw[e1]
      obtain⟨k1,k2,⟨t,k3⟩,k4,k5⟩:=ih (s.1,s.2++[(i,e.2.1,idx s.1 e.2.2)]) (fun x hx=>hes x (by simp[hx])) h hl
      refine⟨k1,k2,⟨t,k3⟩,fun x hx=>?_,?_⟩
      · grind
      grind [num,Qfw]
    · have e1 : sEd i s e = (s.1 ++ [e.2.2], s.2 ++ [(i, e.2.1, s.1.length)]) := if_neg hc
      have hm:e.2.2∉s.1:=by simpa using hc
      rw[e1]
      obtain⟨k1,k2,⟨t,k3⟩,k4,k5⟩:=ih (s.1++[e.2.2],s.2++[(i,e.2.1,s.1.length)]) (fun x hx=>hes x (by simp[hx]))
        ⟨by
          rw[List.nodup_append]
          refine⟨h.nd,by simp,fun a ha b hb e=>?_⟩
          simp_all,fun x hx=>by
          rcases List.mem_append.1 hx with hx|hx
          · exact h.lt x hx
          simp_all⟩
        (fun x hx=>by
          grind)
      have k3:(es2.foldl (sEd i) (s.1++[e.2.2],s.2++[(i,e.2.1,s.1.length)])).1=(s.1++[e.2.2])++t:=k3
      refine⟨k1,k2,⟨[e.2.2]++t,by simp_all⟩,fun x hx=>?_,?_⟩
      · grind
      grind [num,Qfw,Qfx]
structure SI (n:Nat) (es:List Ed) (left:Nat->Bool) (i:Nat) (s:OE):Prop where
 fi:FI n s.1
 lft:∀x∈s.1,left x=true
 le:i<=s.1.length
 cl:∀j v,j<i->s.1[j]?=some v->∀e∈sOut es left v,e.2.2∈s.1
 ed:s.2=(List.range i).flatMap fun j=>(sOut es left (s.1.getD j 0)).map (num s.1 j)
theorem Qby {es:List Ed} {left:Nat->Bool} {v:Nat} {e:Ed}:e∈sOut es left v↔e∈es/\e.1=v/\left e.2.2=true:=by
 simp_all [sOut]
theorem SI.step {n : Nat} {es : List Ed} {left : Nat -> Bool} (hn : ∀ e ∈ es, e.1 < n /\ e.2.2 < n) {i v : Nat} {s : OE} (h : SI n es left i s) (hv : s.1[i]? = some v) : SI n es left (i + 1) (sRow es left i v s) := by
  obtain⟨k1,k2,⟨t,k3⟩,k4,k5⟩:=QeB i (sOut es left v) s (fun e he=>⟨(hn e (Qby.1 he).1).2,(Qby.1 he).2.2⟩) h.fi h.lft
  have hil:i<s.1.length:=(List.getElem?_eq_some_iff.1 hv).1
  have k3:(sRow es left i v s).1=s.1++t:=k3
  have hget:∀j,j<s.1.length->(sRow es left i v s).1.getD j 0=s.1.getD j 0:=fun j hj=>by
    grind
  refine⟨k1,k2,by grind,fun j u hj hu e he=>?_,?_⟩
  · rw [k3, List.getElem?_append_left (by omega)] at hu
    by_cases hji:j<i
    · rw[k3];exact List.mem_append_left _ (h.cl j u hji hu e he)
    grind
  · show (sRow es left i v s).2 = _
    have k5:(sRow es left i v s).2=s.2++(sOut es left v).map (num (sRow es left i v s).1 i):=k5
    rw[k5,h.ed,List.range_succ,List.flatMap_append]
    congr 1
    · have : ∀ j ∈ List.range i, (sOut es left (s.1.getD j 0)).map (num s.1 j) = (sOut es left ((sRow es left i v s).1.getD j 0)).map (num (sRow es left i v s).1 j) := fun j hj => by
        have hj:=List.mem_range.1 hj
        rw[hget j (by omega)]
        have hjg:s.1[j]?=some (s.1.getD j 0):=by
          grind
        refine List.map_congr_left fun e he=>?_
        unfold num
        rw[k3,Qfw (h.cl j _ hj hjg e he)]
      grind [List.map_congr_left]
    simp_all
theorem sQ_ok {n:Nat} {es:List Ed} {left:Nat->Bool} (hn:∀e∈es,e.1<n/\e.2.2<n):∀(k i:Nat) (s:OE),SI n es left i s->n<k+i->SI n es left (sQ es left k i s).1.length (sQ es left k i s)/\∃t,(sQ es left k i s).1=s.1++t:=by
 intro k
 induction k with
 |zero=>intro i s h hk;have:=h.fi.len;have:=h.le;omega
 | succ k ih =>
  intro i s h hk
  unfold sQ
  cases hv:s.1[i]? with
  |some v=>
   obtain⟨h1,t,h2⟩:=ih (i+1) _ (h.step hn hv) (by omega)
   obtain⟨_,_,⟨t0,k3⟩,_,_⟩:=QeB i (sOut es left v) s (fun e he=>⟨(hn e (Qby.1 he).1).2,(Qby.1 he).2.2⟩) h.fi h.lft
   have k3:(sRow es left i v s).1=s.1++t0:=k3
   exact⟨h1,t0++t,by simp_all⟩
  |none=>
   have:s.1.length=i:=by have:=List.getElem?_eq_none_iff.1 hv;have:=h.le;omega
   dsimp only
   rw[this];exact⟨h,[],by simp⟩
theorem QoC {a:Aut} {left:Nat->Bool} (h:WfA a):SI a.n a.es left (sAll a left).1.length (sAll a left)/\∃t,(sAll a left).1=(if decide (0<a.n)&&left 0 then[0]else[])++t:=by
 refine sQ_ok h.esn (a.n+1) 0 _ ?_ (by omega)
 refine⟨?_,fun x hx=>?_,Nat.zero_le _,fun j v hj=>by omega,by simp⟩
 ·split
  ·rename_i hc
   simp only[Bool.and_eq_true,decide_eq_true_eq]at hc
   exact⟨by simp,fun x hx=>by simp_all⟩
  ·exact⟨by simp,fun x hx=>by cases hx⟩
 simp_all
theorem Qn1 {a:Aut} {left:Nat->Bool} (h:WfA a):WfA (restr a left):=by
 obtain⟨hs,_⟩:=QoC (left:=left) h
 have hmem:∀(j:Nat) (e:Ed),j<(sAll a left).1.length->e∈(sOut a.es left ((sAll a left).1.getD j 0)).map (num (sAll a left).1 j)->∃e'∈a.es,e'.1=(sAll a left).1.getD j 0/\e=(j,e'.2.1,idx (sAll a left).1 e'.2.2)/\e'.2.2∈(sAll a left).1:=by
  intro j e hj he
  obtain⟨e',he',rfl⟩:=List.mem_map.1 he
  have hjg:(sAll a left).1[j]?=some ((sAll a left).1.getD j 0):=by
   simp_all
  exact⟨e',(Qby.1 he').1,(Qby.1 he').2.1,rfl,hs.cl j _ hj hjg e' he'⟩
 refine⟨h.al,h.al5,Nat.le_trans hs.fi.len h.n5,List.pairwise_lt_range.filter _,fun x hx=>List.mem_range.1 (List.mem_filter.1 hx).1,?_,fun e he=>?_,fun e he=>?_⟩
 ·show (sAll a left).2.Pairwise _
  rw[hs.ed]
  refine pairwise_flatMap (fun j hj=>?_) (List.pairwise_lt_range.imp_of_mem fun{i j} hi hj hij x hx y hy=> .inl ?_)
  ·rw [List.pairwise_map]
   have:(sOut a.es left ((sAll a left).1.getD j 0)).Pairwise fun x y=>x.1<y.1\/(x.1=y.1/\x.2.1<y.2.1):=h.es.filter _
   refine this.imp_of_mem fun{x y} hx hy hxy=> .inr ⟨rfl,?_⟩
   have h1:=(Qby.1 hx).2.1
   have h2:=(Qby.1 hy).2.1
   show x.2.1<y.2.1
   omega
  grind
 ·have he : e ∈ (sAll a left).2 := he
  rw[hs.ed]at he
  obtain⟨j,hj,he⟩:=List.mem_flatMap.1 he
  obtain⟨e',_,_,e1,e2⟩:=hmem j e (List.mem_range.1 hj) he
  rw[e1];exact⟨List.mem_range.1 hj,Qpg e2⟩
 ·have he : e ∈ (sAll a left).2 := he
  rw[hs.ed]at he
  obtain⟨j,hj,he⟩:=List.mem_flatMap.1 he
  obtain⟨e',h3,_,e1,e2⟩:=hmem j e (List.mem_range.1 hj) he
  rw[e1];exact h.ev e' h3
end Go.AM.SD
