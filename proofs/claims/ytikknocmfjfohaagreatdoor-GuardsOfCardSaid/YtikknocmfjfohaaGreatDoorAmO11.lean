/- A part of the proof of GuardsOfCardSaid: lemmas on the way (AnBx, AnBa, AnBb, AnBc, AnRa, AnUa, AnUk, AnUf, AnCza, AnCs, AmTg, AnBd, AnBe, AnBf, AnBg, AmTh, AmTj, AmTk). Conditions: none of ours. -/
import Derived.Test.YtikknocmfjfohaaGreatDoorProg
import Derived.KernelRfl
import Derived.Test.YtikknocmfjfohaaGreatDoorAmO10
theorem Go.AM.Ok{n:Nat}(s:Go.AM.SFn)(h:Go.AM.okFn Go.Proofs.Tryz.prog n s=true:=by kernel_rfl):Go.AM.okFn Go.Proofs.Tryz.prog n s=true:=h
abbrev Go.AM.Ps:=Go.AM.PSpec Go.Proofs.Tryz.prog
theorem Go.AM.b63Ca{p:Prop}(h:p:=by
 refine⟨.inr trivial,_,rfl,?_⟩;have:a≠b:=fun e=>by subst e;rw[k]at g;cases g;exact h rfl
 simp[resOf,Qa3,this]):p:=h
theorem Go.AM.b7Sxb{p:Prop}(h:p:=by
 refine Zc1 a ?_;exact⟨.inr trivial,_,rfl,by rw[QmU fun j y f=>m j y (by have:=(Zaj.1 f).1;omega) f];rfl⟩):p:=h
theorem Go.AM.b2gsH{p:Prop}(h:p:=by
 exact⟨i+1,by omega,by omega,⟨[(60,.blk 60 0),(70,.blk 70 0),(71,.blk 71 0),(72,.blk 72 0)],rfl,au0,au1,au2⟩⟩):p:=h
theorem Go.AM.bT1GM{p:Prop}(h:p:=by
 subst v;refine QfQ Zbc hrn (fun k d j U K b g M N h1 y=>?_) (fun k d b g h1=>?_) (by decide) (by decide) (by decide)
 ·split at h1
  ·split at y;·split at h1<;>split at y<;>cases h1<;>cases y<;>omega
   cases y
  cases h1
 split at h1;·split at h1<;>cases h1<;>omega
 cases h1):p:=h
theorem Go.AM.b3aKn{p:Prop}(h:p:=by
 rename_i c;rw[Qcc he,if_neg (fun B=>c B.symm),Zas];exact Rn.x1 rfl (by rw[Qci (Zat.2 n)];simp[l,c])):p:=h
theorem Go.AM.b3Qr8{p:Prop}(h:p:=by
 refine Zcw rfl (b:=300+k) (g:=0) (ds:=SE.rowF (a.es.take i) k) (by rw[Qci d];simp[q,c]) (by simp(disch:=omega)only[QaE,QaL,Qa1,s k E c]) (RnL.eq ?_ (Qaa _)) Zcv;unfold SE.rowF;rw[Qcc he,if_neg (fun B=>c B.symm),Zas]):p:=h
theorem Go.AM.bx7jT{p:Prop}(h:p:=by
 have hp:=Qeb q;have:SE.rowF (a.es.take (i+1)) k=[]:=by unfold SE.rowF;rw[hp];rfl
 rw[this];exact Zcx rfl (by rw[Qci d];simp[q]) Zcv):p:=h
theorem Go.AM.byvnU{p:Prop}(h:p:=by
 rw[Zaf,ZbE];rw[Zah,List.getElem?_set];rw[Zah]at h1;split
 ·split;·simp only[Option.getD_some];omega
  simp only[Option.getD_none];omega
 omega):p:=h
theorem Go.AM.bgu8J{p:Prop}(h:p:=by
 rintro j hj;by_cases hjl:j<(preds a.es v).length
 ·obtain⟨y,hy⟩:=Qak hjl;have hyn:=hpn y (Zac hy);obtain⟨k1,k2,_,_,_,_⟩:=hrow ((preds a.es v).take j) (fun y hy=>QdX.1 (ZaV hy));have hbdj:=Qfm (left:=lf l) (v:=v) ((preds a.es v).take j) s hbd;have hstep:=Qk4 (left:=lf l) (v:=v) (s:=s) hy;generalize((preds a.es v).take j).foldl (bEd (lf l) v) s=t at*;have hcn:=k1.cnt;have hln:=k1.len;have hil:i<t.2.length:=(Zaj.1 k2).1;have hyl:y<l.length:=by omega
  have hy1:y+1<=t.1.length:=by omega
  have hyt:y<t.1.length:=by omega
  have hvt:v<t.1.length:=by omega
  have hv1:=k1.neg v hvn;have hv2:=hbdj v;by_cases h0:lf l y=true
  ·by_cases h2:t.1.getD y 0<0
   ·have hst:bEd (lf l) v t y=(t.1.set y (t.1.getD v 0+1),t.2++[y]):=by unfold bEd;rw[if_pos (by rw[h0,decide_eq_true h2];rfl)]
    rw[hst]at hstep;refine Zc1 (Zdd hjl (QaH hy) hyn (Qa7 hyl) h0 (Qbl hyt) h2 hil (Qb4 (nz_at k2)) hvn (Qbl hvt) hy1 @Qbk) ?_;refine⟨j+1,by omega,by omega,?_⟩;rw[hstep,QaQ,QaF,Zaf];exact⟨[(80,.blk 80 0),(81,.blk 81 1)],rfl,au0,au5,au6⟩
   ·have hst:bEd (lf l) v t y=t:=by unfold bEd;rw[if_neg (by rw[h0,decide_eq_false h2];decide)]
    rw[hst]at hstep;refine Zc1 (Zc7 hjl (QaH hy) hyn (Qa7 hyl) h0 (Qbl hyt) h2) ?_;refine⟨j+1,by omega,by omega,?_⟩;rw[hstep];exact⟨[(80,.blk 80 0),(81,.blk 81 0)],rfl,au0,au5,au6⟩
  ·have hst:bEd (lf l) v t y=t:=by unfold bEd;rw[if_neg (by simp[h0])]
   rw[hst]at hstep;rw[Zam]at h0;refine Zc1 (Zc5 hjl (QaH hy) hyn (Qa7 hyl) h0) ?_;refine⟨j+1,by omega,by omega,?_⟩;rw[hstep];exact⟨[(80,.blk 80 0),(81,.blk 81 0)],rfl,au0,au5,au6⟩
 ·have e:j=(preds a.es v).length:=by omega
  subst e;refine Zc1 hjl ?_;refine⟨(),?_⟩;exact⟨[(80,.blk 80 0),(81,.blk 81 0)],rfl,au0,au5,au6⟩):p:=h
theorem Go.AM.bzeBQ{p:Prop}(h:p:=by
 rintro _ _;refine Zc0 ?_;exact⟨(i+1,bRow a.es (lf l) v s),by dsimp only;omega,⟨hin',hbh',Qfm _ _ hbd,hq'⟩,⟨[(80,.blk 80 0),(81,.blk 81 0)],rfl,au0,au5,au6⟩⟩):p:=h
theorem Go.AM.bFgLS{p:Prop}(h:p:=by
 refine⟨i+1,by omega,by omega,?_⟩;rw[b];exact⟨[(80,.blk 80 0),(81,.blk 81 0)],rfl,au0,au7,au8⟩):p:=h
theorem Go.AM.b25Lu{p:Prop}(h:p:=by
 have a:b<1099511627775:=by simp_all
 refine HSpec.frame (fun k=>k=b) n p l (fun k=>?_) (fun k c=>?_) (fun k=>?_) (fun k x c=>?_) (fun k x c=>?_);·rw[Qcj a];simp_all
 ·simp_all[Qcj]
 ·rw[Qcj a];by_cases e:k=b;·subst e;rw[if_pos rfl,if_pos rfl,QaE a]
  simp_all[QaL]
 ·rw[Qcj a]at c;split at c;·cases c;exact m
  cases c
 rw[Qcj a]at c;split at c;·cases c;exact o
 cases c):p:=h
set_option linter.unusedSectionVars false
set_option maxHeartbeats 32000000
set_option maxRecDepth 100000
set_option linter.unusedVariables false
set_option linter.unusedSimpArgs false
namespace Go.AM.SE
open Go.Proofs
set_option maxHeartbeats 4000000
noncomputable section
def cf:YA.Cf:={most:=.pure,always:=[86,118,119,120,122,123,233,176,177,178,225,226,227,228,229,230,231,232,249].map fun k=>(k,.heap),value:=.pure,eqn:=false}
def s83:SFn:=by
 refine(?f:YA.Yt Tryz.prog cf 83 [[4],[6,7,8,9],[0,1,10],[4,10,11],[],[14,15],[5,16,17,18,19,20,21,22,23],[0,1,12,13,24],[4,24,25],[0,1,12,13]]) ?s ?h;case h=>exact YA.rr
 exact fun s _=>s
def s64:SFn:=by
 refine(?f:YA.Yt Tryz.prog cf 64 [[0,1,4],[2,3,5,6,7,8,9,10,11,12,13,14,15,16,17,18,19,20,21,22,23,24,25,26,27,28,29,30]]) ?s ?h;case h=>exact YA.rr
 exact fun s _=>s
def s95:SFn:=by
 refine(?f:YA.Yt Tryz.prog cf 95 [[4],[0,1,5,6,7,8]]) ?s ?h;case h=>exact YA.rr
 exact fun s _=>s
def s86:SFn:=by
 refine(?f:YA.Yt Tryz.prog cf 86 [[2],[3],[0,4],[0,4,5,6,7]]) ?s ?h;case h=>exact YA.rr
 exact fun s _=>s
def s59:SFn:=by
 refine(?f:YA.Yt Tryz.prog cf 59 [[0,6],[],[8,9,10,11],[12,15,16,17,18,19,20,21,22,23],[1,2,3,7,31,29,30,28,27,25,26,24,32,33,34,35,36,37,38],[6,32,13,14],[1,2,3,7,31,29,30,28,27,25,26,24]]) ?s ?h;case h=>exact YA.rr
 exact fun s _=>s
def s22:SFn:=by
 refine(?f:YA.Yt Tryz.prog cf 22 [[4],[6,7,8,9],[0,1,10],[4,10],[11,12,13],[14,17,18,19,20,21,22,23,24],[0,1,5,25],[4,25,15,16],[0,1,5]]) ?s ?h;case h=>exact YA.rr
 exact fun s _=>s
def s53:SFn:=by
 refine(?f:YA.Yt Tryz.prog cf 53 [[0],[2,4,19,20,21,22],[],[1],[],[26,27,28],[12,29,30,31,32,33,34,35,36,37],[38],[39],[23,24,25],[42,43,44,45],[46,47],[48],[],[52,53,54],[16,55,56,57,58,59,60,61],[62],[14,49,50,51,63,64,65,66,67,68,69],[70,71],[40,41],[3,13,72,73,74,75],[76],[],[80,81,82,83],[84,85,86,87,88,89],[17,90,91,92,93,94,95,96,97,98],[18,99,100,101,102,103,104,105,106],[17,18,90,107],[9,77,78,79,109,110,108,111,112,113,114],[10,115]]) ?s ?h;case h=>exact YA.rr
 exact fun s _=>s
def s90:SFn:=by
 refine(?f:YA.Yt Tryz.prog cf 90 [[2],[],[],[5],[6,9,10,11,12],[13,14,15,16,17],[13,7,8],[0,3,4,18]]) ?s ?h;case h=>exact YA.rr
 exact fun s _=>s
def s129:SFn:=by
 refine(?f:YA.Yt Tryz.prog cf 129 [[4],[6,7,8,9],[0,1,10],[4,10,11],[],[14,15],[5,16,17,18,19,20,21,22,23],[0,1,12,13,24],[4,24,25],[0,1,12,13]]) ?s ?h;case h=>exact YA.rr
 exact fun s _=>s
def s152:SFn:=by
 refine(?f:YA.Yt Tryz.prog cf 152 [[4],[6],[],[9,10],[11,12,13,14,15],[0,1,7,8,5,16,17],[4,5,16,18],[0,1,7,8]]) ?s ?h;case h=>exact YA.rr
 exact fun s _=>s
def s66:SFn:=by
 refine(?f:YA.Yt Tryz.prog cf 66 [[0,2],[5,6,7],[8],[1,3,9,10],[2,3,9,12,13,14],[1,11],[11,16,17,18],[1,15],[2,15,19,20,21,22,23],[24],[1,4,25,26],[1,4,25,27,28]]) ?s ?h;case h=>exact YA.rr
 exact fun s _=>s
def s254:SFn:=by
 refine(?f:YA.Yt Tryz.prog cf 254 [[4,5],[10,11],[12],[13,14],[15,16,17,18,19,20,21],[22,23,24,25,26],[9,27,28,29],[9,27,30],[0,1,6,7,8,52,42,51,48,50,49,47,46,45,43,44,41,39,40,38,36,37,31,32,33,34,35,53]]) ?s ?h;case h=>exact YA.rr
 exact fun s _=>s
def s251:SFn:=by
 refine(?f:YA.Yt Tryz.prog cf 251 [[0],[12,13,14,15],[16,17],[1,3,18,19],[18,20,21,22],[23],[],[26,27],[5,28,29,30],[31],[24,25,32,33],[34],[],[35,36,37],[38,42,43,44,45,46,47,48,41,49,50,8],[9],[51,52,53,54,55,56,57],[51,58,59,60,61,62],[],[66,67,68],[69,70,71,72,73],[74,75,76,77,78,79,80],[81,82,83,84,85],[11,74,86,87,88,89,90,91,92,93,94,95,96,97,98,99],[100],[63,64,65,39,40],[1,4,6,7,101,102,103],[3,104]]) ?s ?h;case h=>exact YA.rr
 exact fun s _=>s
def s118:SFn:=by
 refine(?f:YA.Yt Tryz.prog cf 118 [[0,6],[2,13,14,15,16,17,18,19,20],[21,22,23,24],[],[27,28],[8,29,30,31,32,33,34],[35],[1,25,26],[],[39,40,41],[10,42,43,44,45,46,47],[48],[3,36,37,38,49],[],[53,54,55],[12,56,57,58,59,60,61,62,63,64,65,66,67,68,69,70,71,72],[73],[7,50,51,52,74]] [(16,[(2,4)]),(2,[(12,15),(3,16),(5,16)])]) ?s ?h;case h=>exact YA.rr
 exact fun s _=>s
def s119:SFn:=by
 refine(?f:YA.Yt Tryz.prog cf 119 [[6],[8,9,10],[2,11,12,13,14,15,16],[0,1,7,17,18],[0,1,7,17,19,20,21]]) ?s ?h;case h=>exact YA.rr
 exact fun s _=>s
def s122:SFn:=by
 refine(?f:YA.Yt Tryz.prog cf 122 [[2],[11,12,13,14,15,16],[17],[],[20,21],[4,22,23,24],[25],[18,19],[26,27,28,29],[],[33,34,35],[36,37,38,39,40,41],[42,43,44,45],[7,46,47,48,49],[7,42,50],[30,31,32],[51,52,53],[54,57,58,59,60,61,62,63,64],[],[68,69,70],[71,72,73,74,75,76,77,78],[84,85,86,87,88,89,90,91,92,93,94,95],[10,96,97,98,99],[10,84,100],[65,66,67,55,56],[0,3,83,82,81,79,80,5,8,101]]) ?s ?h;case h=>exact YA.rr
 exact fun s _=>s
def s123:SFn:=by
 refine(?f:YA.Yt Tryz.prog cf 123 [[3],[15,16,17,18,19,20,21],[22,23,24,25,26,27,28,29,30,31,32,33,34,35],[0,4,36,37],[3,36,38,39,40,41,42,43],[44,45,46,47],[],[51,52,53],[54,55,56,57,58,59,60],[7,61,62,63,64,65,66,67,68,69,70,71,72,73],[7,61,74],[48,49,50,75,76],[77],[],[78,79,80],[81,84,85,86,87,88,89],[],[93,94,95],[97,98,99,100,96,101,102],[14,103],[104,105,106],[107,108,109,110],[111,112,113,114,115],[12,13,104,116,117,118,119,120,121,122,123,124,125],[126],[90,91,92,127,128,129,130,131,132,133,134,135],[136,137,138,139,140,141,142],[136,82,83],[0,5,8,10,143,144,145],[4,9,146,147]] [(20,[(2,10)])]) ?s ?h;case h=>exact YA.rr
 exact fun s _=>s
def s150:SFn:=by
 refine(?f:YA.Yt Tryz.prog cf 150 [[1],[9,10],[0,3,11,12,13],[11,14,15],[16,17,18,19,20,21],[],[22,23,24],[25,28,29,30,31,32],[33,34,35,36,37,38,39],[33],[40,41,42,43,44],[47,50,51,52,53,54,55,56,57,58,59,60],[61,62,63],[8,64,65,66,67,68,69,70,71,72,73,74,75,76],[8,64,48,49],[7,26,27],[0,3,5,6,46,45,77,78]]) ?s ?h;case h=>exact YA.rr
 exact fun s _=>s
def s132:SFn:=by
 refine(?f:YA.Yt Tryz.prog cf 132 [[4],[],[],[10,11,12,13],[15,16,17,21],[0,1,7,8,9,32,26,31,30,27,29,28,20,18,19,5,6,14],[5,6,14,23,24,25,33],[0,1,7,8,9,32,26,31,30,27,29,28,20,18,19,22],[4,22,34],[0,1,7,8,9,32,26,31,30,27,29,28,20,18,19]]) ?s ?h;case h=>exact YA.rr
 exact fun s _=>s
def s133:SFn:=by
 refine(?f:YA.Yt Tryz.prog cf 133 [[0,2],[6],[],[10,11,12,13],[15,16,17,18,24,25,29,30,36],[1,7,8,9,69,63,68,65,67,66,64,62,59,61,60,58,35,32,34,33,31,28,27,26,23,20,22,21,19,4,3,14],[14,38,39,40,41,42,43],[1,7,8,9,69,63,68,65,67,66,64,62,59,61,60,58,35,32,34,33,31,28,27,26,23,20,22,21,19,4,3,37],[2,37,44],[3,45,46,47,48,49,50,51],[4,5,52,53,54,55,56,57],[1,7,8,9,69,63,68,65,67,66,64,62,59,61,60,58,35,32,34,33,31,28,27,26,23,20,22,21,19,70],[2,70,71],[1,7,8,9,69,63,68,65,67,66,64,62,59,61,60,58,35,32,34,33,31,28,27,26,23,20,22,21,19]]) ?s ?h;case h=>exact YA.rr
 exact fun s _=>s
def s245:SFn:=by
 refine(?f:YA.Yt Tryz.prog cf 245 [[4],[0,1,5,6,7,8,9,10,11,12,13,14,15,16]]) ?s ?h;case h=>exact YA.rr
 exact fun s _=>s
def s278:SFn:=by
 refine(?f:YA.Yt Tryz.prog cf 278 [[2],[0,3,4,5]]) ?s ?h;case h=>exact YA.rr
 exact fun s _=>s
def s223:SFn:=by
 refine(?f:YA.Yt Tryz.prog cf 223 [[0,4],[10,11,12,13,9,14,15,6],[1,17,18,19,20,21,16,22,23,8],[2,5,7,24,25,26,27,28]]) ?s ?h;case h=>exact YA.rr
 exact fun s _=>s
def s176:SFn:=by
 refine(?f:YA.Yt Tryz.prog cf 176 [[4],[],[9,10,11,12],[],[16,17,18],[19,20,21,22,23,24,25,26,27,28,37,38],[47,48,49],[8,50,51,52],[7,62,63,64,65,66,67,68,69,70,71],[72],[0,1,5,13,14,15,61,58,60,59,57,56,53,55,54,46,45,42,44,43,41,40,39,36,35,32,34,33,31,30,29,73]]) ?s ?h;case h=>exact YA.rr
 exact fun s _=>s
def s177:SFn:=by
 refine(?f:YA.Yt Tryz.prog cf 177 [[4],[],[8],[],[12,13,14,15],[7,16,17,18,19,20,21,22,23],[6,26,27,28,29,30,31,32],[6,26,33],[0,1,5,9,10,11,25,24,34]]) ?s ?h;case h=>exact YA.rr
 exact fun s _=>s
def s189:SFn:=by
 refine(?f:YA.Yt Tryz.prog cf 189 [[],[0,3,4,5,6]]) ?s ?h;case h=>exact YA.rr
 exact fun s _=>s
def s190:SFn:=by
 refine(?f:YA.Yt Tryz.prog cf 190 [[0],[8,9],[10,11,12],[13,14,15],[],[16,17,18],[19,22,23,24,25,26,27],[28,29,30,31,32,33,34],[28],[35,36,37,38],[39,42,43,44,45,46,47,48,49,50,51,52],[53],[7,54,55,56,57,58,59,60,61,62,63,64,65,66,67,68,69],[7,54,40,41],[6,20,21],[1,3,4,5,70]]) ?s ?h;case h=>exact YA.rr
 exact fun s _=>s
def s276:SFn:=by
 refine(?f:YA.Yt Tryz.prog cf 276 [[2],[0,3,4,5]]) ?s ?h;case h=>exact YA.rr
 exact fun s _=>s
def s265:SFn:=by
 refine(?f:YA.Yt Tryz.prog cf 265 [[6,7],[12,13],[14],[15,16],[17,18,19,20,21,22,23],[24,25,26,27,28,29,30],[11,31,32,33],[11,31,34],[0,1,2,8,9,10,47,46,40,44,45,43,41,42,35,36,37,38,39,48]]) ?s ?h;case h=>exact YA.rr
 exact fun s _=>s
def s266:SFn:=by
 refine(?f:YA.Yt Tryz.prog cf 266 [[0,4],[1,2,5,6,7,8]]) ?s ?h;case h=>exact YA.rr
 exact fun s _=>s
def s267:SFn:=by
 refine(?f:YA.Yt Tryz.prog cf 267 [[0,4],[1,2,5,6,7,8]]) ?s ?h;case h=>exact YA.rr
 exact fun s _=>s
def s248:SFn:=by
 refine(?f:YA.Yt Tryz.prog cf 248 [[0,2],[],[7,8],[9,10,11,12],[9],[13,14,15],[16],[19,20,21,22],[23,26,27,28,29,30,31,32,33,34,35,36],[37,38,39],[6,44,45,46,47,48],[6,44,24,25],[5,17,18],[1,3,4,43,42,40,41,49]]) ?s ?h;case h=>exact YA.rr
 exact fun s _=>s
def s249:SFn:=by
 refine(?f:YA.Yt Tryz.prog cf 249 [[4],[],[6,7,8],[9,12,13,14,15,16],[0,1,5,17],[4,17,10,11],[0,1,5]]) ?s ?h;case h=>exact YA.rr
 exact fun s _=>s
def s250:SFn:=by
 refine(?f:YA.Yt Tryz.prog cf 250 [[4],[],[6,7,8],[9,12,13,14,15,16],[0,1,5,17,18],[4,17,10,11],[0,1,5]]) ?s ?h;case h=>exact YA.rr
 exact fun s _=>s
end
end Go.AM.SE
namespace Go.AM.SE
open Go.Proofs Go.AM.SD
variable{v:AV}{k:IntKind}{l:List Int}{a f i n:Nat}{P:Program}{α:Type}
theorem _root_.Go.AM.Zc2{A B}(a:A)(b:B):A/\B:=⟨a,b⟩
theorem _root_.Go.AM.Zc3{A B C}(a:A)(b:B)(c:C):A/\B/\C:=⟨a,b,c⟩
theorem _root_.Go.AM.Zc4{A B C D}(a:A)(b:B)(c:C)(d:D):A/\B/\C/\D:=⟨a,b,c,d⟩
theorem _root_.Go.AM.Zc5{A B C D E}(a:A)(b:B)(c:C)(d:D)(e:E):A/\B/\C/\D/\E:=⟨a,b,c,d,e⟩
theorem _root_.Go.AM.Zc6{A B C D E F}(a:A)(b:B)(c:C)(d:D)(e:E)(f:F):A/\B/\C/\D/\E/\F:=⟨a,b,c,d,e,f⟩
theorem _root_.Go.AM.Zc7{A B C D E F G}(a:A)(b:B)(c:C)(d:D)(e:E)(f:F)(g:G):A/\B/\C/\D/\E/\F/\G:=⟨a,b,c,d,e,f,g⟩
theorem _root_.Go.AM.Zc8{A B C D E F G H}(a:A)(b:B)(c:C)(d:D)(e:E)(f:F)(g:G)(h:H):A/\B/\C/\D/\E/\F/\G/\H:=⟨a,b,c,d,e,f,g,h⟩
theorem _root_.Go.AM.Zc9{A B C D E F G H I}(a:A)(b:B)(c:C)(d:D)(e:E)(f:F)(g:G)(h:H)(i:I):A/\B/\C/\D/\E/\F/\G/\H/\I:=⟨a,b,c,d,e,f,g,h,i⟩
theorem _root_.Go.AM.Zda{A B C D E F G H I J}(a:A)(b:B)(c:C)(d:D)(e:E)(f:F)(g:G)(h:H)(i:I)(j:J):A/\B/\C/\D/\E/\F/\G/\H/\I/\J:=⟨a,b,c,d,e,f,g,h,i,j⟩
theorem _root_.Go.AM.Zdb{A B C D E F G H I J K}(a:A)(b:B)(c:C)(d:D)(e:E)(f:F)(g:G)(h:H)(i:I)(j:J)(k:K):A/\B/\C/\D/\E/\F/\G/\H/\I/\J/\K:=⟨a,b,c,d,e,f,g,h,i,j,k⟩
theorem _root_.Go.AM.Zdc{A B C D E F G H I J K L}(a:A)(b:B)(c:C)(d:D)(e:E)(f:F)(g:G)(h:H)(i:I)(j:J)(k:K)(l:L):A/\B/\C/\D/\E/\F/\G/\H/\I/\J/\K/\L:=⟨a,b,c,d,e,f,g,h,i,j,k,l⟩
theorem _root_.Go.AM.Zdd{A B C D E F G H I J K L M}(a:A)(b:B)(c:C)(d:D)(e:E)(f:F)(g:G)(h:H)(i:I)(j:J)(k:K)(l:L)(m:M):A/\B/\C/\D/\E/\F/\G/\H/\I/\J/\K/\L/\M:=⟨a,b,c,d,e,f,g,h,i,j,k,l,m⟩
theorem _root_.Go.AM.Zde{A B C D E F G H I J K L M N}(a:A)(b:B)(c:C)(d:D)(e:E)(f:F)(g:G)(h:H)(i:I)(j:J)(k:K)(l:L)(m:M)(n:N):A/\B/\C/\D/\E/\F/\G/\H/\I/\J/\K/\L/\M/\N:=⟨a,b,c,d,e,f,g,h,i,j,k,l,m,n⟩
theorem _root_.Go.AM.ZcQ{p q:Prop}(k:q)(h:p=q:=by conv=>lhs;simp(disch:=first|omega|exact PairsOK.mk rfl|(simp only[lenW]<;>omega))only[wV,simprocAttr]):p:=h▸k
theorem _root_.Go.AM.ZcR{p q A:Prop}(a:A)(k:q)(h:A->p=q:=by intro a;conv=>lhs;simp(disch:=first|omega|exact PairsOK.mk rfl|(simp only[lenW]<;>omega))only[a,wV,simprocAttr]):p:=h a▸k
theorem PSpec.weak{args bs}(k:∀(ok:Okc)(c:Ctx ok)(w:World)(vs:List Value),HRel c .e w->VRels c w args vs->VRels c w bs vs)(d:noRefs args=true)(hp:PSpec P f bs v):PSpec P f args v:=by obtain⟨l,b,g,hc,i⟩:=hp;exact⟨d,b,g,hc,fun c w a H h=>i c w a H (k _ c w _ H h)⟩
theorem _root_.Go.AM.au0{p:Prop}(h:p:=by repeat(first|exact Zcs|exact RO.e|refine RO.set rfl ?_)):p:=h
theorem _root_.Go.AM.au1{p:Prop}(h:p:=by repeat'(first|exact Zcv|(refine Zcl ?_;first|rfl|(simp only[noRef,noRefs,SD.Qaa,SD.Qab,SD.Qaf,SD.Qag,SD.Qah,SD.Qai,SD.Qaj,SD.Qal,SD.Qan,SD.Qaq,Zad,Zae,Zag];done))|exact ZcJ rfl|exact ZcB|exact(True.intro:RnM _ _ _ [] [])|refine ZcC ?_ ?_|(refine Zck ?_;first|rfl|(simp only[noRef,noRefs,SD.Qaa,SD.Qab,SD.Qaf,SD.Qag,SD.Qah,SD.Qai,SD.Qaj,SD.Qal,SD.Qan,SD.Qaq,Zad,Zae,Zag];done))|exact Rn.x1 rfl rfl|exact Rn.x2 rfl rfl|exact Rn.x3 rfl rfl|exact Rn.x4 rfl rfl|exact Rn.x5 rfl|exact Rn.x6 rfl|exact Rn.x7 rfl|refine Zcx rfl rfl ?_|refine Zcw rfl rfl rfl ?_ ?_|refine Zcy rfl rfl rfl ?_ ?_|refine Zcz rfl rfl ?_ ?_|refine ZcA rfl rfl ?_ ?_)):p:=h
theorem _root_.Go.AM.au2{p:Prop}(h:p:=by repeat(first|exact Zct|(refine Zcu ?_ ?_;·(first|exact Zcj|exact Rn.x1 rfl rfl|exact Rn.x2 rfl rfl|exact Rn.x3 rfl rfl|exact Rn.x4 rfl rfl|exact Rn.x5 rfl|exact Rn.x6 rfl|exact Rn.x7 rfl|(refine ZcF ?_ ?_;(first|rfl|(rw[ZaG];rfl));(first|rfl|(simp only[noRef,noRefs,SD.Qaa,SD.Qab,SD.Qaf,SD.Qag,SD.Qah,SD.Qai,SD.Qaj,SD.Qal,SD.Qan,SD.Qaq,Zad,Zae,Zag];done)))|(refine Rn.fn ?_ ?_<;>(repeat'(first|exact ZcB|refine ZcC ?_ ?_|exact Zck rfl|exact Rn.x6 rfl|exact Rn.x2 rfl rfl|exact Rn.x5 rfl|exact Rn.x1 rfl rfl))))))):p:=h
theorem has36(l)(n)(m:l.length<=140737488355328):Ps 249 [sli l,.int .i64 n] (.bool (decide (n∈l))):=by
 refine Zcn 64 (Ok s249) rfl (by(try simp only[noRefs,Qaa,Qal,Qag,Qan,Qai,noRef,Zae,Zad])<;>rfl) rfl ?_;unfold s249;refine ZcQ ?_;refine QaC 100 (fun i:Nat=>[(0,sli l),(1,.int .i64 n),(5,.int .i64 i)]) (fun _=>[]) (fun i=>i<=l.length/\∀(j:Nat)y,j<i->l[j]?=some y->y≠n) (fun i=>l.length-i) 0 ⟨[],rfl,au0,au1,au2⟩ ⟨Zai _,fun j y c=>absurd c (ZaD _)⟩ ?_;rintro i⟨hi,g⟩;by_cases a:i<l.length
 ·obtain⟨x,d⟩:=Qak a;by_cases b:x=n;·refine ZcR (Zc3 a (QaI d) b) ?_;refine⟨.inr trivial,_,rfl,?_⟩;have:n∈l:=b▸Zac d;simp[resOf,Qa3,this]
  refine ZcR (Zc3 a (QaI d) b) ?_;refine⟨i+1,by omega,⟨by omega,fun j y c f=>?_⟩,⟨[],rfl,au0,au1,au2⟩⟩;by_cases e:j=i;·subst e;rw[d]at f;cases f;exact b
  exact g j y (by omega) f
 have :n∉l:=fun h=>by obtain⟨j,c,k⟩:=Qd0 h;exact g j n (by omega) c rfl
 refine ZcR a ?_;exact⟨.inr trivial,_,rfl,by simp[resOf,Qa3,this]⟩
theorem sameInts(a b)(n:a.length<=140737488355328):Ps 22 [sli a,sli b] (.bool (decide (a=b))):=by
 refine Zcn 64 (Ok s22) rfl (by(try simp only[noRefs,Qaa,Qal,Qag,Qan,Qai,noRef,Zae,Zad])<;>rfl) rfl ?_;by_cases f:a.length=b.length
 ·unfold s22;refine ZcR f ?_;refine QaC 100 (fun i:Nat=>[(0,sli a),(1,sli b),(5,.int .i64 i)]) (fun _=>[]) (fun i=>i<=a.length/\∀j,j<i->a[j]?=b[j]?) (fun i=>a.length-i) 0 ⟨[],rfl,au0,au1,au2⟩ ⟨Zai _,fun j l=>absurd l (ZaD _)⟩ ?_;rintro i⟨hi,m⟩;by_cases c:i<a.length
  ·obtain⟨x,k⟩:=Qak c;obtain⟨y,g⟩:=Qak (l:=b) (i:=i) (by omega);have d:i<b.length:=by omega
   by_cases h:x=y
   ·refine ZcR (Zc5 c d (QaI k) (QaI g) h) ?_;refine⟨i+1,by omega,⟨by omega,fun j l=>?_⟩,⟨[],rfl,au0,au1,au2⟩⟩;by_cases e:j=i;·subst e;rw[k,g,h]
    exact m j (by omega)
   refine ZcR (Zc5 c d (QaI k) (QaI g) h) ?_;exact b63Ca
  have :a=b:=Zbx fun j=>by
   by_cases l:j<i;·exact m j l
   rw[ZaF (by omega),ZaF (by omega)]
  refine ZcR c ?_;exact⟨.inr trivial,_,rfl,by simp[resOf,Qa3,this]⟩
 unfold s22;refine ZcR f ?_;have:a≠b:=fun e=>f (by rw[e]);exact⟨.inr trivial,_,rfl,by simp[resOf,Qa3,this]⟩
def indexR(l:List Int)(n:Int):Int:=if n∈l then(l.findIdx (·==n):Int)else-1
theorem index70(l)(n)(o:l.length<=140737488355328):Ps 152 [sli l,.int .i64 n] (.int .i64 (indexR l n)):=by
 refine Zcn 64 (Ok s152) rfl (by(try simp only[noRefs,Qaa,Qal,Qag,Qan,Qai,noRef,Zae,Zad])<;>rfl) rfl ?_;unfold s152;refine ZcQ ?_;refine QaC 100 (fun i:Nat=>[(0,sli l),(1,.int .i64 n),(7,.int .i64 l.length),(8,.int .i64 i)]) (fun _=>[]) (fun i=>i<=l.length/\∀(j:Nat)y,j<i->l[j]?=some y->y≠n) (fun i=>l.length-i) 0 ⟨[],rfl,au0,au1,au2⟩ ⟨Zai _,fun j y d=>absurd d (ZaD _)⟩ ?_;rintro i⟨hi,f⟩;by_cases a:i<l.length
 ·obtain⟨x,c⟩:=Qak a;by_cases b:n=x
  ·refine ZcR (Zc3 a (QaI c) b) ?_;refine⟨.inr trivial,_,rfl,?_⟩;have h1:n∈l:=b▸Zac c;have k:l.findIdx (·==n)=i:=by rw[Zcc a];refine⟨by rw[Zak a]at c;cases c;simp[b],fun j d=>?_⟩;have:=f j l[j] d (Zak (by omega));simpa using this
   subst b;simp only[indexR,if_pos h1,k];rfl
  refine ZcR (Zc3 a (QaI c) b) ?_;refine⟨i+1,by omega,⟨by omega,fun j y d g=>?_⟩,⟨[],rfl,au0,au1,au2⟩⟩;by_cases e:j=i;·subst e;rw[c]at g;cases g;exact fun e=>b e.symm
  exact f j y (by omega) g
 have :n∉l:=fun h=>by obtain⟨j,d,m⟩:=Qd0 h;exact f j n (by omega) d rfl
 refine ZcR a ?_;exact⟨.inr trivial,_,rfl,by simp only[indexR,if_neg this];rfl⟩
theorem contains62(l)(n)(c:l.length<=140737488355328):Ps 95 [sli l,.int .i64 n] (.bool (decide (n∈l))):=by
 refine Zcn 64 (Ok s95) rfl (by(try simp only[noRefs,Qaa,Qal,Qag,Qan,Qai,noRef,Zae,Zad])<;>rfl) rfl ?_;unfold s95;refine ZcQ ?_;refine cp (index70 l n c) ?_;have e:decide (0<=indexR l n)=decide (n∈l):=by
  unfold indexR;by_cases h:n∈l;·rw[if_pos h];simp[h]
  rw[if_neg h];simp[h]
 by_cases h:n∈l
 ·have a:0<=indexR l n:=by rw[decide_eq_decide]at e;exact e.2 h
  refine ZcR a ?_;exact⟨.inr trivial,_,rfl,by simp[resOf,Qa3,h]⟩
 have a:¬0<=indexR l n:=by rw[decide_eq_decide]at e;exact fun b=>h (e.1 b)
 refine ZcR a ?_;exact⟨.inr trivial,_,rfl,by simp[resOf,Qa3,h]⟩
theorem Qc6(hi:i<=k.bits):aBin .shr (.int k (a:Int)) (.int .i64 (i:Int))=some (.int k ((a/2^i:Nat):Int)):=by
 have h1:¬(i:Int)<0:=by omega
 simp only[aBin,if_neg h1];have b:min (i:Int).toNat k.bits=i:=by simp;omega
 rw[b];have:(2:Int)^i=((2^i:Nat):Int):=by norm_cast
 rw[this,Int.fdiv_eq_ediv_of_nonneg _ (Za9 _)];norm_cast
theorem and1(n a:Nat)(d:0<n):(BitVec.ofInt n (a:Int)&&&BitVec.ofInt n 1).toNat=a%2:=by
 rw[BitVec.toNat_and,BitVec.toNat_ofInt,BitVec.toNat_ofInt];have h1:((a:Int)%((2^n:Nat):Int)).toNat=a%2^n:=by norm_cast
 have b:((1:Int)%((2^n:Nat):Int)).toNat=1:=by
  have:1%2^n=1:=Nat.mod_eq_of_lt (Nat.one_lt_two_pow (by omega));have c:((1:Int)%((2^n:Nat):Int))=((1%2^n:Nat):Int):=by norm_cast
  rw[c,this];rfl
 rw[h1,b,Nat.and_one_is_mod,Nat.mod_mod_of_dvd _ ⟨2^(n-1),by rw[<-Nat.pow_succ'];congr 1;omega⟩]
theorem Qc7:aBin .and (.int .u8 (a:Int)) (.int .u8 1)=some (.int .u8 ((a%2:Nat):Int)):=by simp only[aBin,if_true];rw[show IntKind.u8.bits=8 from rfl,and1 8 a (by omega),wr_u8 (by omega) (by omega)]
theorem Qem{s}:(((s/2^i%2:Nat):Int)=1)↔s.testBit i=true:=by rw[Nat.testBit_eq_decide_div_mod_eq,decide_eq_true_eq];omega
theorem Qd2{n b:Nat}:SD.part (i+1) b=SD.part i b++if b.testBit i=true then[i]else[]:=by unfold SD.part;rw[ZaK,Zbm];congr 1;by_cases h:b.testBit i=true<;>simp[h]
theorem QdI{i b}:(SD.part i b).length<=i:=by unfold SD.part;exact ZaA (Za7 _ _) (by simp)
theorem events16(s:Nat)(hs:s<256):Ps 90 [.int .u8 s] (sliN (SD.part 5 s)):=by
 refine Zcm 64 (Ok s90) rfl (by(try simp only[noRefs,Qaa,Qal,Qag,Qan,Qai,noRef,Zae,Zad])<;>rfl) (Qab _) ?_;unfold s90;refine ZcQ ?_;refine QaC 100 (fun i:Nat=>[(0,.int .u8 s),(3,.sl 50 0 0 (SD.part i s).length 1),(4,.int .i64 i)]) (fun i=>[(50,.cells 0 (ints (nz (SD.part i s))))]) (fun i=>i<=5) (fun i=>5-i) 0 ⟨[(50,.nil)],rfl,au0,au1,au2⟩ (Zai _) ?_;rintro i hi;have hpl:=@QdI i s;by_cases hlt:i<5
 ·have hlt2:(i:Int)<5:=by omega
  by_cases h0:s.testBit i=true;·have hb:=Qem.2 h0;have hp:=Qd2 (n:=5) (b:=s) (i:=i);rw[if_pos h0]at hp;simp(disch:=first|omega|(simp only[lenW]<;>omega))only[hlt2,Qc6 (k:=.u8) (show i<=8 by omega),Qc7,hb,wV,simprocAttr];refine⟨i+1,by omega,by omega,?_⟩;rw[hp,QaQ,QaF,Zaf];exact⟨[(50,.blk 50 1)],rfl,au0,au1,au2⟩
  ·have hb:¬((s/2^i%2:Nat):Int)=1:=fun e=>h0 (Qem.1 e);have hp:=Qd2 (n:=5) (b:=s) (i:=i);rw[if_neg h0,Zas]at hp;simp(disch:=first|omega|(simp only[lenW]<;>omega))only[hlt2,Qc6 (k:=.u8) (show i<=8 by omega),Qc7,hb,wV,simprocAttr];refine⟨i+1,by omega,by omega,?_⟩;rw[hp];exact⟨[(50,.blk 50 0)],rfl,au0,au1,au2⟩
 ·have hlt2:¬(i:Int)<5:=by omega
  have e:i=5:=by omega
  subst e;refine ZcR hlt2 ?_;refine⟨.inr trivial,_,rfl,?_⟩;exact ZcE rfl (by simp[ints]) (Zcl (Qaa _))
def SetOk(l:List Int)(n:Int):Prop:=(∀x∈l,0<=x/\x<n)/\l.Pairwise (·<·)
theorem SetOk.up{n}(h:SetOk l n){x y}(b:l[i]?=some x)(c:l[i+1]?=some y):x<y:=by obtain⟨h1,f⟩:=Zaj.1 b;obtain⟨a,d⟩:=Zaj.1 c;have:=Zbf.1 h.2 i (i+1) h1 a (by omega);rw[f,d]at this;exact this
theorem SetOk.nz{l}(h1:∀x∈l,x<n)(b:l.Pairwise (·<·)):SetOk (nz l) n:=by
 refine⟨fun x c=>?_,?_⟩;·obtain⟨a,d,rfl⟩:=Zap.1 c;have:=h1 a d;omega
 rw[Zbl];exact b.imp fun h=>by omega
theorem set49(l)(n)(q:l.length<=140737488355328)(h:SetOk l n):Ps 132 [sli l,.int .i64 n] (.int .i64 0):=by
 refine Zcn 64 (Ok s132) rfl (by(try simp only[noRefs,Qaa,Qal,Qag,Qan,Qai,noRef,Zae,Zad])<;>rfl) rfl ?_;unfold s132;refine ZcQ ?_;refine QaC 100 (fun i:Nat=>[(0,sli l),(1,.int .i64 n),(7,sli l),(8,.int .i64 l.length),(9,.int .i64 i)]) (fun _=>[]) (fun i=>i<=l.length) (fun i=>l.length-i) 0 ⟨[],rfl,au0,au1,au2⟩ (Zai _) ?_;rintro i hi;by_cases a:i<l.length
 ·obtain⟨x,d⟩:=Qak a;obtain⟨h1,s⟩:=h.1 x (Zac d);have c:¬x<0:=by omega
  have b:¬n<=x:=by omega
  by_cases p:i=0
  ·have f:¬(0:Int)<(i:Int):=by omega
   refine ZcR (Zc5 a (QaI d) c b f) ?_;exact⟨i+1,by omega,by omega,⟨[],rfl,au0,au1,au2⟩⟩
  obtain⟨y,k⟩:=Qak (l:=l) (i:=i-1) (by omega);have r:=h.up k (by rw[show i-1+1=i by omega];exact d);have g:¬x<=y:=by omega
  have f:(0:Int)<(i:Int):=by omega
  have o:(i:Int)-1=((i-1:Nat):Int):=by omega
  have m:((i-1:Nat):Int)<l.length:=by omega
  refine ZcR (Zc9 a (QaI d) c b f o m (QaI k) g) ?_;exact⟨i+1,by omega,by omega,⟨[],rfl,au0,au1,au2⟩⟩
 refine ZcR a ?_;exact⟨.inr trivial,_,rfl,rfl⟩
structure EgsOk(a:Au):Prop where
 len:a.es.length<=140737488355328
 all:a.al.length<=140737488355328
 fr:∀e∈a.es,0<=e.fr/\e.fr<a.n
 to:∀e∈a.es,0<=e.to/\e.to<a.n
 ev:∀e∈a.es,e.ev∈a.al
 up:a.es.Pairwise fun x y=>x.fr<y.fr\/(x.fr=y.fr/\x.ev<y.ev)
theorem EgsOk.step{a}(h:EgsOk a){x y}(c:a.es[i]?=some x)(d:a.es[i+1]?=some y):x.fr<y.fr\/(x.fr=y.fr/\x.ev<y.ev):=by obtain⟨h1,g⟩:=Zaj.1 c;obtain⟨b,f⟩:=Zaj.1 d;have:=Zbf.1 h.up i (i+1) h1 b (by omega);rw[g,f]at this;exact this
theorem edges50(a)(h:EgsOk a):Ps 133 [auV a] (.int .i64 0):=by
 refine Zcn 64 (Ok s133) rfl (by(try simp only[noRefs,Qaa,Qal,Qag,Qan,Qai,noRef,Zae,Zad])<;>rfl) rfl ?_;have w:=h.len;unfold s133;refine ZcQ ?_;refine QaC 100 (fun i:Nat=>[(1,.ptr 50 0 0),(7,egs a.es),(8,.int .i64 a.es.length),(9,.int .i64 i)]) (fun _=>[(50,.cells 0 [sli a.al,.int .i64 a.n,sli a.ms,egs a.es])]) (fun i=>i<=a.es.length) (fun i=>a.es.length-i) 0 ⟨[(50,.blk 64 0)],rfl,au0,au1,au2⟩ (Zai _) ?_;rintro i hi;by_cases b:i<a.es.length
 ·obtain⟨x,c⟩:=Qak b;have hm:=Zac c;obtain⟨A,z⟩:=h.fr x hm;obtain⟨v,C⟩:=h.to x hm;have n:¬x.fr<0:=by omega
  have l:¬a.n<=x.fr:=by omega
  have p:¬x.to<0:=by omega
  have g:¬a.n<=x.to:=by omega
  have k:decide (x.ev∈a.al)=true:=decide_eq_true (h.ev x hm);refine ZcR (Zc6 b (QdF c) n l p g) ?_;refine cp (contains62 a.al x.ev h.all) ?_;rw[k];by_cases B:i=0
  ·have d:(i:Int)=0:=by omega
   refine ZcR (Zc3 b (QdF c) d) ?_;exact⟨1,by omega,by omega,⟨[(50,.blk 50 0)],rfl,au0,au1,au2⟩⟩
  obtain⟨y,m⟩:=Qak (l:=a.es) (i:=i-1) (by omega);have d:¬(i:Int)=0:=by omega
  have r:(i:Int)-1=((i-1:Nat):Int):=by omega
  have q:((i-1:Nat):Int)<a.es.length:=by omega
  rcases h.step m (by rw[show i-1+1=i by omega];exact c)with s|⟨s,u⟩
  ·have f:¬x.fr<y.fr:=by omega
   have o:¬x.fr=y.fr:=by omega
   refine ZcR (Zc8 b (QdF c) d r q (QdF m) f o) ?_;exact⟨i+1,by omega,by omega,⟨[(50,.blk 50 0)],rfl,au0,au1,au2⟩⟩
  have f:¬x.fr<y.fr:=by omega
  have o:x.fr=y.fr:=by omega
  have t:¬x.ev<=y.ev:=by omega
  refine ZcR (Zc9 b (QdF c) d r q (QdF m) f o t) ?_;exact⟨i+1,by omega,by omega,⟨[(50,.blk 50 0)],rfl,au0,au1,au2⟩⟩
 refine ZcR b ?_;exact⟨.inr trivial,_,rfl,rfl⟩
structure AuOk(a:Au):Prop extends EgsOk a where
 alS:SetOk a.al 32
 msS:SetOk a.ms a.n
 mslen:a.ms.length<=140737488355328
 n0:0<=a.n
 nm:a.n<=4096
theorem check37(a)(h:AuOk a):Ps 66 [auV a] (.int .i64 0):=by
 refine Zcn 64 (Ok s66) rfl (by(try simp only[noRefs,Qaa,Qal,Qag,Qan,Qai,noRef,Zae,Zad])<;>rfl) rfl ?_;have h1:¬a.n<0:=by have:=h.n0;omega
 have b:¬4096<a.n:=by have:=h.nm;omega
 unfold s66;refine ZcQ ?_;refine cp (set49 a.al 32 h.all h.alS) ?_;refine ZcR (Zc2 h1 b) ?_;refine cp (set49 a.ms a.n h.mslen h.msS) ?_;refine ZcQ ?_;refine cp (edges50 a h.toEgsOk) ?_;refine ZcQ ?_;exact⟨.inr trivial,_,rfl,rfl⟩
theorem QaA{l:List α}{x d}(h:l[i]?=some x):l.getD i d=x:=by rw[Zah,h];rfl
end Go.AM.SE
namespace Go.AM.SO
open Go.Proofs Go.AM.SD Go.AM.SE
variable{l:List (List UInt8×Int)}{t:List Int}{x:List UInt8×Int}{i:Nat}
structure Bxn where
 lo:List Int
 hi:List Int
variable{b:Bxn}
structure Gdn where
 ev:Int
 bs:List Bxn
def bxC(b:Bxn):List AV:=[sli b.lo,sli b.hi]
abbrev bxV(b:Bxn):AV:=.agg [sli b.lo,sli b.hi]
abbrev bxsV(l:List Bxn):AV:=.fsl (l.flatMap bxC) l.length 2
def gdC(g:Gdn):List AV:=[.int .i64 g.ev,bxsV g.bs]
abbrev gdsV(l:List Gdn):AV:=.fsl (l.flatMap gdC) l.length 2
theorem Qau(l:List Bxn):noRefs (l.flatMap bxC)=true:=Qa5 (fun x=>by simp only[bxC,noRefs,noRef,Qaa];rfl) l
theorem QbM(l):noRef (bxsV l)=true:=by simp only[noRef];exact Qau l
theorem QaO(l:List Gdn):noRefs (l.flatMap gdC)=true:=Qa5 (fun x=>by simp only[gdC,noRefs,noRef,Qau];rfl) l
theorem Qk0(l):noRef (gdsV l)=true:=by simp only[noRef];exact QaO l
theorem QbI(l:List Bxn):(l.flatMap bxC).length=l.length*2:=Qbe (k:=2) (fun _=>rfl) l
theorem Qi5(l:List Gdn):(l.flatMap gdC).length=l.length*2:=Qbe (k:=2) (fun _=>rfl) l
theorem Qfl{l:List Bxn}{x}(h:l[i]?=some x):(l.flatMap bxC).drop (i*2)=sli x.lo::sli x.hi::(l.drop (i+1)).flatMap bxC:=Qba (f:=bxC) (k:=2) (fun _=>rfl) h
theorem QtU{l:List Gdn}{x}(h:l[i]?=some x):(l.flatMap gdC).drop (i*2)=.int .i64 x.ev::bxsV x.bs::(l.drop (i+1)).flatMap gdC:=Qba (f:=gdC) (k:=2) (fun _=>rfl) h
def vrC(x:List UInt8×Int):List AV:=[.str x.1,.int .i64 0,.int .i64 x.2,.int .i64 0]
abbrev vrsV(l:List (List UInt8×Int)):AV:=.fsl (l.flatMap vrC) l.length 4
theorem Qay(l:List (List UInt8×Int)):noRefs (l.flatMap vrC)=true:=Qa5 (fun x=>rfl) l
theorem QaN(l):noRef (vrsV l)=true:=by simp only[noRef];exact Qay l
theorem QgF(l:List (List UInt8×Int)):(l.flatMap vrC).length=l.length*4:=Qbe (k:=4) (fun _=>rfl) l
theorem Qb0(h:l[i]?=some x):(l.flatMap vrC).drop (i*4)=.str x.1::.int .i64 0::.int .i64 x.2::.int .i64 0::(l.drop (i+1)).flatMap vrC:=Qba (f:=vrC) (k:=4) (fun _=>rfl) h
abbrev vr0:List UInt8×Int:=([],0)
abbrev bx0:Bxn:=⟨[],[]⟩
def BxOk(v:List (List UInt8×Int))(b:Bxn):Prop:=b.lo.length=v.length/\b.hi.length=v.length/\∀(j:Nat)x,v[j]?=some x->0<=b.lo.getD j 0/\b.lo.getD j 0<=b.hi.getD j 0/\b.hi.getD j 0<=x.2
def inB(b:Bxn)(t:List Int):Bool:=(List.range t.length).all fun j=>decide (b.lo.getD j 0<=t.getD j 0)&&decide (t.getD j 0<=b.hi.getD j 0)
def inBs(l:List Bxn)(t:List Int):Bool:=l.any fun b=>inB b t
theorem Qe0{j}{x}(a:t[j]?=some x)(h:x<b.lo.getD j 0\/b.hi.getD j 0<x):inB b t=false:=by unfold inB;rw[List.all_eq_false];refine⟨j,Zat.2 (Zaj.1 a).1,?_⟩;rw[QaA a];simp only[Zab,decide_eq_true_eq];omega
theorem QmU(h:∀(j:Nat)x,t[j]?=some x->b.lo.getD j 0<=x/\x<=b.hi.getD j 0):inB b t=true:=by unfold inB;rw[ZaH];intro j a;have:=h j _ (Zak (Zat.1 a));rw[QaA (Zak (Zat.1 a))];simp only[Zab,decide_eq_true_eq];exact this
end Go.AM.SO
namespace Go.AM.UK
open Go.Proofs
set_option maxHeartbeats 4000000
noncomputable section
def cf:YA.Cf:={most:=.pure,always:=[16,84,130,158,182,203].map fun k=>(k,.heap),value:=.pure}
def s10:SFn:=by
 refine(?f:YA.Yt Tryz.prog cf 10 [[0,3],[1,5,6],[4,7,8,9,10]]) ?s ?h;case h=>exact YA.rr
 exact fun s _=>s
def s12:SFn:=by
 refine(?f:YA.Yt Tryz.prog cf 12 [[0,2],[],[1,6,7,8,9,10,11,12],[],[13,14,15],[16,19,20,21,22,23,24,25,26,27,28,29,30,31,32,33,34],[17,18],[3,4,5,35]] [(5,[(0,2),(0,5),(3,5)])]) ?s ?h;case h=>exact YA.rr
 exact fun s _=>s
def s16:SFn:=by
 refine(?f:YA.Yt Tryz.prog cf 16 [[4],[6,7,8,9],[0,1,10],[4,10],[11,12,13],[14,17,18,19,20,21,22,23,24,25,26,27,28],[0,1,5,40,39,33,38,37,36,34,35,32,31,29,30,41],[4,41,15,16],[0,1,5,40,39,33,38,37,36,34,35,32,31,29,30]]) ?s ?h;case h=>exact YA.rr
 exact fun s _=>s
def s43:SFn:=by
 refine(?f:YA.Yt Tryz.prog cf 43 [[0,2],[],[1,6,7],[],[8,9,10],[11,14,15,16,17,18,19,20,21],[12,13],[3,4,5,22]]) ?s ?h;case h=>exact YA.rr
 exact fun s _=>s
def s44:SFn:=by
 refine(?f:YA.Yt Tryz.prog cf 44 [[0,2,3],[9,10],[11],[1,4,12,13],[2,3,1,4,12,14,15],[],[],[],[19,20,21],[8,22,23,24,25,26],[27],[5,6,16,17,18,28],[2,3,28,29],[5,6,16,17,18,30]]) ?s ?h;case h=>exact YA.rr
 exact fun s _=>s
def s54:SFn:=by
 refine(?f:YA.Yt Tryz.prog cf 54 [[4],[0,1,5,6,7]]) ?s ?h;case h=>exact YA.rr
 exact fun s _=>s
def s87:SFn:=by
 refine(?f:YA.Yt Tryz.prog cf 87 [[0,4],[],[6,7,8],[9,12,13,14,15,16,17,18,19,20,21,22],[1,2,5,32,26,31,30,28,29,27,25,23,24,33],[4,33,10,11],[1,2,5,32,26,31,30,28,29,27,25,23,24]]) ?s ?h;case h=>exact YA.rr
 exact fun s _=>s
def s99:SFn:=by
 refine(?f:YA.Yt Tryz.prog cf 99 [[0,2],[],[1,6,7,8,9,10],[],[14,15,16],[5,17,18,19,20,21,22,23,24,25,26],[27],[3,11,12,13,28]]) ?s ?h;case h=>exact YA.rr
 exact fun s _=>s
def s124:SFn:=by
 refine(?f:YA.Yt Tryz.prog cf 124 [[4],[6,7,8,9],[0,1,10],[4,10],[11,12,13],[14,17,18,19,20,21,22,23,24,25,26,27,28,29],[0,1,5,41,40,34,39,38,37,35,36,33,32,30,31,42],[4,42,15,16],[0,1,5,41,40,34,39,38,37,35,36,33,32,30,31]]) ?s ?h;case h=>exact YA.rr
 exact fun s _=>s
def s130:SFn:=by
 refine(?f:YA.Yt Tryz.prog cf 130 [[4],[0,1,5,6,7,8]]) ?s ?h;case h=>exact YA.rr
 exact fun s _=>s
def s158:SFn:=by
 refine(?f:YA.Yt Tryz.prog cf 158 [[2],[],[],[],[12,13,14],[5,15,16,17,18],[19],[20,21],[20,22],[3,9,10,11,23,24],[0],[],[28,29,30],[8,31,32,33],[34],[6,25,26,27,35]]) ?s ?h;case h=>exact YA.rr
 exact fun s _=>s
def s182:SFn:=by
 refine(?f:YA.Yt Tryz.prog cf 182 [[4],[6],[],[9,10],[11,12,13,14,15],[0,1,7,8,5,16,17],[4,5,16,18],[0,1,7,8]]) ?s ?h;case h=>exact YA.rr
 exact fun s _=>s
def s203:SFn:=by
 refine(?f:YA.Yt Tryz.prog cf 203 [[4],[5],[6,7],[6,8,9,10,11,12,13,14],[15],[1,16,17,18,19,20,21,22,23,24,25],[0,1,16,26]]) ?s ?h;case h=>exact YA.rr
 exact fun s _=>s
end
end Go.AM.UK
namespace Go.AM.SO
open Go.Proofs Go.AM.SD Go.AM.SE
theorem _root_.Go.AM.Zc0{p q:Prop}(k:q)(h:p=q:=by conv=>lhs;simp(disch:=first|omega|exact PairsOK.mk rfl|(simp only[lenW]<;>omega))only[wW,wV,simprocAttr]):p:=h▸k
theorem _root_.Go.AM.Zc1{p q A:Prop}(a:A)(k:q)(h:A->p=q:=by intro a;conv=>lhs;simp(disch:=first|omega|exact PairsOK.mk rfl|(simp only[lenW]<;>omega))only[a,wW,wV,simprocAttr]):p:=h a▸k
theorem cpcP{P}{N}{r}{dead}{fs}{n}{T}{h}{Q}{d}{f}{args a c}{v}(hp:PSpec P f (a++args++c) v)(k:wR P N r dead fs (n+1) (putD T d v) h Q):wCall P N .pure (.fn f a c) args d r dead fs n T h Q:=⟨v,by simpa using hp,k⟩
theorem _root_.Go.AM.au3{p:Prop}(h:p:=by repeat'(first|exact Zcv|(refine Zcl ?_;first|rfl|(simp only[noRef,noRefs,SD.Qaa,SD.Qab,SD.Qaf,SD.Qag,SD.Qah,SD.Qai,SD.Qaj,SD.Qal,SD.Qan,SD.Qaq,SO.QaO,SO.Qau,SO.Qay,Zad,Zae,Zag];done))|exact ZcJ rfl|exact ZcB|exact(True.intro:RnM _ _ _ [] [])|refine ZcC ?_ ?_|(refine Zck ?_;first|rfl|(simp only[noRef,noRefs,SD.Qaa,SD.Qab,SD.Qaf,SD.Qag,SD.Qah,SD.Qai,SD.Qaj,SD.Qal,SD.Qan,SD.Qaq,SO.QaO,SO.Qau,SO.Qay,Zad,Zae,Zag];done))|exact Rn.x1 rfl rfl|exact Rn.x2 rfl rfl|exact Rn.x3 rfl rfl|exact Rn.x4 rfl rfl|exact Rn.x5 rfl|exact Rn.x6 rfl|exact Rn.x7 rfl|refine Zcx rfl rfl ?_|refine Zcw rfl rfl rfl ?_ ?_|refine Zcy rfl rfl rfl ?_ ?_|refine Zcz rfl rfl ?_ ?_|refine ZcA rfl rfl ?_ ?_)):p:=h
theorem _root_.Go.AM.au4{p:Prop}(h:p:=by repeat(first|exact Zct|(refine Zcu ?_ ?_;·(first|exact Zcj|exact Rn.x1 rfl rfl|exact Rn.x2 rfl rfl|exact Rn.x3 rfl rfl|exact Rn.x4 rfl rfl|exact Rn.x5 rfl|exact Rn.x6 rfl|exact Rn.x7 rfl|(refine ZcF ?_ ?_;(first|rfl|(rw[ZaG];rfl));(first|rfl|(simp only[noRef,noRefs,SD.Qaa,SD.Qab,SD.Qaf,SD.Qag,SD.Qah,SD.Qai,SD.Qaj,SD.Qal,SD.Qan,SD.Qaq,SO.QaO,SO.Qau,SO.Qay,Zad,Zae,Zag];done)))|(refine Rn.fn ?_ ?_<;>(repeat'(first|exact ZcB|refine ZcC ?_ ?_|exact Zck rfl|exact Rn.x6 rfl|exact Rn.x2 rfl rfl|exact Rn.x5 rfl|exact Rn.x1 rfl rfl))))))):p:=h
theorem within87(b)(t)(h1:b.lo.length=t.length)(r:b.hi.length=t.length)(s:t.length<=9223372036854775807):Ps 87 [bxV b,sli t] (.bool (inB b t)):=by
 refine Zcn 64 (Ok UK.s87) rfl (by simp only[noRefs,noRef,Qaa];rfl) rfl ?_;unfold UK.s87;refine Zc0 ?_;refine QaC 100 (fun i:Nat=>[(1,sli t),(2,.ptr 51 0 0),(5,.int .i64 i)]) (fun _=>[(51,.cells 0 [sli b.lo,sli b.hi])]) (fun i=>i<=t.length/\∀(j:Nat)x,j<i->t[j]?=some x->b.lo.getD j 0<=x/\x<=b.hi.getD j 0) (fun i=>t.length-i) 0 ⟨[(51,.blk 64 0)],rfl,au0,au3,au4⟩ ⟨Zai _,fun j x o=>absurd o (ZaD _)⟩ ?_;rintro i⟨hi,m⟩;by_cases a:i<t.length
 ·obtain⟨x,g⟩:=Qak a;obtain⟨p,hp⟩:=Qak (l:=b.lo) (i:=i) (by omega);obtain⟨q,h⟩:=Qak (l:=b.hi) (i:=i) (by omega);have d:i<b.lo.length:=by omega
  have c:i<b.hi.length:=by omega
  have l:b.lo.getD i 0=p:=QaA hp;have n:b.hi.getD i 0=q:=QaA h;by_cases k:x<p;·refine Zc1 (Zc7 a d c (QaI g) (QaI hp) (QaI h) k) ?_;exact⟨.inr trivial,_,rfl,by rw[Qe0 g (.inl (by rw[l];exact k))];rfl⟩
  by_cases b2:q<x;·refine Zc1 (Zc8 a d c (QaI g) (QaI hp) (QaI h) k b2) ?_;exact⟨.inr trivial,_,rfl,by rw[Qe0 g (.inr (by rw[n];exact b2))];rfl⟩
  refine Zc1 (Zc8 a d c (QaI g) (QaI hp) (QaI h) k b2) ?_;refine⟨i+1,by omega,⟨by omega,fun j y o f=>?_⟩,⟨[(51,.blk 51 0)],rfl,au0,au3,au4⟩⟩;by_cases e:j=i;·subst e;rw[g]at f;cases f;rw[l,n];omega
  exact m j y (by omega) f
 exact b7Sxb
end Go.AM.SO
namespace Go.AM.SK
open Go.Proofs
set_option maxHeartbeats 4000000
noncomputable section
def cf:YA.Cf:={}
noncomputable def ft:FT2:=YA.tre Tryz.prog cf 20 [45,52,64,66,77,78,83,86,91,95,98,100,101,102,113,114,115,116,117,129,132,133,144,147,148,149,151,152,154,155,156,157,159,160,161,162,163,164,165,169,170,171,172,173,174,175,179,183,188,191,192,193,194,195,196,197,198,199,200,201,202,204,205,206,216,217,218,219,220,221,222,223,224,234,236,239,245,251,252,253,254,259,260,261,262,263,264,265,266,267,276,277,278,279,283]
theorem ft_ok:ft.OK Tryz.prog:=YA.QgE _ _ (YA.QfN (by kernel_rfl))
end
end Go.AM.SK
namespace Go.AM.SU
open Go.Proofs
set_option maxHeartbeats 4000000
noncomputable section
def cf:YA.Cf:={always:=[95,150].map fun k=>(k,.pure)}
def s42:SFn:=⟨192,[.cell 2 (some 5)],(.seq (.region [Zz 1 (.box .dyn (.t 0)) [],Zz 2 (.alloc .dyn (.agg [.nilsl,.nilsl,.nilsl,.nilsl,.nilsl])) []] [] [0]) (.seq (.region [Zf 17 0 1 [],Zw 18 5 17 [0],Zz 19 (.call .pure (.f 89) [(.t 18)]) [1],Zz 20 (.build [.nilsl,.nilsl,.nilsl,.nilsl,.nilsl] [(0,1,(.t 19))]) [2],Zz 3 (.alloc .dyn (.agg [.nilsl,.nilsl,.nilsl,.nilsl,.nilsl])) [],Zs 5 3 20 (Za [4,3,2] 5)] [] [17,18,19,20]) (.seq (.region [Zz 4 (.alloc .dyn .nilsl) []] [] []) (.seq (.region [Zf 21 5 1 [],Zl 22 21 [0],Zz 23 (.bin .rem (.t 22) (.c (.int .u8 3))) [1],Zz 24 (.conv .i64 (.t 23)) [2],Zz 25 (.bin .add (.c (.int .i64 1)) (.t 24)) [3],Zm 5 25 (Za [4] 5)] [] [21,22,23,24,25]) (.seq (.seq (.region [Zm 26 5 [],Zz 27 (.mov (.c (.int .i64 0))) []] [] []) (.block 0 (.loop (.seq (.region [Zb 28 .lss 27 26 []] [] []) (.seq (.cond (.t 28) .skip (.exit 0)) (.seq (.block 1 (.seq (.region [Zm 29 27 [],Zm 6 29 [0,0]] [] [28,29]) (.seq (.region [Zm 30 6 [],Zf 31 6 1 [],Zz 32 (.iaddr (some 3) 1 (.t 31) (.t 30)) [1,0],Zl 33 32 [2],Zz 34 (.call .pure (.f 90) [(.t 33)]) [3],Zm 7 34 (Za [4,4] 5)] [] [30,31,32,33,34]) (.seq (.region [Zl 35 4 [],Zm 36 7 [],Zz 37 (.call .pure (.f 91) [(.t 35),(.t 36)]) [0,1],Zs 1 4 37 [2,2,0,1,2]] [] [35,36,37]) (.region [Zf 38 1 3 [],Zl 39 38 [0],Zm 40 6 [],Zz 41 (.bin .add (.c (.int .i64 48)) (.t 40)) [2],Zz 42 (.conv .i32 (.t 41)) [3],Zz 43 (.convS (.t 42)) [4],Zz 44 (.bin .add (.c (.str [99])) (.t 43)) [5],Zm 45 7 [],Zm 46 6 [],Zf 47 9 1 [],Zz 48 (.iaddr (some 3) 27 (.t 47) (.t 46)) [9,8],Zw 49 27 48 [10],Zz 50 (.call .pure (.f 92) [(.t 45),(.t 49),(.c (.int .i64 3))]) [7,11],Zz 51 (.build [(.str []),.nilsl,(.int .i64 0),.nilsl,.nilsl] [(0,1,(.t 44)),(1,4,(.t 50))]) [6,12],Zz 52 (.bslice false .dyn 5 1 [(.str []),.nilsl,(.int .i64 0),.nilsl,.nilsl] [(0,5,(.t 51))]) [13],Zz 53 (.append .dyn 5 96 (.t 39) (.t 52)) [1,14,12],Zf 54 1 3 (Za [] 16),Zs 1 54 53 (Za [16,15,15] 16)] [] [6,7,38,39,40,41,42,43,44,45,46,47,48,49,50,51,52,53,54]))))) (.region [Zz 55 (.bin .add (.t 27) (.c (.int .i64 1))) [],Zm 27 55 [0]] [] [55]))))))) (.seq (.seq (.region [Zf 56 90 1 [],Zl 57 56 [0],Zz 58 (.bin .rem (.t 57) (.c (.int .u8 3))) [1],Zz 59 (.conv .i64 (.t 58)) [2],Zz 60 (.mov (.c (.int .i64 0))) []] [] [26,27,56,57,58]) (.block 2 (.loop (.seq (.region [Zb 61 .lss 60 59 []] [] []) (.seq (.cond (.t 61) .skip (.exit 2)) (.seq (.block 3 (.seq (.region [Zm 62 60 [],Zm 8 62 [0,0]] [] [61,62]) (.seq (.region [Zm 63 8 [],Zf 64 91 1 [],Zz 65 (.iaddr (some 2) 1 (.t 64) (.t 63)) [1,0],Zl 66 65 [2],Zz 67 (.call .heap (.f 90) [(.t 66)]) [3],Zz 68 (.mkfn 94 [] [(.t 4)]) [],Zz 69 (.call .heap (.f 93) [(.t 67),(.t 68)]) [4,5,4],Zm 9 69 (Za [6,6] 7)] [] [63,64,65,66,67,68,69]) (.region [Zf 70 2 3 [],Zl 71 70 [0],Zm 72 8 [],Zz 73 (.bin .add (.c (.int .i64 48)) (.t 72)) [2],Zz 74 (.conv .i32 (.t 73)) [3],Zz 75 (.convS (.t 74)) [4],Zz 76 (.bin .add (.c (.str [114])) (.t 75)) [5],Zm 77 9 [],Zm 78 8 [],Zf 79 93 1 [],Zz 80 (.iaddr (some 2) 27 (.t 79) (.t 78)) [9,8],Zw 81 27 80 [10],Zz 82 (.call .pure (.f 92) [(.t 77),(.t 81),(.c (.int .i64 3))]) [7,11],Zz 83 (.build [(.str []),.nilsl,(.int .i64 0),.nilsl,.nilsl] [(0,1,(.t 76)),(1,4,(.t 82))]) [6,12],Zz 84 (.bslice false .dyn 5 1 [(.str []),.nilsl,(.int .i64 0),.nilsl,.nilsl] [(0,5,(.t 83))]) [13],Zz 85 (.append .dyn 5 96 (.t 71) (.t 84)) [1,14,12],Zf 86 2 3 (Za [] 16),Zs 1 86 85 (Za [16,15,15] 16)] [] [8,9,70,71,72,73,74,75,76,77,78,79,80,81,82,83,84,85,86])))) (.region [Zz 87 (.bin .add (.t 60) (.c (.int .i64 1))) [],Zm 60 87 [0]] [] [87]))))))) (.seq (.seq (.region [Zf 88 147 1 [],Zl 89 88 [0],Zv 90 89 [1],Zz 91 (.mov (.c (.int .i64 0))) []] [] [4,59,60,88]) (.block 4 (.loop (.seq (.region [Zb 92 .lss 91 90 []] [] []) (.seq (.cond (.t 92) .skip (.exit 4)) (.seq (.block 5 (.seq (.region [Zm 93 91 [],Zi 94 4 89 91 [],Zw 95 4 94 [1],Zz 11 (.alloc .dyn (.agg [(.int .u8 0),(.int .u8 0),(.int .u8 0),(.int .u8 0)])) [],Zm 10 93 [0,0,1,2,3],Zs 4 11 95 (Za [3,2,4] 5)] [] [92,93,94,95]) (.seq (.seq (.region [Zm 96 10 [],Zz 97 (.bin .eql (.t 96) (.c (.int .i64 2))) [0]] [] [96]) (.cond (.t 97) (.exit 4) .skip)) (.seq (.region [Zm 98 10 [],Zz 99 (.bin .add (.c (.int .i64 48)) (.t 98)) [0],Zz 100 (.conv .i32 (.t 99)) [1],Zz 101 (.convS (.t 100)) [2],Zz 102 (.bin .add (.c (.str [101])) (.t 101)) [3],Zz 103 (.build [(.str []),.nilsl] [(0,1,(.t 102))]) [4],Zz 12 (.alloc .dyn (.agg [(.str []),.nilsl])) [],Zs 2 12 103 (Za [6,5] 7)] [] [10,97,98,99,100,101,102,103]) (.seq (.seq (.region [Zf 104 1 3 [],Zl 105 104 [0],Zv 106 105 [1],Zz 107 (.mov (.c (.int .i64 0))) []] [] [104,105]) (.block 6 (.loop (.seq (.region [Zb 108 .lss 107 106 []] [] []) (.seq (.cond (.t 108) .skip (.exit 6)) (.seq (.block 7 (.seq (.region [Zm 109 107 [],Zm 13 109 [0,0]] [] [108,109]) (.seq (.region [Zf 110 1 3 [],Zl 111 110 [0],Zm 112 13 [],Zi 113 5 111 112 [1,2],Zf 114 1 113 [3],Zf 115 1 114 [4],Zl 116 115 [5],Zm 14 116 (Za [6] 7)] [] [110,111,112,113,114,115,116]) (.seq (.region [Zm 117 13 [],Zz 118 (.iaddr (some 4) 1 (.t 11) (.t 117)) [0],Zl 119 118 [1],Zz 120 (.conv .i64 (.t 119)) [2],Zm 121 14 [],Zz 122 (.bin .add (.t 121) (.c (.int .i64 2))) [4],Zb 123 .rem 120 122 [3,5],Zm 124 14 [],Zb 125 .lss 123 124 [6,7]] [] [117,118,119,120,121,122,123,124]) (.cond (.t 125) (.region [Zf 126 1 12 [],Zl 127 126 [0],Zm 128 13 [],Zm 129 13 [],Zz 130 (.iaddr (some 4) 1 (.t 11) (.t 129)) [3],Zl 131 130 [4],Zz 132 (.conv .i64 (.t 131)) [5],Zm 133 14 [],Zz 134 (.bin .add (.t 133) (.c (.int .i64 2))) [7],Zb 135 .rem 132 134 [6,8],Zz 136 (.build [(.int .i64 0),(.int .i64 0)] [(0,1,(.t 128)),(1,1,(.t 135))]) [2,9],Zz 137 (.bslice false .dyn 2 1 [(.int .i64 0),(.int .i64 0)] [(0,2,(.t 136))]) [10],Zz 138 (.append .dyn 2 16 (.t 127) (.t 137)) [1,11],Zf 139 1 12 (Za [] 13),Zs 1 139 138 (Za [13,12,12] 13)] [] [13,14,125,126,127,128,129,130,131,132,133,134,135,136,137,138,139]) .skip))))) (.region [Zz 140 (.bin .add (.t 107) (.c (.int .i64 1))) [],Zm 107 140 [0]] [] [13,14,125,140]))))))) (.seq (.region [Zf 141 1 12 [],Zl 142 141 [0],Zv 143 142 [1],Zz 144 (.bin .gtr (.t 143) (.c (.int .i64 0))) [2]] [] [11,106,107,141,142,143]) (.cond (.t 144) (.region [Zf 145 3 3 [],Zl 146 145 [0],Zw 147 2 12 [],Zz 148 (.bslice false .dyn 2 1 [(.str []),.nilsl] [(0,2,(.t 147))]) [2],Zz 149 (.append .dyn 2 40 (.t 146) (.t 148)) [1,3],Zf 150 3 3 (Za [] 5),Zs 1 150 149 (Za [5,4,4] 5)] [] [12,144,145,146,147,148,149,150]) .skip))))))) (.region [Zz 151 (.bin .add (.t 91) (.c (.int .i64 1))) [],Zm 91 151 [0]] [] [12,144,151]))))))) (.seq (.region [Zf 152 151 1 [],Zl 153 152 [0],Zz 154 (.conv .i64 (.t 153)) [1],Zz 155 (.bin .rem (.t 154) (.c (.int .i64 8))) [2],Zz 156 (.build [(.str []),.nilsl,(.int .i64 0)] [(0,1,(.c (.str [107]))),(2,1,(.t 155))]) [3],Zz 15 (.alloc .dyn (.agg [(.str []),.nilsl,(.int .i64 0)])) [],Zs 3 15 156 (Za [5,4] 6)] [] [89,90,91,152,153,154,155,156]) (.seq (.seq (.region [Zm 157 5 [],Zz 158 (.mov (.c (.int .i64 0))) []] [] [5]) (.block 8 (.loop (.seq (.region [Zb 159 .lss 158 157 []] [] []) (.seq (.cond (.t 159) .skip (.exit 8)) (.seq (.block 9 (.seq (.region [Zm 160 158 [],Zm 16 160 [0,0]] [] [159,160]) (.seq (.region [Zm 161 16 [],Zf 162 148 1 [],Zz 163 (.iaddr (some 3) 1 (.t 162) (.t 161)) [1,0],Zl 164 163 [2],Zz 165 (.bin .neq (.t 164) (.c (.int .i8 0))) [3]] [] [161,162,163,164]) (.cond (.t 165) (.region [Zf 166 1 15 [],Zl 167 166 [0],Zm 168 16 [],Zm 169 16 [],Zf 170 148 1 [],Zz 171 (.iaddr (some 3) 1 (.t 170) (.t 169)) [4,3],Zl 172 171 [5],Zz 173 (.conv .i64 (.t 172)) [6],Zz 174 (.bin .rem (.t 173) (.c (.int .i64 4))) [7],Zz 175 (.build [(.int .i64 0),(.int .i64 0)] [(0,1,(.t 168)),(1,1,(.t 174))]) [2,8],Zz 176 (.bslice false .dyn 2 1 [(.int .i64 0),(.int .i64 0)] [(0,2,(.t 175))]) [9],Zz 177 (.append .dyn 2 16 (.t 167) (.t 176)) [1,10],Zf 178 1 15 (Za [] 12),Zs 1 178 177 (Za [12,11,11] 12)] [] [16,165,166,167,168,169,170,171,172,173,174,175,176,177,178]) .skip)))) (.region [Zz 179 (.bin .add (.t 158) (.c (.int .i64 1))) [],Zm 158 179 [0]] [] [16,165,179]))))))) (.seq (.region [Zf 180 1 15 [],Zl 181 180 [0],Zz 182 (.call .heap (.f 96) [(.t 181),(.f 97)]) [1],Zf 183 1 15 [0,1,2],Zs 1 183 182 [3,2,2,0,1,2]] [] [1,157,158,180,181,182,183]) (.seq (.seq (.region [Zf 184 1 15 [],Zl 185 184 [0],Zv 186 185 [1],Zz 187 (.bin .gtr (.t 186) (.c (.int .i64 0))) [2]] [] [184,185,186]) (.cond (.t 187) (.region [Zw 188 3 15 [],Zz 189 (.bslice false .dyn 3 1 [(.str []),.nilsl,(.int .i64 0)] [(0,3,(.t 188))]) [0],Zf 190 4 3 [0,1],Zs 1 190 189 [2,1,0,1]] [] [15,187,188,189,190]) .skip)) (.seq (.region [Zw 191 5 3 [],Zs 5 2 191 [0,0]] [] [3,15,187,191]) .ret))))))))))))⟩
def s93:SFn:=by
 refine(?f:YA.Yt Tryz.prog cf 93 [[4],[8,9,10],[11],[0,1,5,12,13],[4,12,14,15],[16,17,18],[19,22,23,24,25],[26,27,28],[7,29,30,31,32,33],[34,35],[7,29,20,21],[1,6,36,37,38],[0,5,39,40,41]]) ?s ?h;case h=>exact YA.rr
 exact fun s _=>s
def s92:SFn:=by
 refine(?f:YA.Yt Tryz.prog cf 92 [[1],[2,7,8,9,10,11,12],[0,4,13,14,15]]) ?s ?h;case h=>exact YA.rr
 exact fun s _=>s
def s94:SFn:=by
 refine(?f:YA.Yt Tryz.prog cf 94 [[3],[0,1,4,5,6,7]]) ?s ?h;case h=>exact YA.rr
 exact fun s _=>s
def s96:SFn:=by
 refine(?f:YA.Yt Tryz.prog cf 96 [[4],[8,9,10],[11],[0,1,5,12,13],[4,12,14,15],[16,17,18],[19,22,23,24,25],[26,27,28],[7,29,30,31,32,33],[34,35],[7,29,20,21],[1,6,36,37,38],[0,5,39,40,41]]) ?s ?h;case h=>exact YA.rr
 exact fun s _=>s
def s97:SFn:=by
 refine(?f:YA.Yt Tryz.prog cf 97 [[0,2],[1,3,4,5]]) ?s ?h;case h=>exact YA.rr
 exact fun s _=>s
def s151:SFn:=by
 refine(?f:YA.Yt Tryz.prog cf 151 [[4],[6],[],[9,10],[11,12,13,14,15],[0,1,7,8,5,16,17],[4,5,16,18],[0,1,7,8]]) ?s ?h;case h=>exact YA.rr
 exact fun s _=>s
def s153:SFn:=by
 refine(?f:YA.Yt Tryz.prog cf 153 [[4],[6],[],[9,10],[11,12,13,14,15],[0,1,7,8,5,16,17],[4,5,16,18],[0,1,7,8]]) ?s ?h;case h=>exact YA.rr
 exact fun s _=>s
end
end Go.AM.SU
namespace Go.AM
variable{P:Program}
variable{h:Heap}{b m:Nat}{f:Nat->List AV}{π:Nat->Option Src}{s:Nat->Src}
def rowsL(f:Nat->List AV)(ks:List Nat):HL:=ks.map fun k=>(300+k,.cells 0 (f k))
def psL(s:Nat->Src)(ks:List Nat):List (Nat×Src):=ks.map fun k=>(300+k,s k)
theorem QcG:∀{ks:List Nat},ks.Nodup->(∀k∈ks,k<1000000)->∀{k:Nat},k∈ks->(hp (rowsL f ks)).get (300+k)=some (.cells 0 (f k))
 |[],_,_,k,h=>by cases h|j::ks,b,a,k,h=>by
  have d:=a j (by simp);show((hp (rowsL f ks)).set (300+j) _).get (300+k)=_;by_cases e:k=j;·grind[QaE]
  rw[QaL (by omega) (by omega)];exact QcG (Zcb.1 b).2 (fun k c=>a k (by simp[c])) (by simp_all)
theorem QfO:∀{ks:List Nat},(∀k∈ks,k<1000000)->∀{b:Nat},(∀k∈ks,b≠300+k)->(hp (rowsL f ks)).get b=none|[],_,b,_=>get_e|j::ks,c,b,h=>by have d:=c j (by simp);show((hp (rowsL f ks)).set (300+j) _).get b=_;rw[QaL (by omega) (h j (by simp))];exact QfO (fun k a=>c k (by simp[a])) (fun k a=>h k (by simp[a]))
theorem Qcy{g}:∀{ks:List Nat},(∀k∈ks,∀a c,s k=.blk a c->b≠a)->srcNew (.blk b g) (psL s ks)=true|[],_=>rfl|j::ks,h=>by show((match(Src.blk b g),s j with|.blk b _,.blk a _=>!Nat.beq b a|_,_=>true)&&srcNew (.blk b g) (psL s ks))=true;rw[Qcy fun k d=>h k (by simp[d]),Zad];cases e:s j with|nil=>rfl|blk a c=>
 have:=h j (by simp) a c e;have f:Nat.beq b a=false:=by simp_all[ZaJ]
 simp[f]
theorem QfP:∀{ks:List Nat},srcNew .nil (psL s ks)=true|[]=>rfl|j::ks=>by show((match Src.nil,s j with|.blk b _,.blk a _=>!Nat.beq b a|_,_=>true)&&srcNew .nil (psL s ks))=true;rw[QfP];rfl
theorem Qd3:∀{ks:List Nat},ks.Nodup->(∀k∈ks,k<1000000)->(∀k∈ks,∀j∈ks,k≠j->∀b g c d,s k=.blk b g->s j=.blk c d->b≠c)->okPs 0 (psL s ks) (rowsL f ks)=true
 |[],_,_,_=>rfl|j::ks,n,h,l=>by
  have p:=h j (by simp);obtain⟨h1,o⟩:=Zcb.1 n;show okPs 0 ((300+j,s j)::psL s ks) ((300+j,.cells 0 (f j))::rowsL f ks)=true;simp only[okPs,Zab,Zb0,ZbT,Zbh,ZaH];refine⟨⟨⟨⟨trivial,by omega⟩,.inr ⟨?_,?_⟩⟩,?_⟩,Qd3 o (fun k a=>h k (by simp[a])) (fun k a i hi=>l k (by simp[a]) i (by simp[hi]))⟩;·cases s j with|nil=>rfl|blk b g=>simp
  ·cases e:s j with|nil=>exact QfP|blk b g=>exact Qcy fun k a c d m=>l j (by simp) k (by simp[a]) (fun e=>h1 (e▸a)) b g c d e m
  rintro⟨b,x⟩hp;obtain⟨k,a,e⟩:=Zap.1 hp;cases e;have:k≠j:=fun e=>h1 (e▸a);simp_all[ZaJ]
theorem Qig:∀{ks:List Nat}{k:Nat},k∈ks->lkS (psL s ks) (300+k)=some (s k)
 |[],k,h=>by cases h|j::ks,k,h=>by
  show(if 300+k=300+j then some (s j)else lkS (psL s ks) (300+k))=_;by_cases e:k=j;·subst e;simp
  rw[if_neg (by omega)];exact Qig (by simp_all)
theorem QdJ:∀{ks:List Nat},(∀k∈ks,RB m π h [(300+k,.cells 0 (f k))])->RB m π h (rowsL f ks)|[],_=>trivial|j::ks,a=>⟨(a j (by simp)).1,QdJ fun k h=>a k (by simp[h])⟩
mutual theorem QhN:∀v:AV,flatV v=true->noRef v=true|.any,_=>rfl|.bool _,_=>rfl|.int _ _,_=>rfl|.str _,_=>rfl|.agg cs,h=>by simp only[flatV]at h;simp only[noRef];exact Qb8 cs h|.tup cs,h=>by simp only[flatV]at h;simp only[noRef];exact Qb8 cs h|.nilptr,_=>rfl|.ptr _ _ _,h=>by simp[flatV]at h|.fptr _,h=>by simp[flatV]at h|.nilsl,_=>rfl|.sl _ _ _ _ _,h=>by simp[flatV]at h|.fsl _ _ _,h=>by simp[flatV]at h|.esl,_=>rfl|.nsl,_=>rfl|.nilmap,_=>rfl|.map _ _,h=>by simp[flatV]at h|.fmap _ _,h=>by simp[flatV]at h|.nilfn,_=>rfl|.fn f x y,h=>by simp only[flatV,Zab]at h;simp only[noRef,Zab];exact⟨Qb8 x h.1,Qb8 y h.2⟩|.nilif,_=>rfl|.ifc t v,h=>by simp only[flatV]at h;simp only[noRef];exact QhN v h|.typed _ _ _,h=>by simp[flatV]at h theorem Qb8:∀l:List AV,flatVs l=true->noRefs l=true|[],_=>rfl|x::l,h=>by simp only[flatVs,Zab]at h;simp only[noRefs,Zab];exact⟨QhN x h.1,Qb8 l h.2⟩end
theorem FSpec.QbC{f len sz}{args cs}(m:HSpec P f args .e (.sl b 0 0 len sz) (hp [(b,.cells 0 cs)]))(u:noRefs args=true)(hf:flatVs cs=true)(s:cs.length=len*sz)(o:Nat.blt b 1099511627775=true):FSpec P f args (.fsl cs len sz):=by
 obtain⟨hc,m⟩:=m;refine⟨hc,u,by simp_all[noRef,Qb8],fun F w d r c=>(m (only F) w d (HRel.only r) c).mono ?_⟩;rintro e t⟨q,n,rfl,E,H',V⟩;have i:∀k,n.O k->w.heap.size<=k:=fun k l=>(E.own k l).elim (fun h=>h.elim) id;refine⟨q,n.O,rfl,?_,fun k l=>⟨i k l,H'.inO k l⟩,RnO.sl (h:=hp [(b,.cells 0 cs)]) (by simp_all[hp,QaE]) hf s _ n t q H' V⟩;refine⟨E.os,E.tape,E.output,E.size,E.shape,fun k a _=>E.keep k a (fun h=>h),fun b g p o=>absurd o (ZaD _),fun k a=>.inl a,fun k a=>?_,fun k a=>a.elim,rfl⟩;rcases a with a|a;·exact .inl a
 simp_all
end Go.AM
namespace Go.AM
variable{v:AV}{x:Blk}{L:HL}{h:Heap}{i:List (Nat×Nat)}{a:List (Nat×Src)}{fs:List Fr}{dead g ks:List Nat}{ops:List SOper}{N:NM}{b k n:Nat}{f:Nat->List AV}{s:Nat->Src}{p:Nat×Src}{ax:Opd->Option (List Nat)}{Q:QC}{T T0:Tmps}
theorem Qfb{g c d}(f:b≠k)(h:srcNew (.blk b g) a=true):srcNew (.blk b g) ((c,.blk k d)::a)=true:=by simp_all[ZaJ,srcNew]
theorem QgG{g}(i:b<1099511627775)(d:srcNew (.blk k g) a=true)(c:∀p∈a,p.1≠b)(h:okPs 0 a L=true):okPs 0 ((b,.blk k g)::a) ((b,x)::L)=true:=by
 simp only[okPs,Zab,Zb0,ZbT,Zbh,ZaH];refine⟨⟨⟨⟨trivial,by omega⟩,.inr ⟨by simp,d⟩⟩,fun p hp=>?_⟩,h⟩;have f:Nat.beq p.1 b=false:=by rw[ZaJ];simpa using c p hp
 simp[f]
theorem Qe1(h:p∈psL s ks):300<=p.1:=by obtain⟨k,_,rfl⟩:=Zap.1 h;simp
theorem QfQ{x1 x2 x3}{i m l r t u}(y:ks.Nodup)(w:∀k∈ks,k<1000000)(x:∀k∈ks,∀j∈ks,k≠j->∀b g c d,s k=.blk b g->s j=.blk c d->b≠c)(a:∀k∈ks,∀b g,s k=.blk b g->i≠b/\m≠b/\l≠b)(n:i≠m)(q:i≠l)(o:m≠l):okPs 0 ((70,.blk i r)::(71,.blk m t)::(72,.blk l u)::psL s ks) ((70,x1)::(71,x2)::(72,x3)::rowsL f ks)=true:=by
 have z:=Qcy (b:=i) (g:=r) (s:=s) (ks:=ks) fun k h c d e=>(a k h c d e).1;have v:=Qcy (b:=m) (g:=t) (s:=s) (ks:=ks) fun k h c d e=>(a k h c d e).2.1;have A:=Qcy (b:=l) (g:=u) (s:=s) (ks:=ks) fun k h c d e=>(a k h c d e).2.2;refine QgG (by omega) (Qfb n (Qfb q z)) ?_ (QgG (by omega) (Qfb o v) ?_ (QgG (by omega) A ?_ (Qd3 y w x)))
 ·intro p hp;simp only[Zax]at hp;rcases hp with rfl|rfl|hp;·simp
  ·simp
  grind[Qe1]
 ·intro p hp;simp only[Zax]at hp;rcases hp with rfl|hp;·simp
  grind[Qe1]
 intro p hp;grind[Qe1]
theorem Qci{q1 q2 b}(a:k∈ks):ow 0 ((70,q1)::(71,q2)::(72,b)::psL s ks) (300+k)=some (s k):=by unfold ow;rw[if_neg (ZaD _)];simp only[lkS];rw[if_neg (by omega),if_neg (by omega),if_neg (by omega)];exact Qig a
variable{P:Program}
abbrev Claims:=List (Nat×List Nat)
variable{C:Claims}
def clm:Claims->Nat->Option (List Nat)|[],_=>none|(j,a)::r,d=>bif Nat.beq j d then some a else clm r d
def absH(C:Claims)(d:Nat)(a:Option (List Nat)):Option (List Nat):=match clm C d with|some b=>some b|none=>a
def touch2(i:Nat)(ax:Opd->Option (List Nat)):SOp->Option (List Nat)|.call .pure _ _=>some []|s=>s.touch i ax
theorem QeM{i}{s}{h1}{f}(d:∀x bs,ax x=some bs->Pts (ev T x) bs)(n:touch2 i ax s.op=some g)(l:StepV P i s T h v h1 f):f.all=false/\∀b,b∈f.R\/b∈f.W->b∈g:=by
 by_cases hc:∃x a,s.op=.call .pure x a
 ·obtain⟨x,a,c⟩:=hc;have key:StepX P i s.op T h v h1 f->f.all=false/\∀b,b∈f.R\/b∈f.W->b∈g:=by rintro⟨out,p,hm,ho⟩;rw[c]at hm ho;simp only[aop]at hm ho;cases k:ev T x with|fn o first cap=>rw[k]at hm ho;simp only[aCall,HM.run,Zaa,Zal]at hm;obtain⟨rfl,rfl⟩:=hm;simp only[aCall,HM.fp]at ho;obtain⟨_,_,rfl⟩:=ho;exact⟨rfl,fun b m=>by simp[fpOf]at m⟩|_=>rw[k]at hm;simp[aCall,HM.run]at hm
  unfold StepV at l;grind
 refine QhH d ?_ l;simp_all[touch2]
def touchesH(C:Claims)(n:Nat)(T:Tmps):List SOper->Abs->List (Option (List Nat))|[],_=>[]|s::r,A=>touch2 n (absO T A) s.op::touchesH C (n+1) T r (match s.dst with|some d=>(d,absH C d (s.op.absV n (absO T A)))::A|none=>A)
def ssa(C:Claims):List SOper->Bool|[]=>true|s::r=>(match s.dst with|some d=>(clm C d).isNone||r.all fun a=>(match a.dst with|some e=>!Nat.beq e d|none=>true)|none=>true)&&ssa C r
theorem QoU:∀{r:List SOper}{n:Nat}{T:Tmps}{h:Heap}{K:Tmps->Heap->Nat->Prop},wpR P n r T h K->∃T' h' n',K T' h' n'/\∀d,(∀s∈r,s.dst≠some d)->lk T' d=lk T d|[],n,T,h,K,a=>⟨T,h,n,a,fun _ _=>rfl⟩|s::r,n,T,h,K,⟨v,h1,f,g,b⟩=>by obtain⟨T',h',n',a,he⟩:=QoU b;refine⟨T',h',n',a,fun d c=>?_⟩;simp_all[QbG]
theorem QmV:∀{r:List SOper}{n:Nat}{A:Abs}{T:Tmps}{h:Heap}{K:Tmps->Heap->Nat->Prop}(hA:AbsOK T0 A T)(K':List FP->Tmps->Heap->Nat->Prop)(k:∀T h n,K T h n->∀d bs,clm C d=some bs->Pts (lk T d) bs)(a:ssa C r=true),(∀fs T h n',fs.length=r.length->(∀(j:Nat)g,(touchesH C n T0 r A).getD j none=some g->(fs.getD j ⟨false,[],[]⟩).all=false/\∀b,b∈(fs.getD j ⟨false,[],[]⟩).R\/b∈(fs.getD j ⟨false,[],[]⟩).W->b∈g)->K T h n'->K' fs T h n')->wpR P n r T h K->wpRF P n r T h K'
 |[],n,A,T,h,K,hA,K',k,a,o,hw=>o [] T h n rfl (fun j g i=>by simp_all) hw|s::r,n,A,T,h,K,hA,K',k,a,o,hw=>by
  obtain⟨v,h1,f,t,w⟩:=hw;simp only[ssa,Zab]at a;obtain⟨c,m⟩:=a;refine⟨v,h1,f,t,?_⟩;have q:AbsOK T0 (match s.dst with|some d=>(d,absH C d (s.op.absV n (absO T0 A)))::A|none=>A) (putD T s.dst v):=by cases e:s.dst with|none=>exact hA|some d=>
   refine AbsOK.up hA fun bs l=>?_;unfold absH at l;split at l
   ·rename_i y hc;cases l;obtain⟨T',B,n',p,he⟩:=QoU w;have x:=k T' B n' p d _ hc;rw[he d ?_,QbG,if_pos e]at x;·exact x
    intro E u;rw[e]at c;simp only[hc,Option.isNone_some,Bool.false_or,ZaH]at c;have:=c E u;intro F;simp_all
   exact Qd8 hA.opd l t
  refine QmV q (fun fs T h n=>K' (f::fs) T h n) k m (fun fs T h n' z hf p=>?_) w;refine o (f::fs) T h n' (by simp[z]) (fun j g i=>?_) p;cases j with|zero=>simp only[touchesH,List.getD_cons_zero]at i⊢;exact QeM hA.opd i t|succ j=>simp only[touchesH,List.getD_cons_succ]at i⊢;exact hf j g i
def Clms(T:Tmps):Claims->Prop|[]=>True|(d,a)::r=>Pts (lk T d) a/\Clms T r
theorem Clms.get:∀{C:Claims},Clms T C->∀d bs,clm C d=some bs->Pts (lk T d) bs
 |[],_,d,bs,h=>by cases h|(j,cs)::r,a,d,bs,h=>by
  simp only[clm]at h
  cases e:Nat.beq j d with|true=>
   rw[e]at h;simp only[cond_true,Zaa]at h;have:j=d:=by simpa using e
   subst this;subst h;exact a.1|false=>rw[e]at h;exact Clms.get a.2 d bs h
theorem Qdj(C){p}(c:ssa C ops=true)(hp:pairsOK (touchesH C n T ops []) (p::i)=true)(hw:wR P N ops [] [] n T h fun e T h n=>Clms T C/\wX P N .normal fs n (rm T dead) h Q):wS P N (.region ops (p::i) dead) fs n T h Q:=by
 have rm0:∀T:Tmps,rm T []=T:=by intro T;induction T with|nil=>rfl|cons p T k=>obtain⟨j,v⟩:=p;simp[rm,k]
 refine QmV (C:=C) (K:=fun T h n=>Clms T C/\wX P N .normal fs n (rm T dead) h Q) AbsOK.nil _ (fun T h n f d t hc=>f.1.get d t hc) c (fun r T h z B hf f=>⟨?_,f.2⟩) ?_
 ·rw[ZaH];intro q m;have:=ZaH.1 hp q m;split at this
  ·rename_i a b s l;obtain⟨w,E⟩:=hf _ _ s;obtain⟨u,H⟩:=hf _ _ l;have A:∀x y,x∈a->y∈b->x≠y:=by grind
   have G:∀xs g:List Nat,(∀x∈xs,∀y∈g,x≠y)->disj xs g=true:=by intro xs g F;unfold disj;grind
   grind[FP.apart]
  cases this
 have o:wpR P n ops T h fun T h n=>Clms (rm T []) C/\wX P N .normal fs n (rm (rm T []) dead) h Q:=hw;simp_all
end Go.AM
namespace Go.AM
variable{P:Program}{N:NM}{n:Nat}{d:Option Nat}{af dead:List Nat}{r:List SOper}{T:Tmps}{h:Heap}{Q:QC}{fs:List Fr}
def wAn(P:Program)(N:NM)(ys:Option (List AV))(len sz bytes:Nat)(d:Option Nat)(ops:List SOper)(dead:List Nat)(fs:List Fr)(n:Nat)(T:Tmps)(h:Heap)(Q:QC):Prop:=∃y,ys=some y/\(len*bytes<=140737488355328/\len<=140737488355328)/\y.all AV.one=true/\wN P N y (.sl n 0 0 len sz) d ops dead fs n T h Q
theorem QgH{sz bytes b g off len}(a:0<len):wM P N (aAppend .dyn n sz bytes .nilsl (.sl b g off len sz)) d r dead fs n T h Q=wAn P N (srcB (h.get b) g off len sz) len sz bytes d r dead fs n T h Q:=by obtain⟨k,rfl⟩:∃k,len=k+1:=⟨len-1,by omega⟩;rw[Qn5];rfl
theorem QmW{ys}{len sz bytes}(h1:len*bytes<=140737488355328)(c:len<=140737488355328):wAn P N (some ys) len sz bytes d r dead fs n T h Q=if ys.all AV.one=true then wN P N ys (.sl n 0 0 len sz) d r dead fs n T h Q else False:=by
 by_cases ho:ys.all AV.one=true
 ·rw[if_pos ho];apply propext;constructor;·rintro⟨y,b,_,_,a⟩;simp_all
  intro a;exact⟨ys,rfl,⟨h1,c⟩,ho,a⟩
 rw[if_neg ho];apply propext;constructor;·rintro⟨y,b,_,f,a⟩;grind
 simp_all
end Go.AM
namespace Go.AM
variable{h:Heap}{d:List (Nat×Nat)}{a c:List (Option (List Nat))}{b:List Nat}{m:Nat}{π:Nat->Option Src}
theorem Qk1:pairsOK a []=true:=rfl
theorem Qea{i j}{a}(h1:c.getD i none=some a)(f:c.getD j none=some b)(g:∀x∈a,x∉b)(h:pairsOK c d=true):pairsOK c ((i,j)::d)=true:=by simp_all[pairsOK]
theorem Rn.nilK{sz}:Rn m π h (.fsl [] 0 sz) .nilsl:=fun _ c w v H M a=>by simp_all[VRel]
end Go.AM
namespace Go.AM.SE
open Go.Proofs Go.AM.SD
variable{a:Aut}{h:Heap}{cs:List AV}{es:List Ed}{d l:List Int}{f mk u unc ys:List Nat}{i k n v x y:Nat}{left:Nat->Bool}{p:Nat×Nat}{s:QS}
def keysR(es:List Ed):List Nat:=es.foldl (fun l e=>if l.contains e.2.2 then l else l++[e.2.2]) []
theorem QpR{e}(h:es[i]?=some e):keysR (es.take (i+1))=if(keysR (es.take i)).contains e.2.2 then keysR (es.take i)else keysR (es.take i)++[e.2.2]:=by unfold keysR;rw[ZaZ,h,Option.toList,Za8];rfl
theorem Qe2:∀{es:List Ed}{x:Nat},x∈keysR es↔∃e∈es,e.2.2=x:=by
 have key:∀(es:List Ed)(l:List Nat)(x:Nat),x∈es.foldl (fun l e=>if l.contains e.2.2 then l else l++[e.2.2]) l↔x∈l\/∃e∈es,e.2.2=x:=by intro es;induction es with|nil=>intro l x;simp|cons e es c=>
  intro l x;rw[ZaR,c];by_cases h:l.contains e.2.2=true
  ·rw[if_pos h];have d:e.2.2∈l:=by simpa using h
   constructor
   ·rintro(h1|⟨b,h1,a⟩);·exact .inl h1
    exact .inr ⟨b,by simp[h1],a⟩
   rintro(h1|⟨b,h1,a⟩);·exact .inl h1
   rcases Zax.1 h1 with rfl|h1;·exact .inl (a▸d)
   exact .inr ⟨b,h1,a⟩
  rw[if_neg h];constructor
  ·rintro(h1|⟨b,h1,a⟩)
   ·rcases ZaE.1 h1 with h1|h1;·exact .inl h1
    exact .inr ⟨e,by simp,(by simpa using h1:x=e.2.2).symm⟩
   exact .inr ⟨b,by simp[h1],a⟩
  rintro(h1|⟨b,h1,a⟩);·exact .inl (by simp[h1])
  rcases Zax.1 h1 with rfl|h1;·exact .inl (by simp[a])
  exact .inr ⟨b,h1,a⟩
 intro es x;have:=key es [] x;unfold keysR;rw[this];simp
theorem Qn9(es):(keysR es).Nodup:=by
 have key:∀(es:List Ed)(l:List Nat),l.Nodup->(es.foldl (fun l e=>if l.contains e.2.2 then l else l++[e.2.2]) l).Nodup:=by intro es;induction es with|nil=>intro l h;exact h|cons e es g=>
  intro l h;rw[ZaR];refine g _ ?_;split;·exact h
  rename_i h1;rw[List.nodup_append];refine⟨h,by simp,fun a f b c=>?_⟩;rw[ZaS.1 c];intro d;subst d;exact h1 (by simpa using f)
 exact key es [] List.nodup_nil
theorem Qcc{e}(h:es[i]?=some e)(v):preds (es.take (i+1)) v=preds (es.take i) v++if e.2.2=v then[e.1]else[]:=by unfold preds;rw[ZaZ,h,Option.toList,Zbm,ZaI];congr 1;by_cases h1:e.2.2=v<;>simp[h1]
theorem Qeb(h:v∉keysR es):preds es v=[]:=by unfold preds;rw[List.map_eq_nil_iff,List.filter_eq_nil_iff];intro e he h1;exact h (Qe2.2 ⟨e,he,by simpa using h1⟩)
theorem Qk2(es)(v):(preds es v).length<=es.length:=by unfold preds;rw[Zav];exact Za7 _ _
abbrev pblk(a:Aut)(u:List Nat):List AV:=[sliN a.al,.int .i64 (a.n:Int),sliN a.ms,egsN a.es,sliN u,.map 71 0,.sl 72 0 0 a.n 1]
abbrev backF(es:List Ed):Nat->AV:=fun k=>sliN (preds es k)
abbrev startL(a:Aut)(f u:List Nat):HL:=[(70,.cells 0 (pblk a u)),(71,.map 0 (mapF .i64 (backF a.es) (keysR a.es))),(72,.cells 0 (bls (left0 a.n f)))]
abbrev rowF(es:List Ed):Nat->List AV:=fun k=>ints (nz (preds es k))
abbrev ptrF(es:List Ed):Nat->AV:=fun k=>.sl (300+k) 0 0 (preds es k).length 1
theorem QpS(h:f[i]?=some x):left0 n (f.take (i+1))=(left0 n (f.take i)).set x false:=by unfold left0 offs;rw[ZaZ,h,Option.toList,Za8];rfl
theorem Qk3:(left0 n f).length=n:=by unfold left0;rw[Qh4];simp
theorem reps(n):(List.replicate n [AV.bool false]).flatten=bls (List.replicate n false):=by induction n with|zero=>rfl|succ n a=>rw[ZaY,Zbp,a];rfl
theorem QsP(h:i<n):(List.replicate i true++List.replicate (n-i) false).set i true=List.replicate (i+1) true++List.replicate (n-(i+1)) false:=by rw[List.set_append_right _ _ (by simp),Zbe,ZbL,show n-i=(n-(i+1))+1 by omega,ZaY,ZbO,List.replicate_succ',ZaN];rfl
theorem start34(a:Aut)(f u)(A:∀e∈a.es,e.1<a.n/\e.2.2<a.n)(hf:∀x∈f,x<a.n)(V:a.n<=4096)(P:a.es.length<=1000000)(S:f.length<=1000000):HSpec Tryz.prog 118 [aV a,sliN f,sliN u] .e (.ptr 70 0 0) (hp (startL a f u)):=by
 refine ZcN 74 (Ok s118) rfl ?_;have I:(a.n:Int)<=140737488355328:=by omega
 unfold s118;refine Zc1 (Zc2 I @reps) ?_;refine Qar 100 (fun i:Nat=>[(1,sliN f),(3,.ptr 60 0 0),(7,.ptr 70 0 0),(25,.int .i64 a.n),(26,.int .i64 i)]) (fun i=>[(60,.cells 0 [sliN a.al,.int .i64 (a.n:Int),sliN a.ms,egsN a.es]),(70,.cells 0 (pblk a u)),(71,.map 0 []),(72,.cells 0 (bls (List.replicate i true++List.replicate (a.n-i) false)))]) (fun i=>i<=a.n) (fun i=>a.n-i) 0 0 120 (fun _:Unit=>[(1,sliN f),(3,.ptr 60 0 0),(7,.ptr 70 0 0)]) (fun _=>[(60,.cells 0 [sliN a.al,.int .i64 (a.n:Int),sliN a.ms,egsN a.es]),(70,.cells 0 (pblk a u)),(71,.map 0 []),(72,.cells 0 (bls (left0 a.n (f.take 0))))]) (fun _=>True) ?_ (Zai _) ?_ ?_;·exact⟨[(60,.blk 74 0),(70,.blk 83 0),(71,.blk 78 0),(72,.blk 81 0)],rfl,au0,au1,au2⟩
 ·rintro i hi;by_cases m:i<a.n
  ·have h1:i+1<=i+(a.n-i):=by omega
   refine Zc1 (Zc4 m h1 @QjK (QsP m)) ?_;exact b2gsH
  have e:i=a.n:=by omega
  subst e;have B:List.replicate a.n true++List.replicate (a.n-a.n) false=left0 a.n (f.take 0):=by simp[left0,offs]
  refine Zc1 m ?_;refine⟨(),?_⟩;rw[B];exact⟨[(60,.blk 60 0),(70,.blk 70 0),(71,.blk 71 0),(72,.blk 72 0)],rfl,au0,au1,au2⟩
 rintro _ _;refine Zc0 ?_;refine Qar 140 (fun i:Nat=>[(3,.ptr 60 0 0),(7,.ptr 70 0 0),(36,sliN f),(37,.int .i64 f.length),(38,.int .i64 i)]) (fun i=>[(60,.cells 0 [sliN a.al,.int .i64 (a.n:Int),sliN a.ms,egsN a.es]),(70,.cells 0 (pblk a u)),(71,.map 0 []),(72,.cells 0 (bls (left0 a.n (f.take i))))]) (fun i=>i<=f.length) (fun i=>f.length-i) 0 2 160 (fun _:Unit=>[(3,.ptr 60 0 0),(7,.ptr 70 0 0)]) (fun _=>[(60,.cells 0 [sliN a.al,.int .i64 (a.n:Int),sliN a.ms,egsN a.es]),(70,.cells 0 (pblk a u)),(71,.map 0 []),(72,.cells 0 (bls (left0 a.n f)))]) (fun _=>True) ?_ (Zai _) ?_ ?_;·exact⟨[(60,.blk 60 0),(70,.blk 70 0),(71,.blk 71 0),(72,.blk 72 0)],rfl,au0,au1,au2⟩
 ·rintro i hi;by_cases m:i<f.length
  ·obtain⟨x,l⟩:=Qak m;have n:=hf x (Zac l);have H:x+1<=(left0 a.n (f.take i)).length:=by rw[Qk3];exact n
   simp(disch:=first|omega|exact PairsOK.mk rfl|(simp only[lenW]<;>omega))only[m,QaH l,n,H,QjK,<-QpS l,wW,wV,simprocAttr];exact b2gsH
  have e:i=f.length:=by omega
  subst e;refine Zc1 m ?_;refine⟨(),?_⟩;exact⟨[(60,.blk 60 0),(70,.blk 70 0),(71,.blk 71 0),(72,.blk 72 0)],rfl,au0,au1,au2⟩
 rintro _ _;refine Zc0 ?_;have hrn:∀k∈List.range a.n,k<1000000:=fun k d=>by have:=Zat.1 d;omega
 refine Qar 170 (fun i:Nat=>[(7,.ptr 70 0 0),(50,egsN a.es),(51,.int .i64 a.es.length),(52,.int .i64 i)]) (fun i=>(70,.cells 0 (pblk a u))::(71,.map 0 (mapF .i64 (ptrF (a.es.take i)) (keysR (a.es.take i))))::(72,.cells 0 (bls (left0 a.n f)))::rowsL (rowF (a.es.take i)) (List.range a.n)) (fun i=>i<=a.es.length) (fun i=>a.es.length-i) 0 4 200 (fun _:Unit=>[(7,.ptr 70 0 0)]) (fun _=>startL a f u) (fun _=>True) ?_ (Zai _) ?_ ?_
 ·refine⟨(70,.blk 70 0)::(71,.blk 71 0)::(72,.blk 72 0)::psL (fun _=>.nil) (List.range a.n),QfQ Zbc hrn (fun _ _ _ _ _ b g M N h=>by cases h) (fun _ _ b g h=>by cases h) (by decide) (by decide) (by decide),Zcs,?_,au2⟩;repeat'(first|exact Zcv|(refine Zcl ?_;first|rfl|(simp only[noRef,noRefs,Qaf,Zae,Zad,Zag,Qaa,Qal,Qag,Qan,Qai,Qah,Qab,Qaq,Qaj];done))|exact ZcJ rfl|exact ZcB|exact(True.intro:RnM _ _ _ [] [])|refine ZcC ?_ ?_|(refine Zck ?_;first|rfl|(simp only[noRef,noRefs,Qaf,Zae,Zad,Zag,Qaa,Qal,Qag,Qan,Qai,Qah,Qab,Qaq,Qaj];done))|exact Rn.x1 rfl rfl|exact Rn.x2 rfl rfl|exact Rn.x3 rfl rfl|exact Rn.x4 rfl rfl|exact Rn.x5 rfl|exact Rn.x6 rfl|exact Rn.x7 rfl|refine Zcx rfl rfl ?_|refine Zcw rfl rfl rfl ?_ ?_|refine Zcy rfl rfl rfl ?_ ?_|refine Zcz rfl rfl ?_ ?_|refine ZcA rfl rfl ?_ ?_)
  refine QdJ fun k d=>?_;exact Zcx rfl (Qci d) Zcv
 ·rintro i hi;by_cases m:i<a.es.length
  ·obtain⟨e,he⟩:=Qak m;obtain⟨O,L⟩:=A e (Zac he);have t:=QpR he;have J:=Qn9 (a.es.take i);have T:(preds (a.es.take i) e.2.2).length<=1000000:=by have:=Qk2 (a.es.take i) e.2.2;rw[Zaq]at this;omega
   have o:=QcG (f:=rowF (a.es.take i)) Zbc hrn (Zat.2 L);have r:∀b,b<300->(hp (rowsL (rowF (a.es.take i)) (List.range a.n))).get b=none:=fun b p=>QfO hrn fun k d=>by omega
   refine Zc1 (Zc3 m (QaT he) r) ?_;refine Qdj [(57,[70]),(59,[71]),(63,[70]),(65,[71]),(68,[300+e.2.2])] rfl ?_ ?_;·exact Qea (a:=[71]) (b:=[190]) rfl rfl (fun x l=>by simp only[Zax,Za1,or_false]at l⊢;omega) (Qea (a:=[70]) (b:=[191,300+e.2.2,190]) rfl rfl (fun x l=>by simp only[Zax,Za1,or_false]at l⊢;omega) (Qea (a:=[173]) (b:=[191,300+e.2.2,190]) rfl rfl (fun x l=>by simp only[Zax,Za1,or_false]at l⊢;omega) Qk1))
   refine Zc1 r ?_;refine QcT ?_;refine Zc1 r ?_;by_cases d:e.2.2∈keysR (a.es.take i)
   ·refine wK_in d ?_;refine Zc1 (Zc2 o r) ?_;refine Qbh ?_;refine Zc1 (Zc2 o r) ?_;refine Qu1 J d (by decide) ?_;refine Zc1 (Zc2 o r) ?_;refine⟨⟨⟨_,rfl,fun b p=>p⟩,⟨_,rfl,fun b p=>p⟩,⟨_,rfl,fun b p=>p⟩,⟨_,rfl,fun b p=>p⟩,⟨_,rfl,fun b p=>p⟩,trivial⟩,i+1,by omega,by omega,?_⟩;rw[if_pos (by simpa using d)]at t;have w:∀x∈keysR (a.es.take (i+1)),x<a.n:=fun x l=>by obtain⟨G,z,rfl⟩:=Qe2.1 l;exact(A G (ZaV z)).2
    generalize v:psL (fun k=>if k∈keysR (a.es.take (i+1))then(if k=e.2.2 then .blk (300+e.2.2) 1 else .blk (300+k) 0:Src)else .nil) (List.range a.n)=PS;have s:∀k:Nat,k<a.n->k≠e.2.2->(hp (rowsL (rowF (a.es.take i)) (List.range a.n))).get (300+k)=some (.cells 0 (rowF (a.es.take i) k)):=fun k d _=>QcG Zbc hrn (Zat.2 d);refine⟨(70,.blk 70 0)::(71,.blk 71 0)::(72,.blk 72 0)::PS,?_,Zcs,?_,?_⟩
    ·exact bT1GM
    ·subst v;refine Zcw rfl rfl (by simp(disch:=omega)only[QaE,QaL,Qa1];rfl) ?_ (Zcy rfl rfl (by simp(disch:=omega)only[QaE,QaL,Qa1];rfl) ?_ (Zcw rfl rfl (by simp(disch:=omega)only[QaE,QaL,Qa1]) (Zcl (Qai _)) ?_));·repeat'(first|exact Zcv|(refine Zcl ?_;first|rfl|(simp only[noRef,noRefs,Qaf,Zae,Zad,Zag,Qaa,Qal,Qag,Qan,Qai,Qah,Qab,Qaq,Qaj];done))|exact ZcJ rfl|exact ZcB|exact(True.intro:RnM _ _ _ [] [])|refine ZcC ?_ ?_|(refine Zck ?_;first|rfl|(simp only[noRef,noRefs,Qaf,Zae,Zad,Zag,Qaa,Qal,Qag,Qan,Qai,Qah,Qab,Qaq,Qaj];done))|exact Rn.x1 rfl rfl|exact Rn.x2 rfl rfl|exact Rn.x3 rfl rfl|exact Rn.x4 rfl rfl|exact Rn.x5 rfl|exact Rn.x6 rfl|exact Rn.x7 rfl|refine Zcx rfl rfl ?_|refine Zcw rfl rfl rfl ?_ ?_|refine Zcy rfl rfl rfl ?_ ?_|refine Zcz rfl rfl ?_ ?_|refine ZcA rfl rfl ?_ ?_)
     ·rw[t];refine ZcO fun x l=>?_;have C:x∈keysR (a.es.take (i+1)):=by rw[t];exact l
      have n:=w x C;unfold updF ptrF;split;·rename_i c;subst c;(rw[Qcc he,if_pos rfl,Zaf];exact Rn.x1 rfl (by rw[Qci (Zat.2 n)];simp[l]))
      exact b3aKn
     refine QdJ fun k d=>?_;have E:=Zat.1 d;by_cases q:k∈keysR (a.es.take (i+1))
     ·by_cases c:k=e.2.2;·subst c;refine Zcw rfl (b:=300+e.2.2) (g:=1) (ds:=rowF (a.es.take i) e.2.2++[.int .i64 (e.1:Int)]) (by rw[Qci d];simp[q]) (by simp(disch:=omega)only[QaE,QaL,Qa1]) (RnL.eq ?_ (Qaa _)) Zcv;unfold SE.rowF;rw[Qcc he,if_pos rfl,QaQ,QaF];rfl
      exact b3Qr8
     exact bx7jT
    exact au2
   refine QqX d ?_;refine Zc1 (Zc4 o r @QgH @QmW) ?_;refine Qbh ?_;refine Zc1 (Zc2 o r) ?_;refine QbK d (by decide) ?_;refine Zc1 (Zc2 o r) ?_;refine⟨⟨⟨_,rfl,fun b p=>p⟩,⟨_,rfl,fun b p=>p⟩,⟨_,rfl,fun b p=>p⟩,⟨_,rfl,fun b p=>p⟩,⟨[],rfl,fun b p=>by cases p⟩,trivial⟩,i+1,by omega,by omega,?_⟩;rw[if_neg (by simpa using d)]at t;have w:∀x∈keysR (a.es.take (i+1)),x<a.n:=fun x l=>by obtain⟨G,z,rfl⟩:=Qe2.1 l;exact(A G (ZaV z)).2
   have F:=Qeb d;generalize v:psL (fun k=>if k∈keysR (a.es.take (i+1))then(if k=e.2.2 then .blk 191 0 else .blk (300+k) 0:Src)else .nil) (List.range a.n)=PS;have s:∀k:Nat,k<a.n->k≠e.2.2->(hp (rowsL (rowF (a.es.take i)) (List.range a.n))).get (300+k)=some (.cells 0 (rowF (a.es.take i) k)):=fun k d _=>QcG Zbc hrn (Zat.2 d);refine⟨(70,.blk 70 0)::(71,.blk 71 0)::(72,.blk 72 0)::PS,?_,Zcs,?_,?_⟩
   ·exact bT1GM
   ·subst v;refine Zcw rfl rfl (by simp(disch:=omega)only[QaE,QaL,Qa1];rfl) ?_ (Zcy rfl rfl (by simp(disch:=omega)only[QaE,QaL,Qa1];rfl) ?_ (Zcw rfl rfl (by simp(disch:=omega)only[QaE,QaL,Qa1]) (Zcl (Qai _)) ?_));·repeat'(first|exact Zcv|(refine Zcl ?_;first|rfl|(simp only[noRef,noRefs,Qaf,Zae,Zad,Zag,Qaa,Qal,Qag,Qan,Qai,Qah,Qab,Qaq,Qaj];done))|exact ZcJ rfl|exact ZcB|exact(True.intro:RnM _ _ _ [] [])|refine ZcC ?_ ?_|(refine Zck ?_;first|rfl|(simp only[noRef,noRefs,Qaf,Zae,Zad,Zag,Qaa,Qal,Qag,Qan,Qai,Qah,Qab,Qaq,Qaj];done))|exact Rn.x1 rfl rfl|exact Rn.x2 rfl rfl|exact Rn.x3 rfl rfl|exact Rn.x4 rfl rfl|exact Rn.x5 rfl|exact Rn.x6 rfl|exact Rn.x7 rfl|refine Zcx rfl rfl ?_|refine Zcw rfl rfl rfl ?_ ?_|refine Zcy rfl rfl rfl ?_ ?_|refine Zcz rfl rfl ?_ ?_|refine ZcA rfl rfl ?_ ?_)
    ·rw[t];refine ZcO fun x l=>?_;have C:x∈keysR (a.es.take (i+1)):=by rw[t];exact l
     have n:=w x C;unfold updF ptrF;split;·rename_i c;subst c;(rw[Qcc he,if_pos rfl,F];exact Rn.x1 rfl (by rw[Qci (Zat.2 n)];simp[l]))
     exact b3aKn
    refine QdJ fun k d=>?_;have E:=Zat.1 d;by_cases q:k∈keysR (a.es.take (i+1))
    ·by_cases c:k=e.2.2;·subst c;refine Zcw rfl (b:=191) (g:=0) (ds:=[.int .i64 (e.1:Int)]) (by rw[Qci d];simp[q]) (by simp(disch:=omega)only[QaE,QaL,Qa1]) (RnL.eq ?_ (Qaa _)) Zcv;unfold SE.rowF;rw[Qcc he,if_pos rfl,QaQ,QaF];(rw[F];rfl)
     exact b3Qr8
    exact bx7jT
   exact au2
  have e:i=a.es.length:=by omega
  subst e;have w:∀x∈keysR a.es,x<a.n:=fun x l=>by obtain⟨G,z,rfl⟩:=Qe2.1 l;exact(A G z).2
  refine Zc1 m ?_;refine⟨(),[(70,.blk 70 0),(71,.blk 71 0),(72,.blk 72 0)],rfl,Zcs,?_,au2⟩;refine Zcw rfl rfl (by simp(disch:=omega)only[QaE,QaL,Qa1];rfl) ?_ (Zcy rfl rfl (by simp(disch:=omega)only[QaE,QaL,Qa1];rfl) ?_ (Zcw rfl rfl (by simp(disch:=omega)only[QaE,QaL,Qa1]) (Zcl (Qai _)) Zcv));·repeat'(first|exact Zcv|(refine Zcl ?_;first|rfl|(simp only[noRef,noRefs,Qaf,Zae,Zad,Zag,Qaa,Qal,Qag,Qan,Qai,Qah,Qab,Qaq,Qaj];done))|exact ZcJ rfl|exact ZcB|exact(True.intro:RnM _ _ _ [] [])|refine ZcC ?_ ?_|(refine Zck ?_;first|rfl|(simp only[noRef,noRefs,Qaf,Zae,Zad,Zag,Qaa,Qal,Qag,Qan,Qai,Qah,Qab,Qaq,Qaj];done))|exact Rn.x1 rfl rfl|exact Rn.x2 rfl rfl|exact Rn.x3 rfl rfl|exact Rn.x4 rfl rfl|exact Rn.x5 rfl|exact Rn.x6 rfl|exact Rn.x7 rfl|refine Zcx rfl rfl ?_|refine Zcw rfl rfl rfl ?_ ?_|refine Zcy rfl rfl rfl ?_ ?_|refine Zcz rfl rfl ?_ ?_|refine ZcA rfl rfl ?_ ?_)
  refine ZcO fun x l=>?_;have n:=w x l;have Q:=QcG (f:=SE.rowF a.es) Zbc hrn (Zat.2 n);have h1:Nat.beq (300+x) 70=false:=by rw[ZaJ];simp;try omega
  have y:Nat.beq (300+x) 71=false:=by rw[ZaJ];simp;try omega
  have R:Nat.beq (300+x) 72=false:=by rw[ZaJ];simp;try omega
  exact ZcD (by simp(disch:=omega)only[QaE,QaL,Qa1,Q]) (by simp[srcNew,h1,y,R]) (by simp) rfl (by rw[QcW,Zav,Zb6]) (Zcl (Qaa _))
 rintro _ _;refine Zc0 ?_;refine⟨.inr trivial,_,rfl,[(70,.blk 70 0),(71,.blk 71 0),(72,.blk 72 0)],rfl,Zcs,?_,au2⟩;refine Zcw rfl rfl rfl ?_ (Zcy rfl rfl rfl (ZcO fun x _=>Zck (Qab _)) (Zcw rfl rfl rfl (Zcl (Qai _)) Zcv));repeat'(first|exact Zcv|(refine Zcl ?_;first|rfl|(simp only[noRef,noRefs,Qaf,Zae,Zad,Zag,Qaa,Qal,Qag,Qan,Qai,Qah,Qab,Qaq,Qaj];done))|exact ZcJ rfl|exact ZcB|exact(True.intro:RnM _ _ _ [] [])|refine ZcC ?_ ?_|(refine Zck ?_;first|rfl|(simp only[noRef,noRefs,Qaf,Zae,Zad,Zag,Qaa,Qal,Qag,Qan,Qai,Qah,Qab,Qaq,Qaj];done))|exact Rn.x1 rfl rfl|exact Rn.x2 rfl rfl|exact Rn.x3 rfl rfl|exact Rn.x4 rfl rfl|exact Rn.x5 rfl|exact Rn.x6 rfl|exact Rn.x7 rfl|refine Zcx rfl rfl ?_|refine Zcw rfl rfl rfl ?_ ?_|refine Zcy rfl rfl rfl ?_ ?_|refine Zcz rfl rfl ?_ ?_|refine ZcA rfl rfl ?_ ?_)
abbrev pv(a:Aut)(u:List Nat)(l:LB):AV:=.fptr [sliN a.al,.int .i64 (a.n:Int),sliN a.ms,egsN a.es,sliN u,fmapF .i64 (backF a.es) (keysR a.es),.fsl (bls l) a.n 1]
theorem QdU{f:Nat->AV}(h:∀x,noRef (f x)=true)(l:List Nat):noRefs (l.map f)=true:=by induction l with|nil=>rfl|cons x l a=>simp only[ZaL,noRefs,h,a];rfl
theorem Qam(k)(l:List Nat):noRefs (l.map fun x:Nat=>AV.int k (x:Int))=true:=QdU (fun _=>rfl) l
theorem Qao(es)(l:List Nat):noRefs (l.map (backF es))=true:=QdU (fun x=>Qab _) l
theorem Qq7(h:mk[i]?=some x):bMks n (mk.take (i+1)) left=bMk left (bMks n (mk.take i) left) x:=by unfold bMks;rw[ZaZ,h,Option.toList,Za8];rfl
theorem QsQ(n)(mk)(left):(bMks n mk left).1.length=n:=by
 have key:∀(mk:List Nat)(s:QS),(mk.foldl (bMk left) s).1.length=s.1.length:=by intro mk;induction mk with|nil=>intro s;rfl|cons x mk a=>intro s;rw[ZaR,a];unfold bMk;split<;>simp
 unfold bMks;rw[key];simp
theorem Qk4(h:ys[i]?=some y):(ys.take (i+1)).foldl (bEd left v) s=bEd left v ((ys.take i).foldl (bEd left v) s) y:=by rw[ZaZ,h,Option.toList,Za8];rfl
theorem QmX(n)(x):(List.replicate n [AV.int .i64 x]).flatten=ints (List.replicate n x):=by induction n with|zero=>rfl|succ n a=>rw[ZaY,Zbp,a];rfl
theorem Qk5(h:i<n):(List.replicate i (-1:Int)++List.replicate (n-i) 0).set i (-1)=List.replicate (i+1) (-1)++List.replicate (n-(i+1)) 0:=by rw[List.set_append_right _ _ (by simp),Zbe,ZbL,show n-i=(n-(i+1))+1 by omega,ZaY,ZbO,List.replicate_succ',ZaN];rfl
theorem Qbk{l}{i}{x}:(ints l).set i (.int .i64 x)=ints (l.set i x):=by simp[ints,List.map_set]
def Bd(s:QS):Prop:=∀x,s.1.getD x 0<=s.2.length
theorem Qu4(h:Bd s):Bd (bEd left v s y):=by
 unfold bEd;split
 ·intro x;have h1:=h x;have a:=h v;show(s.1.set y (s.1.getD v 0+1)).getD x 0<=((s.2++[y]).length:Int);exact byvnU
 exact h
theorem Qu5(h:Bd s):Bd (bMk left s x):=by
 unfold bMk;split
 ·intro z;have h1:=h z;show(s.1.set x 0).getD z 0<=((s.2++[x]).length:Int);exact byvnU
 exact h
theorem Qfm:∀(ys:List Nat)(s:QS),Bd s->Bd (ys.foldl (bEd left v) s)|[],s,h=>h|y::ys,s,h=>Qfm ys _ (Qu4 h)
theorem QtV(mk):Bd (bMks n mk left):=by
 have key:∀(mk:List Nat)(s:QS),Bd s->Bd (mk.foldl (bMk left) s):=by intro mk;induction mk with|nil=>intro s h;exact h|cons x mk a=>intro s h;exact a _ (Qu5 h)
 refine key mk _ fun x=>?_;simp only[Zah,List.getElem?_replicate];split<;>simp
theorem Qu6(n)(left)(mk):(bMks n mk left).2.length<=mk.length:=by
 have key:∀(mk:List Nat)(s:QS),(mk.foldl (bMk left) s).2.length<=s.2.length+mk.length:=by intro mk;induction mk with|nil=>intro s;simp|cons x mk a=>intro s;rw[ZaR];refine ZaA (a _) ?_;unfold bMk;split<;>simp<;>omega
 have:=key mk (List.replicate n (-1),[]);unfold bMks;simpa using this
theorem Qb4{x}(h:l[i]?=some x):(ints l)[i]?=some (.int .i64 x):=by simp[ints,h]
theorem Qbl(h:i<l.length):(ints l)[i]?=some (.int .i64 (l.getD i 0)):=by simp[ints,h]
theorem _root_.Go.AM.au5{p:Prop}(h:p:=by repeat'(first|exact Zcv|(refine Zcl ?_;first|rfl|(simp only[noRef,noRefs,SD.Qaa,SD.Qab,SD.Qaf,SD.Qag,SD.Qah,SD.Qai,SD.Qaj,SD.Qal,SD.Qan,SD.Qaq,SE.Qam,SE.Qao,SO.QaO,SO.Qau,SO.Qay,Zad,Zae,Zag];done))|exact ZcJ rfl|exact ZcB|exact(True.intro:RnM _ _ _ [] [])|refine ZcC ?_ ?_|(refine Zck ?_;first|rfl|(simp only[noRef,noRefs,SD.Qaa,SD.Qab,SD.Qaf,SD.Qag,SD.Qah,SD.Qai,SD.Qaj,SD.Qal,SD.Qan,SD.Qaq,SE.Qam,SE.Qao,SO.QaO,SO.Qau,SO.Qay,Zad,Zae,Zag];done))|exact Rn.x1 rfl rfl|exact Rn.x2 rfl rfl|exact Rn.x3 rfl rfl|exact Rn.x4 rfl rfl|exact Rn.x5 rfl|exact Rn.x6 rfl|exact Rn.x7 rfl|refine Zcx rfl rfl ?_|refine Zcw rfl rfl rfl ?_ ?_|refine Zcy rfl rfl rfl ?_ ?_|refine Zcz rfl rfl ?_ ?_|refine ZcA rfl rfl ?_ ?_)):p:=h
theorem _root_.Go.AM.au6{p:Prop}(h:p:=by repeat(first|exact Zct|(refine Zcu ?_ ?_;·(first|exact Zcj|exact Rn.x1 rfl rfl|exact Rn.x2 rfl rfl|exact Rn.x3 rfl rfl|exact Rn.x4 rfl rfl|exact Rn.x5 rfl|exact Rn.x6 rfl|exact Rn.x7 rfl|(refine ZcF ?_ ?_;(first|rfl|(rw[ZaG];rfl));(first|rfl|(simp only[noRef,noRefs,SD.Qaa,SD.Qab,SD.Qaf,SD.Qag,SD.Qah,SD.Qai,SD.Qaj,SD.Qal,SD.Qan,SD.Qaq,SE.Qam,SE.Qao,SO.QaO,SO.Qau,SO.Qay,Zad,Zae,Zag];done)))|(refine Rn.fn ?_ ?_<;>(repeat'(first|exact ZcB|refine ZcC ?_ ?_|exact Zck rfl|exact Rn.x6 rfl|exact Rn.x2 rfl rfl|exact Rn.x5 rfl|exact Rn.x1 rfl rfl))))))):p:=h
theorem dist53(a)(u)(l)(hin:InN a.n a.es a.ms)(hnd:a.ms.Nodup)(hl:l.length=a.n)(hn:a.n<=4096)(hel:a.es.length<=1000000)(hml:a.ms.length<=1000000):HSpec Tryz.prog 122 [pv a u l] .e (.sl 80 0 0 a.n 1) (hp [(80,.cells 0 (ints (pDist a.n a.es a.ms (lf l))))]):=by
 refine ZcN 100 (Ok s122) rfl ?_;have hn':(a.n:Int)<=140737488355328:=by omega
 have hn8:(8:Int)*a.n<=140737488355328:=by omega
 unfold s122;refine Zc1 (Zc3 hn' hn8 @QmX) ?_;refine Qar 100 (fun i:Nat=>[(0,pv a u l),(3,.sl 80 0 0 a.n 1),(18,.int .i64 a.n),(19,.int .i64 i)]) (fun i=>[(80,.cells 0 (ints (List.replicate i (-1)++List.replicate (a.n-i) 0)))]) (fun i=>i<=a.n) (fun i=>a.n-i) 0 0 120 (fun _:Unit=>[(0,pv a u l),(3,.sl 80 0 0 a.n 1)]) (fun _=>[(80,.cells 0 (ints (List.replicate a.n (-1))))]) (fun _=>True) ?_ (Zai _) ?_ ?_;·exact⟨[(80,.blk 106 0)],rfl,au0,au5,au6⟩
 ·rintro i hi;by_cases hlt:i<a.n
  ·have h1:i+1<=i+(a.n-i):=by omega
   refine Zc1 (Zc4 hlt h1 @Qbk (Qk5 hlt)) ?_;exact⟨i+1,by omega,by omega,⟨[(80,.blk 80 0)],rfl,au0,au5,au6⟩⟩
  ·have e:i=a.n:=by omega
   subst e;have e2:List.replicate a.n (-1:Int)++List.replicate (a.n-a.n) 0=List.replicate a.n (-1):=by simp
   refine Zc1 hlt ?_;refine⟨(),?_⟩;rw[e2];exact⟨[(80,.blk 80 0)],rfl,au0,au5,au6⟩
 rintro _ _;refine Zc0 ?_;refine Qar 140 (fun i:Nat=>[(0,pv a u l),(3,.sl 80 0 0 a.n 1),(5,.sl 81 0 0 (bMks a.n (a.ms.take i) (lf l)).2.length 1),(30,sliN a.ms),(31,.int .i64 a.ms.length),(32,.int .i64 i)]) (fun i=>[(80,.cells 0 (ints (bMks a.n (a.ms.take i) (lf l)).1)),(81,.cells 0 (ints (nz (bMks a.n (a.ms.take i) (lf l)).2)))]) (fun i=>i<=a.ms.length) (fun i=>a.ms.length-i) 0 2 160 (fun _:Unit=>[(0,pv a u l),(3,.sl 80 0 0 a.n 1),(5,.sl 81 0 0 (bMks a.n a.ms (lf l)).2.length 1)]) (fun _=>[(80,.cells 0 (ints (bMks a.n a.ms (lf l)).1)),(81,.cells 0 (ints (nz (bMks a.n a.ms (lf l)).2)))]) (fun _=>True) ?_ (Zai _) ?_ ?_;·exact⟨[(80,.blk 80 0),(81,.nil)],rfl,au0,au5,au6⟩
 ·rintro i hi;by_cases hlt:i<a.ms.length
  ·obtain⟨x,hx⟩:=Qak hlt;have hxn:=hin.2 x (Zac hx);have hs:=Qq7 (n:=a.n) (left:=lf l) hx;have hq:=Qu6 a.n (lf l) (a.ms.take i);rw[Zaq]at hq;have hlen:=QsQ a.n (a.ms.take i) (lf l);generalize bMks a.n (a.ms.take i) (lf l)=s at*;have h1:x+1<=s.1.length:=by omega
   have hxl:x<l.length:=by omega
   by_cases h0:lf l x=true;·rw[bMk,if_pos h0]at hs;refine Zc1 (Zc7 hlt (QaH hx) hxn (Qa7 hxl) h0 @Qbk h1) ?_;refine⟨i+1,by omega,by omega,?_⟩;rw[hs,QaQ,QaF,Zaf];exact⟨[(80,.blk 80 0),(81,.blk 81 1)],rfl,au0,au5,au6⟩
   ·rw[bMk,if_neg h0]at hs;rw[Zam]at h0;refine Zc1 (Zc5 hlt (QaH hx) hxn (Qa7 hxl) h0) ?_;refine⟨i+1,by omega,by omega,?_⟩;rw[hs];exact⟨[(80,.blk 80 0),(81,.blk 81 0)],rfl,au0,au5,au6⟩
  ·have e:i=a.ms.length:=by omega
   subst e;refine Zc1 hlt ?_;refine⟨(),?_⟩;exact⟨[(80,.blk 80 0),(81,.blk 81 0)],rfl,au0,au5,au6⟩
 rintro _ _;refine Zc0 ?_;have hb0:=QjD (left:=lf l) hin hnd;have hd0:=QtV (n:=a.n) (left:=lf l) a.ms;have hfin:(bQ a.es (lf l) (a.n+1) 0 (bMks a.n a.ms (lf l))).1=pDist a.n a.es a.ms (lf l):=rfl;generalize bMks a.n a.ms (lf l)=s0 at*;refine Qar 180 (fun t:Nat×QS=>[(0,pv a u l),(3,.sl 80 0 0 a.n 1),(5,.sl 81 0 0 t.2.2.length 1),(8,.int .i64 t.1)]) (fun t=>[(80,.cells 0 (ints t.2.1)),(81,.cells 0 (ints (nz t.2.2)))]) (fun t=>t.1<=a.n/\BH a.n a.es a.ms (lf l) t.1 t.2/\Bd t.2/\bQ a.es (lf l) (a.n+1-t.1) t.1 t.2=bQ a.es (lf l) (a.n+1) 0 s0) (fun t=>a.n+1-t.1) (0,s0) 4 200 (fun _:Unit=>[(3,.sl 80 0 0 a.n 1)]) (fun _=>[(80,.cells 0 (ints (pDist a.n a.es a.ms (lf l))))]) (fun _=>True) ?_ ⟨Zai _,hb0,hd0,rfl⟩ ?_ ?_;·exact⟨[(80,.blk 80 0),(81,.blk 81 0)],rfl,au0,au5,au6⟩
 ·rintro⟨i,s⟩⟨hi,hbh,hbd,hq⟩;dsimp only at hi hbh hbd hq⊢;have hsl:=hbh.bi.cnt;have hlen:=hbh.bi.len;by_cases hlt:i<s.2.length
  ·obtain⟨v,hv⟩:=Qak hlt;have hvn:=((hbh.bi.inl v).1 (Zac hv)).1;have hin':i<a.n:=by omega
   have hq':bQ a.es (lf l) (a.n+1-(i+1)) (i+1) (bRow a.es (lf l) v s)=bQ a.es (lf l) (a.n+1) 0 s0:=by rw[<-hq,show a.n+1-i=(a.n+1-(i+1))+1 by omega];simp only[bQ,hv]
   have hbh':=hbh.step hin hv;have hrow:=fun ys(hys:∀y∈ys,∃e∈a.es,e.1=y/\e.2.2=v)=>BI.row (left:=lf l) (mk:=a.ms) hin (v:=v) (i:=i) ys s hys hbh.bi hv (hbh.near v hv) hbh.done;have hpl:=Qk2 a.es v;refine Zc1 (Zc3 hlt (QaH hv) (Qb4 (nz_at hv))) ?_;have hpn:∀y∈preds a.es v,y<a.n:=fun y hy=>by obtain⟨e,he,h1,h2⟩:=QdX.1 hy;have:=(hin.1 e he).1;omega
   by_cases hk:v∈keysR a.es
   ·refine Qn6 hk ?_;refine Zc0 ?_;refine Qar 220 (fun j:Nat=>[(65,sliN (preds a.es v)),(66,.int .i64 (preds a.es v).length),(0,pv a u l),(3,.sl 80 0 0 a.n 1),(5,.sl 81 0 0 (((preds a.es v).take j).foldl (bEd (lf l) v) s).2.length 1),(8,.int .i64 i),(67,.int .i64 j)]) (fun j=>[(80,.cells 0 (ints (((preds a.es v).take j).foldl (bEd (lf l) v) s).1)),(81,.cells 0 (ints (nz (((preds a.es v).take j).foldl (bEd (lf l) v) s).2)))]) (fun j=>j<=(preds a.es v).length) (fun j=>(preds a.es v).length-j) 0 6 240 (fun _:Unit=>[(0,pv a u l),(3,.sl 80 0 0 a.n 1),(5,.sl 81 0 0 (bRow a.es (lf l) v s).2.length 1),(8,.int .i64 i)]) (fun _=>[(80,.cells 0 (ints (bRow a.es (lf l) v s).1)),(81,.cells 0 (ints (nz (bRow a.es (lf l) v s).2)))]) (fun _=>True) ?_ (Zai _) ?_ ?_;·exact⟨[(80,.blk 80 0),(81,.blk 81 0)],rfl,au0,au5,au6⟩
    ·exact bgu8J
    exact bzeBQ
   ·refine QmK hk ?_;have hp0:=Qeb hk;refine Zc0 ?_;refine Qar 220 (fun j:Nat=>[(65,sliN (preds a.es v)),(66,.int .i64 (preds a.es v).length),(0,pv a u l),(3,.sl 80 0 0 a.n 1),(5,.sl 81 0 0 (((preds a.es v).take j).foldl (bEd (lf l) v) s).2.length 1),(8,.int .i64 i),(67,.int .i64 j)]) (fun j=>[(80,.cells 0 (ints (((preds a.es v).take j).foldl (bEd (lf l) v) s).1)),(81,.cells 0 (ints (nz (((preds a.es v).take j).foldl (bEd (lf l) v) s).2)))]) (fun j=>j<=(preds a.es v).length) (fun j=>(preds a.es v).length-j) 0 6 240 (fun _:Unit=>[(0,pv a u l),(3,.sl 80 0 0 a.n 1),(5,.sl 81 0 0 (bRow a.es (lf l) v s).2.length 1),(8,.int .i64 i)]) (fun _=>[(80,.cells 0 (ints (bRow a.es (lf l) v s).1)),(81,.cells 0 (ints (nz (bRow a.es (lf l) v s).2)))]) (fun _=>True) ?_ (Zai _) ?_ ?_;·exact⟨[(80,.blk 80 0),(81,.blk 81 0)],rfl,Zcs,au5,Zcu (by rw[hp0];exact Rn.nilK) (Zcu (by rw[hp0];exact Zck rfl) au6)⟩
    ·exact bgu8J
    exact bzeBQ
  ·have hv:s.2[i]?=none:=ZaF (by omega);have hqf:s.1=pDist a.n a.es a.ms (lf l):=by rw[<-hfin,<-hq,show a.n+1-i=(a.n-i)+1 by omega];simp only[bQ,hv]
   refine Zc1 hlt ?_;refine⟨(),?_⟩;rw[hqf];exact⟨[(80,.blk 80 0)],rfl,au0,au5,au6⟩
 rintro _ _;refine Zc0 ?_;exact⟨.inr trivial,_,rfl,⟨[(80,.blk 80 0)],rfl,au0,au5,au6⟩⟩
def bkC(rank:Int)(x:Nat):List AV:=[.int .i64 (x:Int),.int .i64 rank,.int .i64 3,.int .i64 (-1)]
theorem Qaz(rank)(l:List Nat):noRefs (l.flatMap (bkC rank))=true:=Qa5 (fun x=>rfl) l
def lsC(rank:Int)(p:Nat×Nat):List AV:=[.int .i64 (p.1:Int),.int .i64 rank,.int .i64 2,.int .i64 (p.2:Int)]
theorem Qap(rank)(l:List (Nat×Nat)):noRefs (l.flatMap (lsC rank))=true:=Qa5 (fun x=>rfl) l
theorem ls_rm(rank)(l):l.flatMap (lsC rank)=(lostF rank l).flatMap rmC:=by unfold lostF;rw[List.flatMap_map];rfl
theorem Qq8(rank)(l:List (Nat×Nat)):(l.flatMap (lsC rank)).length=l.length*4:=Qbe (f:=lsC rank) (k:=4) (fun _=>rfl) l
theorem Qq9{rank}{l:List (Nat×Nat)}(h:l[i]?=some p):(l.flatMap (lsC rank))[i*4]?=some (.int .i64 (p.1:Int)):=by
 have:=Qba (f:=lsC rank) (k:=4) (fun _=>rfl) h;have a:((l.flatMap (lsC rank)).drop (i*4))[0]?=some (.int .i64 (p.1:Int)):=by rw[this];rfl
 simpa using a
theorem QpT{e}(h:es[i]?=some e):pLost (es.take (i+1)) left unc=pLs left unc (pLost (es.take i) left unc) e:=by unfold pLost;rw[ZaZ,h,Option.toList,Za8];rfl
theorem Qra(es)(left)(unc):(pLost es left unc).length<=es.length:=by
 have key:∀(es:List Ed)(o:List (Nat×Nat)),(es.foldl (pLs left unc) o).length<=o.length+es.length:=by intro es;induction es with|nil=>intro o;simp|cons e es a=>intro o;rw[ZaR];refine ZaA (a _) ?_;unfold pLs;(repeat' split)<;>(try simp)<;>(try omega)
 have:=key es [];unfold pLost;simpa using this
theorem _root_.Go.AM.au7{p:Prop}(h:p:=by repeat'(first|exact Zcv|(refine Zcl ?_;first|rfl|(simp only[noRef,noRefs,SD.Qaa,SD.Qab,SD.Qaf,SD.Qag,SD.Qah,SD.Qai,SD.Qaj,SD.Qal,SD.Qan,SD.Qaq,SE.Qam,SE.Qao,SE.Qap,SE.Qaz,SO.QaO,SO.Qau,SO.Qay,Zad,Zae,Zag];done))|exact ZcJ rfl|exact ZcB|exact(True.intro:RnM _ _ _ [] [])|refine ZcC ?_ ?_|(refine Zck ?_;first|rfl|(simp only[noRef,noRefs,SD.Qaa,SD.Qab,SD.Qaf,SD.Qag,SD.Qah,SD.Qai,SD.Qaj,SD.Qal,SD.Qan,SD.Qaq,SE.Qam,SE.Qao,SE.Qap,SE.Qaz,SO.QaO,SO.Qau,SO.Qay,Zad,Zae,Zag];done))|exact Rn.x1 rfl rfl|exact Rn.x2 rfl rfl|exact Rn.x3 rfl rfl|exact Rn.x4 rfl rfl|exact Rn.x5 rfl|exact Rn.x6 rfl|exact Rn.x7 rfl|refine Zcx rfl rfl ?_|refine Zcw rfl rfl rfl ?_ ?_|refine Zcy rfl rfl rfl ?_ ?_|refine Zcz rfl rfl ?_ ?_|refine ZcA rfl rfl ?_ ?_)):p:=h
theorem _root_.Go.AM.au8{p:Prop}(h:p:=by repeat(first|exact Zct|(refine Zcu ?_ ?_;·(first|exact Zcj|exact Rn.x1 rfl rfl|exact Rn.x2 rfl rfl|exact Rn.x3 rfl rfl|exact Rn.x4 rfl rfl|exact Rn.x5 rfl|exact Rn.x6 rfl|exact Rn.x7 rfl|(refine ZcF ?_ ?_;(first|rfl|(rw[ZaG];rfl));(first|rfl|(simp only[noRef,noRefs,SD.Qaa,SD.Qab,SD.Qaf,SD.Qag,SD.Qah,SD.Qai,SD.Qaj,SD.Qal,SD.Qan,SD.Qaq,SE.Qam,SE.Qao,SE.Qap,SE.Qaz,SO.QaO,SO.Qau,SO.Qay,Zad,Zae,Zag];done)))|(refine Rn.fn ?_ ?_<;>(repeat'(first|exact ZcB|refine ZcC ?_ ?_|exact Zck rfl|exact Rn.x6 rfl|exact Rn.x2 rfl rfl|exact Rn.x5 rfl|exact Rn.x1 rfl rfl))))))):p:=h
theorem lost47(a:Aut)(u)(l)(rank)(hes:∀e∈a.es,e.1<a.n/\e.2.2<a.n)(hl:l.length=a.n)(hel:a.es.length<=1000000)(hul:u.length<=1000000):HSpec Tryz.prog 176 [pv a u l,.int .i64 rank] .e (.sl 80 0 0 (lostF rank (pLost a.es (lf l) u)).length 4) (hp [(80,.cells 0 ((lostF rank (pLost a.es (lf l) u)).flatMap rmC))]):=by
 rw[<-ls_rm,show(lostF rank (pLost a.es (lf l) u)).length=(pLost a.es (lf l) u).length by unfold lostF;rw[Zav]];refine ZcN 100 (Ok s176) rfl ?_;unfold s176;refine Zc0 ?_;refine Qar 100 (fun i:Nat=>[(0,pv a u l),(1,.int .i64 rank),(5,.sl 80 0 0 (pLost (a.es.take i) (lf l) u).length 4),(13,egsN a.es),(14,.int .i64 a.es.length),(15,.int .i64 i)]) (fun i=>[(80,.cells 0 ((pLost (a.es.take i) (lf l) u).flatMap (lsC rank)))]) (fun i=>i<=a.es.length) (fun i=>a.es.length-i) 0 0 120 (fun _:Unit=>[(5,.sl 80 0 0 (pLost a.es (lf l) u).length 4)]) (fun _=>[(80,.cells 0 ((pLost a.es (lf l) u).flatMap (lsC rank)))]) (fun _=>True) ?_ (Zai _) ?_ ?_;·exact⟨[(80,.nil)],rfl,au0,au7,au8⟩
 ·rintro i hi;by_cases hlt:i<a.es.length
  ·obtain⟨e,he⟩:=Qak hlt;obtain⟨hfr,hto⟩:=hes e (Zac he);have hst:=QpT (left:=lf l) (unc:=u) he;have hol:=Qra (a.es.take i) (lf l) u;rw[Zaq]at hol;generalize pLost (a.es.take i) (lf l) u=o at*;have hfl:e.1<l.length:=by omega
   have htl:e.2.2<l.length:=by omega
   by_cases h1:lf l e.1=true
   ·by_cases h2:lf l e.2.2=true
    ·have :bad (lf l) u e=false:=by simp[bad,h2]
     rw[pLs,if_neg (by simp[this])]at hst;refine Zc1 (Zc8 hlt (QaT he) hfr hto (Qa7 hfl) (Qa7 htl) h1 h2) ?_;refine⟨i+1,by omega,by omega,?_⟩;rw[hst];exact⟨[(80,.blk 80 0)],rfl,au0,au7,au8⟩
    ·rw[Zam]at h2;by_cases h3:u.contains e.2.1=true
     ·have hb:bad (lf l) u e=true:=by simp only[bad,h1,h2,h3];rfl
      rw[pLs,if_pos hb]at hst;refine Zc1 (Zc8 hlt (QaT he) hfr hto (Qa7 hfl) (Qa7 htl) h1 h2) ?_;have hc:=contains62 (nz u) e.2.1 (by simp;omega);rw[Qb2,Qfj,h3]at hc;refine cp hc ?_;by_cases h4:o.length=0
      ·have ho:o=[]:=ZbW h4;have hlast:o.getLast?=none:=by rw[ho];rfl
       rw[hlast,if_neg (by simp)]at hst;have h6:¬(0:Int)<(o.length:Int):=by omega
       have hll:=Qq8 rank o;refine Zc1 (Zc2 h6 hll) ?_;refine⟨i+1,by omega,by omega,?_⟩;rw[hst,Zao,Zaf];exact⟨[(80,.blk 80 1)],rfl,au0,au7,au8⟩
      ·obtain⟨p,hp⟩:=Qak (l:=o) (i:=o.length-1) (by omega);have hlast:o.getLast?=some p:=by rw[List.getLast?_eq_getElem?];exact hp
       rw[hlast]at hst;have h5:(o.length:Int)-1=((o.length-1:Nat):Int):=by omega
       have h6:(0:Int)<(o.length:Int):=by omega
       have h7:((o.length-1:Nat):Int)<(o.length:Int):=by omega
       by_cases h8:p.1=e.1;·rw[if_pos (by simpa using h8)]at hst;simp(disch:=first|omega|exact PairsOK.mk rfl|(simp only[lenW]<;>omega))only[h5,h6,h7,Qq9 hp,h8,wW,wV,simprocAttr];refine⟨i+1,by omega,by omega,?_⟩;rw[hst];exact⟨[(80,.blk 80 0)],rfl,au0,au7,au8⟩
       ·rw[if_neg (by simpa using h8)]at hst;have hll:=Qq8 rank o;simp(disch:=first|omega|exact PairsOK.mk rfl|(simp only[lenW]<;>omega))only[h5,h6,h7,Qq9 hp,h8,hll,wW,wV,simprocAttr];refine⟨i+1,by omega,by omega,?_⟩;rw[hst,Zao,Zaf];exact⟨[(80,.blk 80 1)],rfl,au0,au7,au8⟩
     ·rw[Zam]at h3;have:bad (lf l) u e=false:=by simp only[bad,h1,h2,h3];rfl
      rw[pLs,if_neg (by simp[this])]at hst;refine Zc1 (Zc8 hlt (QaT he) hfr hto (Qa7 hfl) (Qa7 htl) h1 h2) ?_;have hc:=contains62 (nz u) e.2.1 (by simp;omega);rw[Qb2,Qfj,h3]at hc;refine cp hc ?_;refine Zc0 ?_;refine⟨i+1,by omega,by omega,?_⟩;rw[hst];exact⟨[(80,.blk 80 0)],rfl,au0,au7,au8⟩
   ·rw[Zam]at h1;have:bad (lf l) u e=false:=by simp[bad,h1]
    rw[pLs,if_neg (by simp[this])]at hst;refine Zc1 (Zc7 hlt (QaT he) hfr hto (Qa7 hfl) (Qa7 htl) h1) ?_;refine⟨i+1,by omega,by omega,?_⟩;rw[hst];exact⟨[(80,.blk 80 0)],rfl,au0,au7,au8⟩
  ·have e:i=a.es.length:=by omega
   subst e;refine Zc1 hlt ?_;refine⟨(),?_⟩;exact⟨[(80,.blk 80 0)],rfl,au0,au7,au8⟩
 rintro _ _;refine Zc0 ?_;exact⟨.inr trivial,_,rfl,⟨[(80,.blk 80 0)],rfl,au0,au7,au8⟩⟩
def blkP(left:Nat->Bool)(d:List Int)(n:Nat):List Nat:=(List.range n).filter fun i=>left i&&decide (d.getD i 0<0)
theorem Qu7(rank)(l:List Nat):(l.flatMap (bkC rank)).length=l.length*4:=Qbe (f:=bkC rank) (k:=4) (fun _=>rfl) l
theorem QoV(left)(rank)(d):blkF left rank d=(blkP left d d.length).map fun x=>⟨x,rank,3,-1⟩:=by unfold blkF blkP;generalize List.range d.length=r;induction r with|nil=>rfl|cons x r a=>
 rw[ZbA,ZbM];by_cases h:(left x&&decide (d.getD x 0<0))=true;·rw[if_pos h,if_pos h,ZaL,<-a]
 rw[if_neg h,if_neg h,<-a]
theorem bk_rm(left)(rank)(d):(blkP left d d.length).flatMap (bkC rank)=(blkF left rank d).flatMap rmC:=by rw[QoV,List.flatMap_map];rfl
theorem QsR(left)(d)(n):(blkP left d n).length<=n:=by unfold blkP;exact ZaA (Za7 _ _) (by simp)
theorem Qrb:blkP left d (i+1)=blkP left d i++if left i&&decide (d.getD i 0<0)then[i]else[]:=by
 unfold blkP;rw[ZaK,Zbm];congr 1;by_cases h:(left i&&decide (d.getD i 0<0))=true;·rw[if_pos h,ZbM,if_pos h];rfl
 rw[if_neg h,ZbM,if_neg h];rfl
theorem Qk6(a:InN n es mk)(b:mk.Nodup):(pDist n es mk left).length=n:=(Qqu a (n+1) 0 _ (QjD a b) (by omega)).1
theorem blocked48(a)(u)(l)(rank)(h:InN a.n a.es a.ms)(k:a.ms.Nodup)(s:l.length=a.n)(v:a.n<=4096)(p:a.es.length<=1000000)(n:a.ms.length<=1000000):HSpec Tryz.prog 177 [pv a u l,.int .i64 rank] .e (.sl 81 0 0 (blkF (lf l) rank (pDist a.n a.es a.ms (lf l))).length 4) (hp [(81,.cells 0 ((blkF (lf l) rank (pDist a.n a.es a.ms (lf l))).flatMap rmC))]):=by
 have r:=Qk6 (left:=lf l) h k;have t:=dist53 a u l h k s v p n;generalize pDist a.n a.es a.ms (lf l)=d at*;rw[<-bk_rm,QoV,Zav,r];refine ZcN 100 (Ok s177) rfl ?_;unfold s177;refine Zc0 ?_;refine ch (ZcM (b:=80) (by(try simp only[noRefs,Qam,Qao,Qaa,Qal,Qag,Qan,Qap,Qaz,Qai,noRef,Zae,Zad])<;>rfl) t (by repeat(first|exact Fresh.e|exact Zco (by assumption) (by omega)|refine Zcp ?_ (by omega) (by omega))) rfl) ?_;refine Zc0 ?_;refine Qar 110 (fun i:Nat=>[(0,pv a u l),(1,.int .i64 rank),(5,.sl 81 0 0 (blkP (lf l) d i).length 4),(9,.sl 80 0 0 a.n 1),(10,.int .i64 a.n),(11,.int .i64 i)]) (fun i=>[(80,.cells 0 (ints d)),(81,.cells 0 ((blkP (lf l) d i).flatMap (bkC rank)))]) (fun i=>i<=a.n) (fun i=>a.n-i) 0 0 120 (fun _:Unit=>[(5,.sl 81 0 0 (blkP (lf l) d a.n).length 4)]) (fun _=>[(81,.cells 0 ((blkP (lf l) d a.n).flatMap (bkC rank)))]) (fun _=>True) ?_ (Zai _) ?_ ?_;·exact⟨[(80,.blk 80 0),(81,.nil)],rfl,au0,au7,au8⟩
 ·rintro i hi;by_cases c:i<a.n
  ·have b:=Qrb (left:=lf l) (d:=d) (i:=i);have w:=QsR (lf l) d i;generalize blkP (lf l) d i=o at*;have g:i<l.length:=by omega
   have f:i<d.length:=by omega
   have q:=Qu7 rank o;by_cases h1:lf l i=true
   ·by_cases m:d.getD i 0<0;·rw[if_pos (by rw[h1,decide_eq_true m];rfl)]at b;refine Zc1 (Zc6 c (Qbl f) (Qa7 g) h1 m q) ?_;refine⟨i+1,by omega,by omega,?_⟩;rw[b,Zao,Zaf];exact⟨[(80,.blk 80 0),(81,.blk 81 1)],rfl,au0,au7,au8⟩
    rw[if_neg (by rw[h1,decide_eq_false m];decide),Zas]at b;refine Zc1 (Zc5 c (Qbl f) (Qa7 g) h1 m) ?_;exact bFgLS
   rw[if_neg (by simp[h1]),Zas]at b;rw[Zam]at h1;refine Zc1 (Zc4 c (Qbl f) (Qa7 g) h1) ?_;exact bFgLS
  have e:i=a.n:=by omega
  subst e;refine Zc1 c ?_;refine⟨(),?_⟩;exact⟨[(81,.blk 81 0)],rfl,au0,au7,au8⟩
 rintro _ _;refine Zc0 ?_;exact⟨.inr trivial,_,rfl,⟨[(81,.blk 81 0)],rfl,au0,au7,au8⟩⟩
theorem QgI(l:List Rm):(l.flatMap rmC).length=l.length*4:=Qbe (f:=rmC) (k:=4) (fun _=>rfl) l
theorem QtW(l:List Rm):flatVs (l.flatMap rmC)=true:=by induction l with|nil=>rfl|cons x l a=>rw[Zay];simp only[rmC,ZaU,ZaW,flatVs,flatV,Zag];exact a
theorem QcH(l):flatVs (ints l)=true:=by induction l with|nil=>rfl|cons x l a=>simp only[ints,ZaL,flatVs,flatV,Zag];exact a
theorem FrzTo.all{b g len sz}(c:h.get b=some (.cells g cs))(a:cs.length=len*sz):FrzTo h (.sl b g 0 len sz) (.fsl cs len sz):=by refine FrzTo.sl c (by omega) ?_;rw[ZaX,<-a,Zan];exact Zcr _
theorem frzP{l:LB}(d:h.get 70=some (.cells 0 (pblk a u)))(c:h.get 71=some (.map 0 (mapF .i64 (backF a.es) (keysR a.es))))(b:h.get 72=some (.cells 0 (bls l)))(f:l.length=a.n):FrzTo h (.ptr 70 0 0) (pv a u l):=by refine ZcH d ?_;rw[ZaX];exact ZcL (Zcq _) (ZcL (Zcq _) (ZcL (Zcq _) (ZcL (Zcq _) (ZcL (Zcq _) (ZcL (FrzTo.mapF c fun x _=>Zcq _) (ZcL (FrzTo.all b (by rw[QjJ,f,Zb6])) ZcK))))))
theorem next35(a)(u)(l)(rank)(all)(d:InN a.n a.es a.ms)(g:a.ms.Nodup)(i:l.length=a.n)(m:a.n<=4096)(b:a.es.length<=1000000)(h:a.ms.length<=1000000)(f:u.length<=1000000):HSpec Tryz.prog 119 [pv a u l,.int .i64 rank,.bool all] .e (.sl 82 0 0 (pNext a.n a.es a.ms (lf l) u rank all).length 4) (hp [(82,.cells 0 ((pNext a.n a.es a.ms (lf l) u rank all).flatMap rmC))]):=by
 have h1:=lost47 a u l rank (fun e he=>d.1 e he) i b f;have k:=blocked48 a u l rank d g i m b h;have hlen:(lostF rank (pLost a.es (lf l) u)).length=(pLost a.es (lf l) u).length:=by unfold lostF;rw[Zav]
 unfold pNext;refine ZcN 100 (Ok s119) rfl ?_;unfold s119;refine Zc0 ?_;refine ch (ZcM (b:=80) (by(try simp only[noRefs,Qam,Qao,Qaa,Qal,Qag,Qan,Qap,Qai,noRef,Zae,Zad])<;>rfl) h1 (by repeat(first|exact Fresh.e|exact Zco (by assumption) (by omega)|refine Zcp ?_ (by omega) (by omega))) rfl) ?_;rw[hlen];by_cases c:0<(pLost a.es (lf l) u).length;·rw[if_pos (by simp[c])];rw[hlen];generalize pLost a.es (lf l) u=o at*;refine Zc1 c ?_;exact⟨.inr trivial,_,rfl,⟨[(82,.blk 80 0)],rfl,au0,au7,au8⟩⟩
 cases all with|false=>rw[if_pos (by simp)];rw[hlen];generalize pLost a.es (lf l) u=o at*;refine Zc1 c ?_;exact⟨.inr trivial,_,rfl,⟨[(82,.blk 80 0)],rfl,au0,au7,au8⟩⟩|true=>rw[if_neg (by simp[c])];generalize pLost a.es (lf l) u=o at*;refine Zc1 c ?_;refine ch (ZcM (b:=81) (by(try simp only[noRefs,Qam,Qao,Qaa,Qal,Qag,Qan,Qap,Qai,noRef,Zae,Zad])<;>rfl) k (by repeat(first|exact Fresh.e|exact Zco (by assumption) (by omega)|refine Zcp ?_ (by omega) (by omega))) rfl) ?_;generalize blkF (lf l) rank (pDist a.n a.es a.ms (lf l))=q at*;refine Zc0 ?_;exact⟨.inr trivial,_,rfl,⟨[(82,.blk 81 0)],rfl,au0,au7,au8⟩⟩
theorem WfA.auOk(h:WfA a)(c:a.es.length<=1000000):AuOk (au a):=by
 have g:a.al.length<=32:=Qa4 32 a.al (by rw[ZaO];exact h.al.imp fun h=>by omega) h.al5;have d:a.ms.length<=a.n:=Qa4 a.n a.ms h.nd h.msn;have f:=h.n5;refine{len:=?_,all:=?_,fr:=?_,to:=?_,ev:=?_,up:=?_,alS:=SetOk.nz (n:=32) (fun x b=>by have:=h.al5 x b;omega) h.al,msS:=SetOk.nz h.msn h.ms,mslen:=?_,n0:=?_,nm:=?_};·show(a.es.map eg).length<=_;simp;omega
 ·show(nz a.al).length<=_;simp;omega
 ·intro e he;obtain⟨x,b,rfl⟩:=Zap.1 he;have:=h.esn x b;show(0:Int)<=x.1/\(x.1:Int)<a.n;omega
 ·intro e he;obtain⟨x,b,rfl⟩:=Zap.1 he;have:=h.esn x b;show(0:Int)<=x.2.2/\(x.2.2:Int)<a.n;omega
 ·intro e he;obtain⟨x,b,rfl⟩:=Zap.1 he;exact Zap.2 ⟨x.2.1,h.ev x b,rfl⟩
 ·show(a.es.map eg).Pairwise _;rw[Zbl];refine h.es.imp fun h=>?_;show(_:Int)<_\/(_:Int)=_/\(_:Int)<_;simp only[eg];omega
 ·show(nz a.ms).length<=_;simp;omega
 ·show(0:Int)<=(a.n:Int);omega
 show(a.n:Int)<=4096;omega
structure QOk(a:Aut)(f u:List Nat):Prop where
 fS:f.Pairwise (·<·)fn:∀x∈f,x<a.n
 uS:u.Pairwise (·<·)un:∀x∈u,x<32
theorem QbW{l:List Nat}(h:l.Pairwise (·<·))(a:∀x∈l,x<n):l.length<=n:=Qa4 n l (by rw[ZaO];exact h.imp fun h=>by omega) a
theorem WfA.elK(h:WfA a)(g:∀x∈a.al,x<k):a.es.length<=a.n*k:=by
 have f:∀e∈a.es,e.2.1<k:=fun e he=>g _ (h.ev e he);have i:(a.es.map fun e=>e.1*k+e.2.1).Pairwise (·<·):=by
  rw[Zbl];refine h.es.imp_of_mem fun{x y}b l d=>?_;have h1:=f x b;rcases d with c|⟨c,m⟩;·have :=Za5 k (show x.1+1<=y.1 from c);rw[Zbg]at this;omega
  rw[c];omega
 have:=QbW i (n:=a.n*k) fun x b=>by obtain⟨e,he,rfl⟩:=Zap.1 b;have h1:=f e he;have:=Za5 k (show e.1+1<=a.n from(h.esn e he).1);rw[Zbg]at this;show e.1*k+e.2.1<_;omega
 rwa[Zav]at this
theorem WfA.el1(h:WfA a):a.es.length<=131072:=by have h1:=WfA.elK h h.al5;have b:=Za5 32 h.n5;omega
end Go.AM.SE
namespace Go.AM
variable{P:Program}
end Go.AM
namespace Go.AM
variable{P:Program}
theorem HSpec.empty{f sz}{d}{h h'}{v}(h1:HSpec P f (.nilsl::d) h v h')(g:HSpec P f (.nsl::d) h v h'):HSpec P f (.fsl [] 0 sz::d) h v h':=by
 obtain⟨hc,h1⟩:=h1;obtain⟨_,g⟩:=g;refine⟨hc,fun c w b H l=>?_⟩;simp only[VRels]at l;obtain⟨u,us,e,k,i⟩:=l;simp only[VRel]at k;rcases k with⟨⟨a,rfl⟩,_⟩|⟨m,off,cap,C,_,_,rfl,_⟩;·cases a with|none=>exact h1 c w b H (by rw[e];simp only[VRels];exact⟨_,_,rfl,by simp[VRel],i⟩)|some a=>exact g c w b H (by rw[e];simp only[VRels];exact⟨_,_,rfl,by simp[VRel],i⟩)
 exact g c w b H (by rw[e];simp only[VRels];exact⟨_,_,rfl,by simp[VRel],i⟩)
end Go.AM
namespace Go.AM
variable{v:AV}{h:Heap}{k:IntKind}{ks l:List Nat}{i m n:Nat}{f g:Nat->AV}{π:Nat->Option Src}{s:Nat->Src}{x:Src}
theorem Qi6:∀{A B:List (Nat×Src)},srcNew x A=true->srcNew x B=true->srcNew x (A++B)=true|[],B,_,h=>h|(j,t)::A,B,h1,a=>by simp only[srcNew,Zab]at h1;rw[ZaU];simp only[srcNew,Zab];exact⟨h1.1,Qi6 h1.2 a⟩
theorem QfR{f}(m:okPs 0 (psL s ks) (rowsL f ks)=true):∀{A:List (Nat×Src)}{L:HL},okPs 0 A L=true->(∀p∈A,p.1<300)->(∀p∈A,∀b g,p.2=.blk b g->∀k∈ks,∀a i,s k=.blk a i->b≠a)->okPs 0 (A++psL s ks) (L++rowsL f ks)=true
 |[],[],_,_,_=>m|[],_::_,h,_,_=>by simp[okPs]at h|_::_,[],h,_,_=>by simp[okPs]at h|(b,t)::A,(a,x)::L,h,n,l=>by
  simp only[okPs,Zab,Zbh]at h;obtain⟨⟨⟨⟨h1,w⟩,c⟩,v⟩,u⟩:=h;rw[ZaU,ZaU];simp only[okPs,Zab,Zbh];refine⟨⟨⟨⟨h1,w⟩,?_⟩,?_⟩,QfR m u (fun p hp=>n p (by simp[hp])) (fun p hp=>l p (by simp[hp]))⟩
  ·rcases c with c|⟨c,o⟩;·exact .inl c
   refine .inr ⟨c,Qi6 o ?_⟩;cases e:t with|nil=>exact QfP|blk k g=>exact Qcy fun j r a i q=>l (b,t) (by simp) k g e j r a i q
  rw[ZbS,v,Zag,ZaH];intro p hp;have o:=Qe1 hp;have y:=n (b,t) (by simp);have d:Nat.beq p.1 b=false:=by
   rw[ZaJ];intro d;have:p.1=b:=by simpa using d
   omega
  simp[d]
theorem Qfn{k}(a:k∈ks):∀{A:List (Nat×Src)},(∀p∈A,p.1<300)->ow 0 (A++psL s ks) (300+k)=some (s k):=by
 have key:∀{A:List (Nat×Src)},(∀p∈A,p.1<300)->lkS (A++psL s ks) (300+k)=some (s k):=by intro A;induction A with|nil=>intro _;exact Qig a|cons p A b=>intro h;obtain⟨j,t⟩:=p;have:=h (j,t) (by simp);dsimp only at this;rw[ZaU];simp only[lkS];rw[if_neg (by omega)];exact b fun p hp=>h p (by simp[hp])
 grind[ow]
theorem Qfo:∀{ks:List Nat},(∀k∈ks,Rn m π h (f k) (g k))->RnL m π h (ks.map f) (ks.map g)|[],_=>trivial|j::ks,a=>⟨a j (by simp),Qfo fun k h=>a k (by simp[h])⟩
theorem RnO.agg{xs ys}(d:RnOL h xs ys):RnO h (.agg xs) (.agg ys):=fun _ c w v H a=>by simp only[VRel]at a⊢;obtain⟨b,rfl,a⟩:=a;exact⟨b,rfl,d.rels H a⟩
theorem RnO.nil{sz}:RnO h (.fsl [] 0 sz) .nilsl:=fun _ c w v H a=>by simp_all[VRel]
theorem QpU(h:∀x∈l,f x=g x):mapF k f l=mapF k g l:=by simp_all[mapF]
theorem Qrc(h:i<n):((List.range n).map f).set i v=(List.range n).map (updF f i v):=by
 apply Zbx;intro j;rw[List.getElem?_set];by_cases e:i=j;·subst e;rw[if_pos rfl,if_pos (by simpa using h)];simp[updF,h]
 grind[updF]
theorem Qk7(h:i<n):((List.range n).map f)[i]?=some (f i):=by simp[h]
variable{P:Program}
theorem HSpec.freeze{f b g len sz}{args ds}{h1}(S:HSpec P f args h (.sl b g 0 len sz) h1)(M:h1.get b=some (.cells g ds))(hf:flatVs ds=true)(hl:len*sz<=ds.length)(U:Nat.blt b 1099511627775=true):HSpec P f args h (.fsl (ds.take (len*sz)) len sz) (h1.set b (.dead g)):=by
 have q:b<1099511627775:=by simp_all
 obtain⟨hc,hs⟩:=S;refine⟨hc,fun c w p H ha=>(hs c w p H ha).mono ?_⟩;rintro e J⟨cv,r,rfl,E,H',V⟩;have d:Live h1 b g:=⟨_,M,rfl,fun _=>by simp⟩;let u:Ctx (okc P):={r with F:=fun k=>r.F k\/∃base,r.ρ b g=some (.loc k base),O:=fun k=>r.O k/\¬∃base,r.ρ b g=some (.loc k base)};have i:∀k,(h1.set b (.dead g)).get k=if k=b then some (.dead g)else h1.get k:=fun k=>by
  by_cases e:k=b;·subst e;rw[QaE q,if_pos rfl]
  simp_all[QaL]
 have G:∀k y,Live (h1.set b (.dead g)) k y->k≠b/\Live h1 k y:=by
  rintro k y⟨x,a,Y,O⟩;rw[i]at a;split at a;·grind
  rename_i e;exact⟨e,x,a,Y,O⟩
 have E2:Evo c w u J:=⟨E.os,E.tape,E.output,E.size,E.shape,E.keep,E.rho,fun k a=>.inl (E.frz k a),fun k a=>by
  rcases a with a|⟨base,a⟩;·exact E.frzNew k a
  rcases E.own k (H'.owned d a)with h|h;·simp_all
  omega,fun k a=>E.own k a.1,E.base⟩;refine⟨cv,u,rfl,E2,⟨fun k a y=>?_,fun k x a y s=>?_,fun k x a=>?_,fun k y k' y' I base m l1 X p1 p2=>H'.inj k y k' y' I base m (G _ _ l1).2 (G _ _ X).2 p1 p2,fun k l K=>?_,fun k l=>?_,fun k K=>H'.inO k K.1⟩,?_⟩
 ·rw[i]at a;split at a;·cases a
  exact H'.fresh k a y
 ·rw[i]at a;split at a;·rename_i e;subst e;cases a;exact H'.later k _ M y s
  exact H'.later k x a y s
 ·rw[i]at a;split at a;·cases a;trivial
  rename_i e;refine Zcg (c:=r) (c':=u) (w:=J) (w':=J) ⟨fun _ _ _ h=>h,fun _ h=>.inl h,fun _ _ _ h=>h,fun _ C _ T h=>⟨C,T,h,rfl⟩⟩ (fun I base O hp=>?_) (H'.blk k x a);have B:Live h1 k x.gen:=⟨x,a,rfl,O⟩;exact⟨⟨H'.owned B hp,fun⟨m,Q⟩=>e (H'.inj _ _ _ _ _ _ _ B d hp Q)⟩,rfl⟩
 ·rcases l with l|l;·exact H'.disj k l K.1
  grind
 ·rcases l with l|⟨base,l⟩;·exact H'.inF k l
  exact H'.inO k (H'.owned d l)
 simp only[VRel]at V;rcases V with⟨hp,rfl,_,rfl⟩|⟨I,base,o,cap,C,e,T,hp,rfl,hlc,hC,t⟩;·simp_all[VRel]
 obtain⟨C',e',fr',K,A,hfr,hbs,z⟩:=H'.here M hp;rw[hC]at A;cases A;have l:u.F I:=.inr ⟨base,hp⟩;by_cases h0:cap=0
 ·have R:len=0:=by omega
  subst R;simp only[VRel];simp_all
 obtain⟨rfl,hbd⟩:=t.resolve_left h0;have L:=VPre.flat (c':=u) (w':=J) hf z;have hp3:=VPre_take2 (len*sz) L;simp only[VRel];grind where VPre_take2{c:Ctx (okc P)}{w:World}:∀(n:Nat){xs:List AV}{F:List Value},VPre c w xs F->VPre c w (xs.take n) F|0,xs,F,h=>by simp[VPre]|n+1,[],F,h=>by simp[VPre]|n+1,x::xs,F,h=>by simp only[VPre]at h;obtain⟨v,N,rfl,h1,Z⟩:=h;simp only[Za2,VPre];exact⟨v,N,rfl,h1,VPre_take2 n Z⟩
end Go.AM
namespace Go.AM
variable{P:Program}
variable{v:AV}{x:Blk}{h:Heap}{args xs ys:List AV}{vs:List Value}{b f g:Nat}{sf:SFn}{w:World}
def OnlyD(D:Nat->Prop)(args:List AV):Prop:=∀(ok:Okc)(c a:Ctx ok)(w:World)(d:List Value),(∀b g,D b->a.ρ b g=c.ρ b g)->(∀k,c.F k->a.F k)->VRels c w args d->VRels a w args d
theorem OnlyD.nil{D}:OnlyD D []:=fun _ c b w a _ _ h=>by grind[VRels]
theorem OnlyD.cons{D}{x}(i:OnlyD D [x])(h:OnlyD D xs):OnlyD D (x::xs):=fun ok c d w m h1 f b=>by simp only[VRels]at b⊢;obtain⟨v,a,rfl,n,k⟩:=b;have:=i ok c d w [v] h1 f (by simp only[VRels];simp_all);simp only[VRels]at this;obtain⟨v2,l,e,g,_⟩:=this;cases e;exact⟨v,a,rfl,g,h _ c d w a h1 f k⟩
theorem OnlyD.same{D}{x}(d:noRef x=true):OnlyD D [x]:=fun _ c k w i h1 h b=>by simp only[VRels]at b⊢;obtain⟨v,a,rfl,f,g⟩:=b;exact⟨v,a,rfl,Zch h _ _ d f,g⟩
theorem OnlyD.sl{D}{off len sz}(m:D b):OnlyD D [.sl b g off len sz]:=fun _ c i w h h1 l d=>by simp only[VRels]at d⊢;obtain⟨v,a,rfl,k,f⟩:=d;refine⟨v,a,rfl,?_,f⟩;simp_all[VRel]
theorem OnlyD.ptr{D}{off}(m:D b):OnlyD D [.ptr b g off]:=fun _ c i w h h1 l d=>by simp only[VRels]at d⊢;obtain⟨v,a,rfl,k,f⟩:=d;refine⟨v,a,rfl,?_,f⟩;simp_all[VRel]
theorem OnlyD.fn{D}(m:OnlyD D xs)(l:OnlyD D ys):OnlyD D [.fn f xs ys]:=fun ok c d w q h1 h g=>by simp only[VRels]at g⊢;obtain⟨v,a,rfl,b,k⟩:=g;refine⟨v,a,rfl,?_,k⟩;simp only[VRel]at b⊢;obtain⟨p,o,rfl,i,n⟩:=b;exact⟨p,o,rfl,m ok c d w _ h1 h i,l ok c d w _ h1 h n⟩
theorem OnlyD.map{D}(m:D b):OnlyD D [.map b g]:=fun _ c i w h h1 l d=>by simp only[VRels]at d⊢;obtain⟨v,a,rfl,k,f⟩:=d;refine⟨v,a,rfl,?_,f⟩;simp_all[VRel]
def NoRefB:Blk->Prop|.cells _ cs=>noRefs cs=true|.map _ es=>∀e∈es,noRef e.1=true/\noRef e.2=true|.dead _=>True|_=>False
theorem VPre.noRef2{ok}{c c':Ctx ok}(a:∀k,c.F k->c'.F k)(b:noRefs xs=true)(h:VPre c w xs vs):VPre c' w xs vs:=VPre.noRef a _ _ b h
theorem MRel.noRef2{ok}{c c':Ctx ok}(b:∀k,c.F k->c'.F k):∀{xs:List (AV×AV)}{es:List MapEntry}{clock:Nat},(∀e∈xs,noRef e.1=true/\noRef e.2=true)->MRel c w xs es clock->MRel c' w xs es clock|[],_,_,_,h=>h|(k,x)::r,es,clock,d,h=>by obtain⟨e,a,h1,m,l,i,f,g⟩:=h;obtain⟨q1,q2⟩:=d (k,x) (by simp);exact⟨e,a,h1,Zch b _ _ q1 m,Zch b _ _ q2 l,i,f,MRel.noRef2 b (fun e he=>d e (by simp[he])) g⟩
theorem NoRefB.rel{ok}{c c':Ctx ok}(m:NoRefB x)(p:∀k,c.F k->c'.F k)(n:∀g,c'.ρ b g=c.ρ b g)(o:∀k g base,c.ρ b g=some (.loc k base)->(∀j,x≠.dead j)->x.gen=g->c.O k->c'.O k)(h:BRel c w b x):BRel c' w b x:=by cases x with|dead g=>trivial|map g es=>obtain⟨d,l,clock,h1,a,i,f⟩:=h;exact⟨d,l,clock,(n _).trans h1,o d g 0 h1 (fun _=>by simp) rfl a,i,MRel.noRef2 p m f.1,f.2⟩|loop=>exact m.elim|cells g cs=>
 rcases h with⟨h1,a⟩|⟨d,base,C,e,s,h1,a,i,f,q,r⟩;·exact .inl ⟨(n _).trans h1,a⟩
 exact .inr ⟨d,base,C,e,s,(n _).trans h1,o d g base h1 (fun _=>by simp) rfl a,i,f,q,VPre.noRef2 p m r⟩
theorem HSpec.frame{h1 q h':Heap}(D)[DecidablePred D](hs:HSpec P f args h1 v q)(ha:OnlyD D args)(hv:OnlyD D [v])(e1:∀k,h1.get k=if D k then h.get k else none)(e2:∀k,¬D k->q.get k=none)(e3:∀k,h'.get k=if D k then q.get k else h.get k)(n1:∀k x,h1.get k=some x->NoRefB x)(n2:∀k x,q.get k=some x->NoRefB x):HSpec P f args h v h':=by
 obtain⟨hc,hs⟩:=hs;refine⟨hc,fun c w L H M=>?_⟩;let I:Ctx (okc P):={ρ:=fun k y=>if D k then c.ρ k y else none,F:=c.F,O:=fun k=>∃b g base,D b/\Live h b g/\c.ρ b g=some (.loc k base),base:=c.base};have o:∀b y,D b->I.ρ b y=c.ρ b y:=fun b y t=>if_pos t;have Q:∀k,I.O k->c.O k:=fun k⟨b,g,base,_,R,a⟩=>H.owned R a;have C:∀{k x},h1.get k=some x->D k/\h.get k=some x:=fun{k x}a=>by simp_all
 have Z:∀{k y},Live h1 k y->D k/\Live h k y:=fun{k y}⟨x,a,hx,d⟩=>⟨(C a).1,x,(C a).2,hx,d⟩;have H1:HRel I h1 w:=by
  refine⟨fun k a y=>?_,fun k x a y u=>?_,fun k x a=>?_,fun k y T y' m base l s r z F=>?_,fun k hF i=>H.disj k hF (Q k i),H.inF,fun k i=>H.inO k (Q k i)⟩
  ·rw[e1]at a;split at a;·rename_i d;rw[o _ _ d];exact H.fresh k a y
   grind
  ·obtain⟨d,a⟩:=C a;rw[o _ _ d];exact H.later k _ a y u
  ·obtain⟨d,U⟩:=C a;exact NoRefB.rel (c:=c) (c':=I) (n1 k x a) (fun _ h=>h) (fun g=>o k g d) (fun m g base hp A G _=>⟨k,g,base,d,⟨x,U,G,A⟩,hp⟩) (H.blk k x U)
  obtain⟨Y,s⟩:=Z s;obtain⟨O,r⟩:=Z r;rw[o _ _ Y]at z;rw[o _ _ O]at F;exact H.inj _ _ _ _ _ _ _ s r z F
 refine(hs I w L H1 (ha _ c I w _ (fun b g t=>o b g t) (fun _ h=>h) M)).mono ?_;rintro e w'⟨cv,J,rfl,E,H',V⟩;let S:Ctx (okc P):={ρ:=fun k y=>if D k then J.ρ k y else c.ρ k y,F:=J.F,O:=fun k=>J.O k\/(c.O k/\¬I.O k),base:=c.base};have n:∀b y,D b->S.ρ b y=J.ρ b y:=fun b y t=>if_pos t;have B:∀b y,¬D b->S.ρ b y=c.ρ b y:=fun b y t=>if_neg t;have E2:Evo c w S w':=by
  refine⟨E.os,E.tape,E.output,E.size,E.shape,fun k a i=>E.keep k a fun h=>i (Q k h),fun b y p hp=>?_,fun k a=>E.frz k a,fun k a=>?_,fun k a=>?_,rfl⟩
  ·by_cases d:D b;·rw[n _ _ d];exact E.rho b y p ((o _ _ d).trans hp)
   simp_all
  ·rcases E.frzNew k a with h|h|h;·exact .inl h
   ·simp_all
   omega
  rcases a with a|a
  ·rcases E.own k a with h|h;·simp_all
   exact .inr h
  simp_all
 have K:∀{k x},h'.get k=some x->(D k/\q.get k=some x)\/(¬D k/\h.get k=some x):=fun{k x}a=>by grind
 have N:∀{k y},Live h' k y->(D k/\Live q k y)\/(¬D k/\Live h k y):=fun{k y}⟨x,a,hx,d⟩=>by
  rcases K a with⟨q1,q2⟩|⟨q1,q2⟩;·exact .inl ⟨q1,x,q2,hx,d⟩
  exact .inr ⟨q1,x,q2,hx,d⟩
 have X:∀{k y m base},¬D k->Live h k y->c.ρ k y=some (.loc m base)->¬I.O m:=by rintro k y m base d R hp⟨b,g,l,t,hlb,hpb⟩;have:=H.inj _ _ _ _ _ _ _ R hlb hp hpb;simp_all
 have hcross:∀{k y T y' m base l},D k->Live q k y->J.ρ k y=some (.loc m base)->¬D T->Live h T y'->c.ρ T y'=some (.loc m l)->False:=by
  intro k y T y' m base l d s z hd' r F;rcases E.own m (H'.owned s z)with h|h;·grind
  have:=H.inO m (H.owned r F);omega
 refine⟨cv,S,rfl,E2,⟨fun k a y=>?_,fun k x a y u=>?_,fun k x a=>?_,fun k y T y' m base l s r z F=>?_,fun k hF i=>?_,H'.inF,fun k i=>?_⟩,?_⟩
 ·rw[e3]at a;split at a;·rename_i d;rw[n _ _ d];exact H'.fresh k a y
  rename_i d;rw[B _ _ d];exact H.fresh k a y
 ·rcases K a with⟨d,a⟩|⟨d,a⟩;·rw[n _ _ d];exact H'.later k x a y u
  rw[B _ _ d];exact H.later k x a y u
 ·rcases K a with⟨d,a⟩|⟨d,a⟩;·exact NoRefB.rel (c:=J) (c':=S) (n2 k x a) (fun _ h=>h) (fun g=>n k g d) (fun m g base hp A G i=>.inl i) (H'.blk k x a)
  refine Zcg (E2.ext H.disj) (fun m base A hp=>?_) (H.blk k x a);have R:Live h k x.gen:=⟨x,a,rfl,A⟩;have i:=H.owned R hp;have hn:=X d R hp;exact⟨.inr ⟨i,hn⟩,E.keep m (H.inO m i) hn⟩
 ·rcases N s with⟨Y,s⟩|⟨Y,s⟩
  ·rw[n _ _ Y]at z;rcases N r with⟨O,r⟩|⟨O,r⟩;·rw[n _ _ O]at F;exact H'.inj _ _ _ _ _ _ _ s r z F
   grind
  rw[B _ _ Y]at z;rcases N r with⟨O,r⟩|⟨O,r⟩;·grind
  rw[B _ _ O]at F;exact H.inj _ _ _ _ _ _ _ s r z F
 ·rcases i with i|⟨i,hn⟩;·exact H'.disj k hF i
  rcases E.frzNew k hF with h|h|h;·exact H.disj k h i
  ·exact hn h
  have:=H.inO k i;omega
 ·rcases i with i|⟨i,_⟩;·exact H'.inO k i
  exact Za0 (H.inO k i) E.size
 have h5:VRels J w' [v] [cv]:=by simp only[VRels];simp_all
 have h6:=hv _ J S w' [cv] (fun b g t=>n b g t) (fun _ h=>h) h5;simp_all[VRels]
theorem Qcj(a:b<1099511627775)(k):(hp [(b,x)]).get k=if k=b then some x else none:=by
 simp only[hp];by_cases e:k=b;·subst e;rw[QaE a,if_pos rfl]
 simp_all[QaL,get_e]
theorem Qfp{c}{y}(a:b<1099511627775)(hc:c<1099511627775)(k):(hp [(b,x),(c,y)]).get k=if k=b then some x else if k=c then some y else none:=by
 rw[Qa1];by_cases e:k=b;·subst e;rw[QaE a,if_pos rfl]
 simp_all[QaL,Qcj]
theorem HSpec.frameA{i}(n:HSpec P f args (hp [(b,.cells g xs)]) v (hp [(b,.cells i ys)]))(p:OnlyD (fun k=>k=b) args)(l:OnlyD (fun k=>k=b) [v])(m:noRefs xs=true)(o:noRefs ys=true)(q:h.get b=some (.cells g xs))(d:Nat.blt b 1099511627775=true):HSpec P f args h v (h.set b (.cells i ys)):=by
 exact b25Lu
theorem HSpec.frameM{i}{xs ys}(n:HSpec P f args (hp [(b,.map g xs)]) v (hp [(b,.map i ys)]))(p:OnlyD (fun k=>k=b) args)(l:OnlyD (fun k=>k=b) [v])(m:∀e∈xs,noRef e.1=true/\noRef e.2=true)(o:∀e∈ys,noRef e.1=true/\noRef e.2=true)(q:h.get b=some (.map g xs))(d:Nat.blt b 1099511627775=true):HSpec P f args h v (h.set b (.map i ys)):=by
 exact b25Lu
theorem HSpec.frameB{a l q}{us}(w:HSpec P f args (hp [(a,.cells l us),(b,.cells g xs)]) v (hp [(a,.cells l us),(b,.cells q ys)]))(t:OnlyD (fun k=>k=a\/k=b) args)(r:OnlyD (fun k=>k=a\/k=b) [v])(hu:noRefs us=true)(s:noRefs xs=true)(y:noRefs ys=true)(n:h.get a=some (.cells l us))(z:h.get b=some (.cells g xs))(o:a≠b)(m:Nat.blt a 1099511627775=true)(p:Nat.blt b 1099511627775=true):HSpec P f args h v (h.set b (.cells q ys)):=by
 have i:a<1099511627775:=by simp_all
 have d:b<1099511627775:=by simp_all
 refine HSpec.frame (fun k=>k=a\/k=b) w t r (fun k=>?_) (fun k c=>?_) (fun k=>?_) (fun k x c=>?_) (fun k x c=>?_);·rw[Qfp i d];grind
 ·simp_all[Qfp]
 ·rw[Qfp i d];by_cases e:k=a;·subst e;rw[if_pos rfl,if_pos (.inl rfl),QaL d o,n]
  rw[if_neg e];by_cases u:k=b;·subst u;rw[if_pos rfl,if_pos (.inr rfl),QaE d]
  simp_all[QaL]
 ·rw[Qfp i d]at c;split at c;·cases c;exact hu
  split at c;·cases c;exact s
  cases c
 rw[Qfp i d]at c;split at c;·cases c;exact hu
 split at c;·cases c;exact y
 cases c
theorem HSpec.Qg5{m:Nat}{L0 L}(n)(d:okFn P f sf=true)(o:Nat.ble args.length sf.n=true)(hm:(Nat.ble m 1099511627775&&L0.all fun p=>Nat.blt p.1 m)=true)(hw:wS P ⟨sf.n,m⟩ sf.body [] n (argT 0 args) (hp L0) fun e T k _=>(e=.normal\/e=.ret)/\∃vs,resV T k sf.res=some vs/\Rec m [(0,v)] L [(0,resOf vs)] k):HSpec P f args (hp L0) v (hp L):=by
 simp only[Zab,Nat.ble_eq]at hm;refine HSpec.of_W2 d (Zaw o) (fun b a=>?_) ((wpC.toW hw).mono ?_)
 ·have :∀M:HL,M.all (fun p=>Nat.blt p.1 m)=true->(hp M).get b=none:=by intro M;induction M with|nil=>intro _;exact get_e|cons q M h=>obtain⟨j,x⟩:=q;intro l;simp only[Zb3,Zab,Nat.blt,Nat.ble_eq]at l;rw[Qa1,QaL (by omega) (by omega)];exact h (by grind[Nat.blt])
  grind
 rintro e B⟨r,h1,vs,g,s,ho,c,a,i⟩;exact⟨h1,vs,_,g,Rec.maps ho a,Rec.heap ho a,Rec.dom ho c,i 0⟩
end Go.AM
