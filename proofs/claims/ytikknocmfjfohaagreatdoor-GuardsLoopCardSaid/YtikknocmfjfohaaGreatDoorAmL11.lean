/- A part of the proof of GuardsLoopCardSaid: lemmas on the way (AnBx, AnBa, AnBb, AnBc, AnRa, AnUa, AnUz, AnUk, AnUf, AnCza, AnCs, AmTg, AnBd, AnBe, AnBf, AnBg, AmTh, AmTj). Conditions: none of ours. -/
import Derived.Test.YtikknocmfjfohaaGreatDoorProg
import Derived.KernelRfl
import Derived.Test.YtikknocmfjfohaaGreatDoorAmL10
theorem Go.AM.Ok{n:Nat}(s:Go.AM.SFn)(h:Go.AM.okFn Go.Proofs.Tryz.prog n s=true:=by kernel_rfl):Go.AM.okFn Go.Proofs.Tryz.prog n s=true:=h
abbrev Go.AM.Ps:=Go.AM.PSpec Go.Proofs.Tryz.prog
theorem Go.AM.bg2rN{p:Prop}(h:p:=by
 refine⟨.inr trivial,_,rfl,?_⟩;have:a≠b:=fun e=>by subst e;rw[k]at g;cases g;exact h rfl
 simp[resOf,Qa2,this]):p:=h
theorem Go.AM.biq8S{p:Prop}(h:p:=by
 rintro i⟨hi,m⟩;by_cases a:i<t.length
 ·obtain⟨x,g⟩:=Qam a;obtain⟨p,hp⟩:=Qam (l:=b.lo) (i:=i) (by omega);obtain⟨q,h⟩:=Qam (l:=b.hi) (i:=i) (by omega);have d:i<b.lo.length:=by omega
  have c:i<b.hi.length:=by omega
  have l:b.lo.getD i 0=p:=Qaz hp;have n:b.hi.getD i 0=q:=Qaz h;by_cases k:x<p;·refine Zc0 (Zc6 a d c (QaD g) (QaD hp) (QaD h) k) ?_;exact⟨.inr trivial,_,rfl,by rw[Qe3 g (.inl (by rw[l];exact k))];rfl⟩
  by_cases b2:q<x;·refine Zc0 (Zc7 a d c (QaD g) (QaD hp) (QaD h) k b2) ?_;exact⟨.inr trivial,_,rfl,by rw[Qe3 g (.inr (by rw[n];exact b2))];rfl⟩
  refine Zc0 (Zc7 a d c (QaD g) (QaD hp) (QaD h) k b2) ?_;refine⟨i+1,by omega,⟨by omega,fun j y o f=>?_⟩,⟨[(51,.blk 51 0)],rfl,au0,au3,au4⟩⟩;by_cases e:j=i;·subst e;rw[g]at f;cases f;rw[l,n];omega
  exact m j y (by omega) f
 refine Zc0 a ?_;exact⟨.inr trivial,_,rfl,by rw[QmH fun j y f=>m j y (by have:=(Zai.1 f).1;omega) f];rfl⟩):p:=h
theorem Go.AM.b2gsH{p:Prop}(h:p:=by
 exact⟨i+1,by omega,by omega,⟨[(60,.blk 60 0),(70,.blk 70 0),(71,.blk 71 0),(72,.blk 72 0)],rfl,au0,au1,au2⟩⟩):p:=h
theorem Go.AM.bkapZ{p:Prop}(h:p:=by
 subst w;refine QfS ZaX hrn (fun k d j V L b g N O h1 z=>?_) (fun k d b g h1=>?_) (by decide) (by decide) (by decide)
 ·split at h1
  ·split at z;·split at h1<;>split at z<;>cases h1<;>cases z<;>omega
   cases z
  cases h1
 split at h1;·split at h1<;>cases h1<;>omega
 cases h1):p:=h
theorem Go.AM.bwgjm{p:Prop}(h:p:=by
 rename_i c;rw[Qb9 he,if_neg (fun C=>c C.symm),Zas];exact Rn.x1 rfl (by rw[Qcg (Zat.2 n)];simp[l,c])):p:=h
theorem Go.AM.bgFqx{p:Prop}(h:p:=by
 refine Zcw rfl (b:=300+k) (g:=0) (ds:=SE.rowF (a.es.take i) k) (by rw[Qcg d];simp[q,c]) (by simp(disch:=omega)only[QaF,QaI,QaZ,t k F c]) (RnL.eq ?_ (Qaa _)) Zcv;unfold SE.rowF;rw[Qb9 he,if_neg (fun C=>c C.symm),Zas]):p:=h
theorem Go.AM.bSf5o{p:Prop}(h:p:=by
 have hp:=Qei q;have:SE.rowF (a.es.take (i+1)) k=[]:=by unfold SE.rowF;rw[hp];rfl
 rw[this];exact Zcx rfl (by rw[Qcg d];simp[q]) Zcv):p:=h
theorem Go.AM.b5o1k{p:Prop}(h:p:=by
 rw[Zaf,ZbB];rw[Zaj,List.getElem?_set];rw[Zaj]at h1;split
 ·split;·simp only[Option.getD_some];omega
  simp only[Option.getD_none];omega
 omega):p:=h
theorem Go.AM.bBJhk{p:Prop}(h:p:=by
 rintro j hj;by_cases hjl:j<(preds a.es v).length
 ·obtain⟨y,hy⟩:=Qam hjl;have hyn:=hpn y (Zac hy);obtain⟨k1,k2,_,_,_,_⟩:=hrow ((preds a.es v).take j) (fun y hy=>Qd3.1 (ZaR hy));have hbdj:=Qfq (left:=lf l) (v:=v) ((preds a.es v).take j) s hbd;have hstep:=QkT (left:=lf l) (v:=v) (s:=s) hy;generalize((preds a.es v).take j).foldl (bEd (lf l) v) s=t at*;have hcn:=k1.cnt;have hln:=k1.len;have hil:i<t.2.length:=(Zai.1 k2).1;have hyl:y<l.length:=by omega
  have hy1:y+1<=t.1.length:=by omega
  have hyt:y<t.1.length:=by omega
  have hvt:v<t.1.length:=by omega
  have hv1:=k1.neg v hvn;have hv2:=hbdj v;by_cases h0:lf l y=true
  ·by_cases h2:t.1.getD y 0<0
   ·have hst:bEd (lf l) v t y=(t.1.set y (t.1.getD v 0+1),t.2++[y]):=by unfold bEd;rw[if_pos (by rw[h0,decide_eq_true h2];rfl)]
    rw[hst]at hstep;refine Zc0 (Zdc hjl (QaJ hy) hyn (Qbd hyl) h0 (Qbq hyt) h2 hil (Qbh (nz_at k2)) hvn (Qbq hvt) hy1 @QbH) ?_;refine⟨j+1,by omega,by omega,?_⟩;rw[hstep,QaM,QaB,Zaf];exact⟨[(80,.blk 80 0),(81,.blk 81 1)],rfl,au0,au5,au6⟩
   ·have hst:bEd (lf l) v t y=t:=by unfold bEd;rw[if_neg (by rw[h0,decide_eq_false h2];decide)]
    rw[hst]at hstep;refine Zc0 (Zc6 hjl (QaJ hy) hyn (Qbd hyl) h0 (Qbq hyt) h2) ?_;refine⟨j+1,by omega,by omega,?_⟩;rw[hstep];exact⟨[(80,.blk 80 0),(81,.blk 81 0)],rfl,au0,au5,au6⟩
  ·have hst:bEd (lf l) v t y=t:=by unfold bEd;rw[if_neg (by simp[h0])]
   rw[hst]at hstep;rw[Zam]at h0;refine Zc0 (Zc4 hjl (QaJ hy) hyn (Qbd hyl) h0) ?_;refine⟨j+1,by omega,by omega,?_⟩;rw[hstep];exact⟨[(80,.blk 80 0),(81,.blk 81 0)],rfl,au0,au5,au6⟩
 ·have e:j=(preds a.es v).length:=by omega
  subst e;refine Zc0 hjl ?_;refine⟨(),?_⟩;exact⟨[(80,.blk 80 0),(81,.blk 81 0)],rfl,au0,au5,au6⟩):p:=h
theorem Go.AM.bTNnL{p:Prop}(h:p:=by
 rintro _ _;refine ZcZ ?_;exact⟨(i+1,bRow a.es (lf l) v s),by dsimp only;omega,⟨hin',hbh',Qfq _ _ hbd,hq'⟩,⟨[(80,.blk 80 0),(81,.blk 81 0)],rfl,au0,au5,au6⟩⟩):p:=h
theorem Go.AM.bFgLS{p:Prop}(h:p:=by
 refine⟨i+1,by omega,by omega,?_⟩;rw[b];exact⟨[(80,.blk 80 0),(81,.blk 81 0)],rfl,au0,au7,au8⟩):p:=h
set_option linter.unusedSectionVars false
set_option maxHeartbeats 32000000
set_option maxRecDepth 100000
set_option linter.unusedVariables false
set_option linter.unusedSimpArgs false
namespace Go.AM.SE
open Go.Proofs
set_option maxHeartbeats 4000000
noncomputable section
def cf:YA.Cf:={most:=.pure,always:=[86,118,119,120,122,123,233,176,177,178,225,226,227,228,229,230,231,232,249].map fun k=>(k,.heap),value:=.pure,eqn:=false}
def s83:SFn:=by
 refine(?f:YA.Yt Tryz.prog cf 83 [[4],[6,7,8,9],[0,1,10],[4,10,11],[],[14,15],[5,16,17,18,19,20,21,22,23],[0,1,12,13,24],[4,24,25],[0,1,12,13]]) ?s ?h;case h=>exact YA.rr
 exact fun s _=>s
def s64:SFn:=by
 refine(?f:YA.Yt Tryz.prog cf 64 [[0,1,4],[2,3,5,6,7,8,9,10,11,12,13,14,15,16,17,18,19,20,21,22,23,24,25,26,27,28,29,30]]) ?s ?h;case h=>exact YA.rr
 exact fun s _=>s
def s95:SFn:=by
 refine(?f:YA.Yt Tryz.prog cf 95 [[4],[0,1,5,6,7,8]]) ?s ?h;case h=>exact YA.rr
 exact fun s _=>s
def s86:SFn:=by
 refine(?f:YA.Yt Tryz.prog cf 86 [[2],[3],[0,4],[0,4,5,6,7]]) ?s ?h;case h=>exact YA.rr
 exact fun s _=>s
def s59:SFn:=by
 refine(?f:YA.Yt Tryz.prog cf 59 [[0,6],[],[8,9,10,11],[12,15,16,17,18,19,20,21,22,23],[1,2,3,7,31,29,30,28,27,25,26,24,32,33,34,35,36,37,38],[6,32,13,14],[1,2,3,7,31,29,30,28,27,25,26,24]]) ?s ?h;case h=>exact YA.rr
 exact fun s _=>s
def s21:SFn:=by
 refine(?f:YA.Yt Tryz.prog cf 21 [[0,1,4],[6,7,8,9,10,11,12,13,14,15,16,17,18,19,20,21,22,23,24,25,26,27,28,29,30,31,32,33,34],[2,3,35],[4,35],[36,37,38,39],[40,43,44,45,46,47,48,49,50,51,52],[2,3,5,53],[4,53,41,42],[2,3,5]]) ?s ?h;case h=>exact YA.rr
 exact fun s _=>s
def s22:SFn:=by
 refine(?f:YA.Yt Tryz.prog cf 22 [[4],[6,7,8,9],[0,1,10],[4,10],[11,12,13],[14,17,18,19,20,21,22,23,24],[0,1,5,25],[4,25,15,16],[0,1,5]]) ?s ?h;case h=>exact YA.rr
 exact fun s _=>s
def s53:SFn:=by
 refine(?f:YA.Yt Tryz.prog cf 53 [[0],[2,4,19,20,21,22],[],[1],[],[26,27,28],[12,29,30,31,32,33,34,35,36,37],[38],[39],[23,24,25],[42,43,44,45],[46,47],[48],[],[52,53,54],[16,55,56,57,58,59,60,61],[62],[14,49,50,51,63,64,65,66,67,68,69],[70,71],[40,41],[3,13,72,73,74,75],[76],[],[80,81,82,83],[84,85,86,87,88,89],[17,90,91,92,93,94,95,96,97,98],[18,99,100,101,102,103,104,105,106],[17,18,90,107],[9,77,78,79,109,110,108,111,112,113,114],[10,115]]) ?s ?h;case h=>exact YA.rr
 exact fun s _=>s
def s90:SFn:=by
 refine(?f:YA.Yt Tryz.prog cf 90 [[2],[],[],[5],[6,9,10,11,12],[13,14,15,16,17],[13,7,8],[0,3,4,18]]) ?s ?h;case h=>exact YA.rr
 exact fun s _=>s
def s129:SFn:=by
 refine(?f:YA.Yt Tryz.prog cf 129 [[4],[6,7,8,9],[0,1,10],[4,10,11],[],[14,15],[5,16,17,18,19,20,21,22,23],[0,1,12,13,24],[4,24,25],[0,1,12,13]]) ?s ?h;case h=>exact YA.rr
 exact fun s _=>s
def s152:SFn:=by
 refine(?f:YA.Yt Tryz.prog cf 152 [[4],[6],[],[9,10],[11,12,13,14,15],[0,1,7,8,5,16,17],[4,5,16,18],[0,1,7,8]]) ?s ?h;case h=>exact YA.rr
 exact fun s _=>s
def s66:SFn:=by
 refine(?f:YA.Yt Tryz.prog cf 66 [[0,2],[5,6,7],[8],[1,3,9,10],[2,3,9,12,13,14],[1,11],[11,16,17,18],[1,15],[2,15,19,20,21,22,23],[24],[1,4,25,26],[1,4,25,27,28]]) ?s ?h;case h=>exact YA.rr
 exact fun s _=>s
def s254:SFn:=by
 refine(?f:YA.Yt Tryz.prog cf 254 [[4,5],[10,11],[12],[13,14],[15,16,17,18,19,20,21],[22,23,24,25,26],[9,27,28,29],[9,27,30],[0,1,6,7,8,52,42,51,48,50,49,47,46,45,43,44,41,39,40,38,36,37,31,32,33,34,35,53]]) ?s ?h;case h=>exact YA.rr
 exact fun s _=>s
def s251:SFn:=by
 refine(?f:YA.Yt Tryz.prog cf 251 [[0],[12,13,14,15],[16,17],[1,3,18,19],[18,20,21,22],[23],[],[26,27],[5,28,29,30],[31],[24,25,32,33],[34],[],[35,36,37],[38,42,43,44,45,46,47,48,41,49,50,8],[9],[51,52,53,54,55,56,57],[51,58,59,60,61,62],[],[66,67,68],[69,70,71,72,73],[74,75,76,77,78,79,80],[81,82,83,84,85],[11,74,86,87,88,89,90,91,92,93,94,95,96,97,98,99],[100],[63,64,65,39,40],[1,4,6,7,101,102,103],[3,104]]) ?s ?h;case h=>exact YA.rr
 exact fun s _=>s
def s118:SFn:=by
 refine(?f:YA.Yt Tryz.prog cf 118 [[0,6],[2,13,14,15,16,17,18,19,20],[21,22,23,24],[],[27,28],[8,29,30,31,32,33,34],[35],[1,25,26],[],[39,40,41],[10,42,43,44,45,46,47],[48],[3,36,37,38,49],[],[53,54,55],[12,56,57,58,59,60,61,62,63,64,65,66,67,68,69,70,71,72],[73],[7,50,51,52,74]] [(16,[(2,4)]),(2,[(12,15),(3,16),(5,16)])]) ?s ?h;case h=>exact YA.rr
 exact fun s _=>s
def s119:SFn:=by
 refine(?f:YA.Yt Tryz.prog cf 119 [[6],[8,9,10],[2,11,12,13,14,15,16],[0,1,7,17,18],[0,1,7,17,19,20,21]]) ?s ?h;case h=>exact YA.rr
 exact fun s _=>s
def s122:SFn:=by
 refine(?f:YA.Yt Tryz.prog cf 122 [[2],[11,12,13,14,15,16],[17],[],[20,21],[4,22,23,24],[25],[18,19],[26,27,28,29],[],[33,34,35],[36,37,38,39,40,41],[42,43,44,45],[7,46,47,48,49],[7,42,50],[30,31,32],[51,52,53],[54,57,58,59,60,61,62,63,64],[],[68,69,70],[71,72,73,74,75,76,77,78],[84,85,86,87,88,89,90,91,92,93,94,95],[10,96,97,98,99],[10,84,100],[65,66,67,55,56],[0,3,83,82,81,79,80,5,8,101]]) ?s ?h;case h=>exact YA.rr
 exact fun s _=>s
def s123:SFn:=by
 refine(?f:YA.Yt Tryz.prog cf 123 [[3],[15,16,17,18,19,20,21],[22,23,24,25,26,27,28,29,30,31,32,33,34,35],[0,4,36,37],[3,36,38,39,40,41,42,43],[44,45,46,47],[],[51,52,53],[54,55,56,57,58,59,60],[7,61,62,63,64,65,66,67,68,69,70,71,72,73],[7,61,74],[48,49,50,75,76],[77],[],[78,79,80],[81,84,85,86,87,88,89],[],[93,94,95],[97,98,99,100,96,101,102],[14,103],[104,105,106],[107,108,109,110],[111,112,113,114,115],[12,13,104,116,117,118,119,120,121,122,123,124,125],[126],[90,91,92,127,128,129,130,131,132,133,134,135],[136,137,138,139,140,141,142],[136,82,83],[0,5,8,10,143,144,145],[4,9,146,147]] [(20,[(2,10)])]) ?s ?h;case h=>exact YA.rr
 exact fun s _=>s
def s150:SFn:=by
 refine(?f:YA.Yt Tryz.prog cf 150 [[1],[9,10],[0,3,11,12,13],[11,14,15],[16,17,18,19,20,21],[],[22,23,24],[25,28,29,30,31,32],[33,34,35,36,37,38,39],[33],[40,41,42,43,44],[47,50,51,52,53,54,55,56,57,58,59,60],[61,62,63],[8,64,65,66,67,68,69,70,71,72,73,74,75,76],[8,64,48,49],[7,26,27],[0,3,5,6,46,45,77,78]]) ?s ?h;case h=>exact YA.rr
 exact fun s _=>s
def s132:SFn:=by
 refine(?f:YA.Yt Tryz.prog cf 132 [[4],[],[],[10,11,12,13],[15,16,17,21],[0,1,7,8,9,32,26,31,30,27,29,28,20,18,19,5,6,14],[5,6,14,23,24,25,33],[0,1,7,8,9,32,26,31,30,27,29,28,20,18,19,22],[4,22,34],[0,1,7,8,9,32,26,31,30,27,29,28,20,18,19]]) ?s ?h;case h=>exact YA.rr
 exact fun s _=>s
def s133:SFn:=by
 refine(?f:YA.Yt Tryz.prog cf 133 [[0,2],[6],[],[10,11,12,13],[15,16,17,18,24,25,29,30,36],[1,7,8,9,69,63,68,65,67,66,64,62,59,61,60,58,35,32,34,33,31,28,27,26,23,20,22,21,19,4,3,14],[14,38,39,40,41,42,43],[1,7,8,9,69,63,68,65,67,66,64,62,59,61,60,58,35,32,34,33,31,28,27,26,23,20,22,21,19,4,3,37],[2,37,44],[3,45,46,47,48,49,50,51],[4,5,52,53,54,55,56,57],[1,7,8,9,69,63,68,65,67,66,64,62,59,61,60,58,35,32,34,33,31,28,27,26,23,20,22,21,19,70],[2,70,71],[1,7,8,9,69,63,68,65,67,66,64,62,59,61,60,58,35,32,34,33,31,28,27,26,23,20,22,21,19]]) ?s ?h;case h=>exact YA.rr
 exact fun s _=>s
def s245:SFn:=by
 refine(?f:YA.Yt Tryz.prog cf 245 [[4],[0,1,5,6,7,8,9,10,11,12,13,14,15,16]]) ?s ?h;case h=>exact YA.rr
 exact fun s _=>s
def s278:SFn:=by
 refine(?f:YA.Yt Tryz.prog cf 278 [[2],[0,3,4,5]]) ?s ?h;case h=>exact YA.rr
 exact fun s _=>s
def s223:SFn:=by
 refine(?f:YA.Yt Tryz.prog cf 223 [[0,4],[10,11,12,13,9,14,15,6],[1,17,18,19,20,21,16,22,23,8],[2,5,7,24,25,26,27,28]]) ?s ?h;case h=>exact YA.rr
 exact fun s _=>s
def s176:SFn:=by
 refine(?f:YA.Yt Tryz.prog cf 176 [[4],[],[9,10,11,12],[],[16,17,18],[19,20,21,22,23,24,25,26,27,28,37,38],[47,48,49],[8,50,51,52],[7,62,63,64,65,66,67,68,69,70,71],[72],[0,1,5,13,14,15,61,58,60,59,57,56,53,55,54,46,45,42,44,43,41,40,39,36,35,32,34,33,31,30,29,73]]) ?s ?h;case h=>exact YA.rr
 exact fun s _=>s
def s177:SFn:=by
 refine(?f:YA.Yt Tryz.prog cf 177 [[4],[],[8],[],[12,13,14,15],[7,16,17,18,19,20,21,22,23],[6,26,27,28,29,30,31,32],[6,26,33],[0,1,5,9,10,11,25,24,34]]) ?s ?h;case h=>exact YA.rr
 exact fun s _=>s
def s189:SFn:=by
 refine(?f:YA.Yt Tryz.prog cf 189 [[],[0,3,4,5,6]]) ?s ?h;case h=>exact YA.rr
 exact fun s _=>s
def s190:SFn:=by
 refine(?f:YA.Yt Tryz.prog cf 190 [[0],[8,9],[10,11,12],[13,14,15],[],[16,17,18],[19,22,23,24,25,26,27],[28,29,30,31,32,33,34],[28],[35,36,37,38],[39,42,43,44,45,46,47,48,49,50,51,52],[53],[7,54,55,56,57,58,59,60,61,62,63,64,65,66,67,68,69],[7,54,40,41],[6,20,21],[1,3,4,5,70]]) ?s ?h;case h=>exact YA.rr
 exact fun s _=>s
def s276:SFn:=by
 refine(?f:YA.Yt Tryz.prog cf 276 [[2],[0,3,4,5]]) ?s ?h;case h=>exact YA.rr
 exact fun s _=>s
def s265:SFn:=by
 refine(?f:YA.Yt Tryz.prog cf 265 [[6,7],[12,13],[14],[15,16],[17,18,19,20,21,22,23],[24,25,26,27,28,29,30],[11,31,32,33],[11,31,34],[0,1,2,8,9,10,47,46,40,44,45,43,41,42,35,36,37,38,39,48]]) ?s ?h;case h=>exact YA.rr
 exact fun s _=>s
def s266:SFn:=by
 refine(?f:YA.Yt Tryz.prog cf 266 [[0,4],[1,2,5,6,7,8]]) ?s ?h;case h=>exact YA.rr
 exact fun s _=>s
def s267:SFn:=by
 refine(?f:YA.Yt Tryz.prog cf 267 [[0,4],[1,2,5,6,7,8]]) ?s ?h;case h=>exact YA.rr
 exact fun s _=>s
def s248:SFn:=by
 refine(?f:YA.Yt Tryz.prog cf 248 [[0,2],[],[7,8],[9,10,11,12],[9],[13,14,15],[16],[19,20,21,22],[23,26,27,28,29,30,31,32,33,34,35,36],[37,38,39],[6,44,45,46,47,48],[6,44,24,25],[5,17,18],[1,3,4,43,42,40,41,49]]) ?s ?h;case h=>exact YA.rr
 exact fun s _=>s
def s249:SFn:=by
 refine(?f:YA.Yt Tryz.prog cf 249 [[4],[],[6,7,8],[9,12,13,14,15,16],[0,1,5,17],[4,17,10,11],[0,1,5]]) ?s ?h;case h=>exact YA.rr
 exact fun s _=>s
def s250:SFn:=by
 refine(?f:YA.Yt Tryz.prog cf 250 [[4],[],[6,7,8],[9,12,13,14,15,16],[0,1,5,17,18],[4,17,10,11],[0,1,5]]) ?s ?h;case h=>exact YA.rr
 exact fun s _=>s
end
end Go.AM.SE
namespace Go.AM.SE
open Go.Proofs Go.AM.SD
variable{v:AV}{k:IntKind}{l:List Int}{a i n:Nat}{f:Nat->Int}{P:Program}{α:Type}
theorem _root_.Go.AM.Zc1{A B}(a:A)(b:B):A/\B:=⟨a,b⟩
theorem _root_.Go.AM.Zc2{A B C}(a:A)(b:B)(c:C):A/\B/\C:=⟨a,b,c⟩
theorem _root_.Go.AM.Zc3{A B C D}(a:A)(b:B)(c:C)(d:D):A/\B/\C/\D:=⟨a,b,c,d⟩
theorem _root_.Go.AM.Zc4{A B C D E}(a:A)(b:B)(c:C)(d:D)(e:E):A/\B/\C/\D/\E:=⟨a,b,c,d,e⟩
theorem _root_.Go.AM.Zc5{A B C D E F}(a:A)(b:B)(c:C)(d:D)(e:E)(f:F):A/\B/\C/\D/\E/\F:=⟨a,b,c,d,e,f⟩
theorem _root_.Go.AM.Zc6{A B C D E F G}(a:A)(b:B)(c:C)(d:D)(e:E)(f:F)(g:G):A/\B/\C/\D/\E/\F/\G:=⟨a,b,c,d,e,f,g⟩
theorem _root_.Go.AM.Zc7{A B C D E F G H}(a:A)(b:B)(c:C)(d:D)(e:E)(f:F)(g:G)(h:H):A/\B/\C/\D/\E/\F/\G/\H:=⟨a,b,c,d,e,f,g,h⟩
theorem _root_.Go.AM.Zc8{A B C D E F G H I}(a:A)(b:B)(c:C)(d:D)(e:E)(f:F)(g:G)(h:H)(i:I):A/\B/\C/\D/\E/\F/\G/\H/\I:=⟨a,b,c,d,e,f,g,h,i⟩
theorem _root_.Go.AM.Zc9{A B C D E F G H I J}(a:A)(b:B)(c:C)(d:D)(e:E)(f:F)(g:G)(h:H)(i:I)(j:J):A/\B/\C/\D/\E/\F/\G/\H/\I/\J:=⟨a,b,c,d,e,f,g,h,i,j⟩
theorem _root_.Go.AM.Zda{A B C D E F G H I J K}(a:A)(b:B)(c:C)(d:D)(e:E)(f:F)(g:G)(h:H)(i:I)(j:J)(k:K):A/\B/\C/\D/\E/\F/\G/\H/\I/\J/\K:=⟨a,b,c,d,e,f,g,h,i,j,k⟩
theorem _root_.Go.AM.Zdb{A B C D E F G H I J K L}(a:A)(b:B)(c:C)(d:D)(e:E)(f:F)(g:G)(h:H)(i:I)(j:J)(k:K)(l:L):A/\B/\C/\D/\E/\F/\G/\H/\I/\J/\K/\L:=⟨a,b,c,d,e,f,g,h,i,j,k,l⟩
theorem _root_.Go.AM.Zdc{A B C D E F G H I J K L M}(a:A)(b:B)(c:C)(d:D)(e:E)(f:F)(g:G)(h:H)(i:I)(j:J)(k:K)(l:L)(m:M):A/\B/\C/\D/\E/\F/\G/\H/\I/\J/\K/\L/\M:=⟨a,b,c,d,e,f,g,h,i,j,k,l,m⟩
theorem _root_.Go.AM.Zdd{A B C D E F G H I J K L M N}(a:A)(b:B)(c:C)(d:D)(e:E)(f:F)(g:G)(h:H)(i:I)(j:J)(k:K)(l:L)(m:M)(n:N):A/\B/\C/\D/\E/\F/\G/\H/\I/\J/\K/\L/\M/\N:=⟨a,b,c,d,e,f,g,h,i,j,k,l,m,n⟩
theorem _root_.Go.AM.Zde{A B C D E F G H I J K L M N O}(a:A)(b:B)(c:C)(d:D)(e:E)(f:F)(g:G)(h:H)(i:I)(j:J)(k:K)(l:L)(m:M)(n:N)(o:O):A/\B/\C/\D/\E/\F/\G/\H/\I/\J/\K/\L/\M/\N/\O:=⟨a,b,c,d,e,f,g,h,i,j,k,l,m,n,o⟩
theorem _root_.Go.AM.ZcR{p q:Prop}(k:q)(h:p=q:=by conv=>lhs;simp(disch:=first|omega|exact PairsOK.mk rfl|(simp only[lenW]<;>omega))only[wV,simprocAttr]):p:=h▸k
theorem _root_.Go.AM.ZcS{p q A:Prop}(a:A)(k:q)(h:A->p=q:=by intro a;conv=>lhs;simp(disch:=first|omega|exact PairsOK.mk rfl|(simp only[lenW]<;>omega))only[a,wV,simprocAttr]):p:=h a▸k
theorem PSpec.weak{f}{args bs}(k:∀(ok:Okc)(c:Ctx ok)(w:World)(vs:List Value),HRel c .e w->VRels c w args vs->VRels c w bs vs)(d:noRefs args=true)(hp:PSpec P f bs v):PSpec P f args v:=by obtain⟨l,b,g,hc,i⟩:=hp;exact⟨d,b,g,hc,fun c w a H h=>i c w a H (k _ c w _ H h)⟩
theorem _root_.Go.AM.au0{p:Prop}(h:p:=by repeat(first|exact Zcs|exact RO.e|refine RO.set rfl ?_)):p:=h
theorem _root_.Go.AM.au1{p:Prop}(h:p:=by repeat'(first|exact Zcv|(refine Zcn ?_;first|rfl|(simp only[noRef,noRefs,SD.Qaa,SD.Qab,SD.Qaf,SD.Qag,SD.Qah,SD.Qai,SD.Qaj,SD.Qal,SD.Qan,SD.Qar,Zad,Zae,Zag];done))|exact ZcJ rfl|exact ZcB|exact(True.intro:RnM _ _ _ [] [])|refine ZcC ?_ ?_|(refine Zcm ?_;first|rfl|(simp only[noRef,noRefs,SD.Qaa,SD.Qab,SD.Qaf,SD.Qag,SD.Qah,SD.Qai,SD.Qaj,SD.Qal,SD.Qan,SD.Qar,Zad,Zae,Zag];done))|exact Rn.x1 rfl rfl|exact Rn.x2 rfl rfl|exact Rn.x3 rfl rfl|exact Rn.x4 rfl rfl|exact Rn.x5 rfl|exact Rn.x6 rfl|exact Rn.x7 rfl|refine Zcx rfl rfl ?_|refine Zcw rfl rfl rfl ?_ ?_|refine Zcy rfl rfl rfl ?_ ?_|refine Zcz rfl rfl ?_ ?_|refine ZcA rfl rfl ?_ ?_)):p:=h
theorem _root_.Go.AM.au2{p:Prop}(h:p:=by repeat(first|exact Zct|(refine Zcu ?_ ?_;·(first|exact Zcl|exact Rn.x1 rfl rfl|exact Rn.x2 rfl rfl|exact Rn.x3 rfl rfl|exact Rn.x4 rfl rfl|exact Rn.x5 rfl|exact Rn.x6 rfl|exact Rn.x7 rfl|(refine ZcF ?_ ?_;(first|rfl|(rw[ZaE];rfl));(first|rfl|(simp only[noRef,noRefs,SD.Qaa,SD.Qab,SD.Qaf,SD.Qag,SD.Qah,SD.Qai,SD.Qaj,SD.Qal,SD.Qan,SD.Qar,Zad,Zae,Zag];done)))|(refine Rn.fn ?_ ?_<;>(repeat'(first|exact ZcB|refine ZcC ?_ ?_|exact Zcm rfl|exact Rn.x6 rfl|exact Rn.x2 rfl rfl|exact Rn.x5 rfl|exact Rn.x1 rfl rfl))))))):p:=h
theorem has36(l)(n)(m:l.length<=140737488355328):Ps 249 [sli l,.int .i64 n] (.bool (decide (n∈l))):=by
 refine Zcp 64 (Ok s249) rfl (by(try simp only[noRefs,Qaa,Qal,Qaf,Qan,Qai,noRef,Zae,Zad])<;>rfl) rfl ?_;unfold s249;refine ZcR ?_;refine QaE 100 (fun i:Nat=>[(0,sli l),(1,.int .i64 n),(5,.int .i64 i)]) (fun _=>[]) (fun i=>i<=l.length/\∀(j:Nat)y,j<i->l[j]?=some y->y≠n) (fun i=>l.length-i) 0 ⟨[],rfl,au0,au1,au2⟩ ⟨Zah _,fun j y c=>absurd c (Zay _)⟩ ?_;rintro i⟨hi,g⟩;by_cases a:i<l.length
 ·obtain⟨x,d⟩:=Qam a;by_cases b:x=n;·refine ZcS (Zc2 a (QaD d) b) ?_;refine⟨.inr trivial,_,rfl,?_⟩;have:n∈l:=b▸Zac d;simp[resOf,Qa2,this]
  refine ZcS (Zc2 a (QaD d) b) ?_;refine⟨i+1,by omega,⟨by omega,fun j y c f=>?_⟩,⟨[],rfl,au0,au1,au2⟩⟩;by_cases e:j=i;·subst e;rw[d]at f;cases f;exact b
  exact g j y (by omega) f
 have :n∉l:=fun h=>by obtain⟨j,c,k⟩:=Qd7 h;exact g j n (by omega) c rfl
 refine ZcS a ?_;exact⟨.inr trivial,_,rfl,by simp[resOf,Qa2,this]⟩
theorem sameInts(a b)(n:a.length<=140737488355328):Ps 22 [sli a,sli b] (.bool (decide (a=b))):=by
 refine Zcp 64 (Ok s22) rfl (by(try simp only[noRefs,Qaa,Qal,Qaf,Qan,Qai,noRef,Zae,Zad])<;>rfl) rfl ?_;by_cases f:a.length=b.length
 ·unfold s22;refine ZcS f ?_;refine QaE 100 (fun i:Nat=>[(0,sli a),(1,sli b),(5,.int .i64 i)]) (fun _=>[]) (fun i=>i<=a.length/\∀j,j<i->a[j]?=b[j]?) (fun i=>a.length-i) 0 ⟨[],rfl,au0,au1,au2⟩ ⟨Zah _,fun j l=>absurd l (Zay _)⟩ ?_;rintro i⟨hi,m⟩;by_cases c:i<a.length
  ·obtain⟨x,k⟩:=Qam c;obtain⟨y,g⟩:=Qam (l:=b) (i:=i) (by omega);have d:i<b.length:=by omega
   by_cases h:x=y
   ·refine ZcS (Zc4 c d (QaD k) (QaD g) h) ?_;refine⟨i+1,by omega,⟨by omega,fun j l=>?_⟩,⟨[],rfl,au0,au1,au2⟩⟩;by_cases e:j=i;·subst e;rw[k,g,h]
    exact m j (by omega)
   refine ZcS (Zc4 c d (QaD k) (QaD g) h) ?_;exact bg2rN
  have :a=b:=Zbq fun j=>by
   by_cases l:j<i;·exact m j l
   rw[Zax (by omega),Zax (by omega)]
  refine ZcS c ?_;exact⟨.inr trivial,_,rfl,by simp[resOf,Qa2,this]⟩
 unfold s22;refine ZcS f ?_;have:a≠b:=fun e=>f (by rw[e]);exact⟨.inr trivial,_,rfl,by simp[resOf,Qa2,this]⟩
def indexR(l:List Int)(n:Int):Int:=if n∈l then(l.findIdx (·==n):Int)else-1
theorem index70(l)(n)(o:l.length<=140737488355328):Ps 152 [sli l,.int .i64 n] (.int .i64 (indexR l n)):=by
 refine Zcp 64 (Ok s152) rfl (by(try simp only[noRefs,Qaa,Qal,Qaf,Qan,Qai,noRef,Zae,Zad])<;>rfl) rfl ?_;unfold s152;refine ZcR ?_;refine QaE 100 (fun i:Nat=>[(0,sli l),(1,.int .i64 n),(7,.int .i64 l.length),(8,.int .i64 i)]) (fun _=>[]) (fun i=>i<=l.length/\∀(j:Nat)y,j<i->l[j]?=some y->y≠n) (fun i=>l.length-i) 0 ⟨[],rfl,au0,au1,au2⟩ ⟨Zah _,fun j y d=>absurd d (Zay _)⟩ ?_;rintro i⟨hi,f⟩;by_cases a:i<l.length
 ·obtain⟨x,c⟩:=Qam a;by_cases b:n=x
  ·refine ZcS (Zc2 a (QaD c) b) ?_;refine⟨.inr trivial,_,rfl,?_⟩;have h1:n∈l:=b▸Zac c;have k:l.findIdx (·==n)=i:=by rw[Zce a];refine⟨by rw[Zak a]at c;cases c;simp[b],fun j d=>?_⟩;have:=f j l[j] d (Zak (by omega));simpa using this
   subst b;simp only[indexR,if_pos h1,k];rfl
  refine ZcS (Zc2 a (QaD c) b) ?_;refine⟨i+1,by omega,⟨by omega,fun j y d g=>?_⟩,⟨[],rfl,au0,au1,au2⟩⟩;by_cases e:j=i;·subst e;rw[c]at g;cases g;exact fun e=>b e.symm
  exact f j y (by omega) g
 have :n∉l:=fun h=>by obtain⟨j,d,m⟩:=Qd7 h;exact f j n (by omega) d rfl
 refine ZcS a ?_;exact⟨.inr trivial,_,rfl,by simp only[indexR,if_neg this];rfl⟩
theorem contains62(l)(n)(c:l.length<=140737488355328):Ps 95 [sli l,.int .i64 n] (.bool (decide (n∈l))):=by
 refine Zcp 64 (Ok s95) rfl (by(try simp only[noRefs,Qaa,Qal,Qaf,Qan,Qai,noRef,Zae,Zad])<;>rfl) rfl ?_;unfold s95;refine ZcR ?_;refine cp (index70 l n c) ?_;have e:decide (0<=indexR l n)=decide (n∈l):=by
  unfold indexR;by_cases h:n∈l;·rw[if_pos h];simp[h]
  rw[if_neg h];simp[h]
 by_cases h:n∈l
 ·have a:0<=indexR l n:=by rw[decide_eq_decide]at e;exact e.2 h
  refine ZcS a ?_;exact⟨.inr trivial,_,rfl,by simp[resOf,Qa2,h]⟩
 have a:¬0<=indexR l n:=by rw[decide_eq_decide]at e;exact fun b=>h (e.1 b)
 refine ZcS a ?_;exact⟨.inr trivial,_,rfl,by simp[resOf,Qa2,h]⟩
theorem Qdc(hi:i<=k.bits):aBin .shr (.int k (a:Int)) (.int .i64 (i:Int))=some (.int k ((a/2^i:Nat):Int)):=by
 have h1:¬(i:Int)<0:=by omega
 simp only[aBin,if_neg h1];have b:min (i:Int).toNat k.bits=i:=by simp;omega
 rw[b];have:(2:Int)^i=((2^i:Nat):Int):=by norm_cast
 rw[this,Int.fdiv_eq_ediv_of_nonneg _ (Zbf _)];norm_cast
theorem and1(n a:Nat)(d:0<n):(BitVec.ofInt n (a:Int)&&&BitVec.ofInt n 1).toNat=a%2:=by
 rw[BitVec.toNat_and,BitVec.toNat_ofInt,BitVec.toNat_ofInt];have h1:((a:Int)%((2^n:Nat):Int)).toNat=a%2^n:=by norm_cast
 have b:((1:Int)%((2^n:Nat):Int)).toNat=1:=by
  have:1%2^n=1:=Nat.mod_eq_of_lt (Nat.one_lt_two_pow (by omega));have c:((1:Int)%((2^n:Nat):Int))=((1%2^n:Nat):Int):=by norm_cast
  rw[c,this];rfl
 rw[h1,b,Nat.and_one_is_mod,Nat.mod_mod_of_dvd _ ⟨2^(n-1),by rw[<-Nat.pow_succ'];congr 1;omega⟩]
theorem Qdd:aBin .and (.int .u8 (a:Int)) (.int .u8 1)=some (.int .u8 ((a%2:Nat):Int)):=by simp only[aBin,if_true];rw[show IntKind.u8.bits=8 from rfl,and1 8 a (by omega),wr_u8 (by omega) (by omega)]
theorem Qes{s}:(((s/2^i%2:Nat):Int)=1)↔s.testBit i=true:=by rw[Nat.testBit_eq_decide_div_mod_eq,decide_eq_true_eq];omega
theorem Qea{n b:Nat}:SD.part (i+1) b=SD.part i b++if b.testBit i=true then[i]else[]:=by unfold SD.part;rw[ZaL,Zbj];congr 1;by_cases h:b.testBit i=true<;>simp[h]
theorem QdO{i b}:(SD.part i b).length<=i:=by unfold SD.part;exact Zaw (ZaY _ _) (by simp)
theorem events16(s:Nat)(hs:s<256):Ps 90 [.int .u8 s] (sliN (SD.part 5 s)):=by
 refine Zco 64 (Ok s90) rfl (by(try simp only[noRefs,Qaa,Qal,Qaf,Qan,Qai,noRef,Zae,Zad])<;>rfl) (Qab _) ?_;unfold s90;refine ZcR ?_;refine QaE 100 (fun i:Nat=>[(0,.int .u8 s),(3,.sl 50 0 0 (SD.part i s).length 1),(4,.int .i64 i)]) (fun i=>[(50,.cells 0 (ints (nz (SD.part i s))))]) (fun i=>i<=5) (fun i=>5-i) 0 ⟨[(50,.nil)],rfl,au0,au1,au2⟩ (Zah _) ?_;rintro i hi;have hpl:=@QdO i s;by_cases hlt:i<5
 ·have hlt2:(i:Int)<5:=by omega
  by_cases h0:s.testBit i=true;·have hb:=Qes.2 h0;have hp:=Qea (n:=5) (b:=s) (i:=i);rw[if_pos h0]at hp;simp(disch:=first|omega|(simp only[lenW]<;>omega))only[hlt2,Qdc (k:=.u8) (show i<=8 by omega),Qdd,hb,wV,simprocAttr];refine⟨i+1,by omega,by omega,?_⟩;rw[hp,QaM,QaB,Zaf];exact⟨[(50,.blk 50 1)],rfl,au0,au1,au2⟩
  ·have hb:¬((s/2^i%2:Nat):Int)=1:=fun e=>h0 (Qes.1 e);have hp:=Qea (n:=5) (b:=s) (i:=i);rw[if_neg h0,Zas]at hp;simp(disch:=first|omega|(simp only[lenW]<;>omega))only[hlt2,Qdc (k:=.u8) (show i<=8 by omega),Qdd,hb,wV,simprocAttr];refine⟨i+1,by omega,by omega,?_⟩;rw[hp];exact⟨[(50,.blk 50 0)],rfl,au0,au1,au2⟩
 ·have hlt2:¬(i:Int)<5:=by omega
  have e:i=5:=by omega
  subst e;refine ZcS hlt2 ?_;refine⟨.inr trivial,_,rfl,?_⟩;exact ZcE rfl (by simp[ints]) (Zcn (Qaa _))
def SetOk(l:List Int)(n:Int):Prop:=(∀x∈l,0<=x/\x<n)/\l.Pairwise (·<·)
theorem SetOk.up{n}(h:SetOk l n){x y}(b:l[i]?=some x)(c:l[i+1]?=some y):x<y:=by obtain⟨h1,f⟩:=Zai.1 b;obtain⟨a,d⟩:=Zai.1 c;have:=Zbd.1 h.2 i (i+1) h1 a (by omega);rw[f,d]at this;exact this
theorem SetOk.nz{l}(h1:∀x∈l,x<n)(b:l.Pairwise (·<·)):SetOk (nz l) n:=by
 refine⟨fun x c=>?_,?_⟩;·obtain⟨a,d,rfl⟩:=Zap.1 c;have:=h1 a d;omega
 rw[ZbG];exact b.imp fun h=>by omega
theorem set49(l)(n)(q:l.length<=140737488355328)(h:SetOk l n):Ps 132 [sli l,.int .i64 n] (.int .i64 0):=by
 refine Zcp 64 (Ok s132) rfl (by(try simp only[noRefs,Qaa,Qal,Qaf,Qan,Qai,noRef,Zae,Zad])<;>rfl) rfl ?_;unfold s132;refine ZcR ?_;refine QaE 100 (fun i:Nat=>[(0,sli l),(1,.int .i64 n),(7,sli l),(8,.int .i64 l.length),(9,.int .i64 i)]) (fun _=>[]) (fun i=>i<=l.length) (fun i=>l.length-i) 0 ⟨[],rfl,au0,au1,au2⟩ (Zah _) ?_;rintro i hi;by_cases a:i<l.length
 ·obtain⟨x,d⟩:=Qam a;obtain⟨h1,t⟩:=h.1 x (Zac d);have c:¬x<0:=by omega
  have b:¬n<=x:=by omega
  by_cases p:i=0
  ·have f:¬(0:Int)<(i:Int):=by omega
   refine ZcS (Zc4 a (QaD d) c b f) ?_;exact⟨i+1,by omega,by omega,⟨[],rfl,au0,au1,au2⟩⟩
  obtain⟨y,k⟩:=Qam (l:=l) (i:=i-1) (by omega);have s:=h.up k (by rw[show i-1+1=i by omega];exact d);have g:¬x<=y:=by omega
  have f:(0:Int)<(i:Int):=by omega
  have o:(i:Int)-1=((i-1:Nat):Int):=by omega
  have m:((i-1:Nat):Int)<l.length:=by omega
  refine ZcS (Zc8 a (QaD d) c b f o m (QaD k) g) ?_;exact⟨i+1,by omega,by omega,⟨[],rfl,au0,au1,au2⟩⟩
 refine ZcS a ?_;exact⟨.inr trivial,_,rfl,rfl⟩
structure EgsOk(a:Au):Prop where
 len:a.es.length<=140737488355328
 all:a.al.length<=140737488355328
 fr:∀e∈a.es,0<=e.fr/\e.fr<a.n
 to:∀e∈a.es,0<=e.to/\e.to<a.n
 ev:∀e∈a.es,e.ev∈a.al
 up:a.es.Pairwise fun x y=>x.fr<y.fr\/(x.fr=y.fr/\x.ev<y.ev)
theorem EgsOk.step{a}(h:EgsOk a){x y}(c:a.es[i]?=some x)(d:a.es[i+1]?=some y):x.fr<y.fr\/(x.fr=y.fr/\x.ev<y.ev):=by obtain⟨h1,g⟩:=Zai.1 c;obtain⟨b,f⟩:=Zai.1 d;have:=Zbd.1 h.up i (i+1) h1 b (by omega);rw[g,f]at this;exact this
theorem edges50(a)(h:EgsOk a):Ps 133 [auV a] (.int .i64 0):=by
 refine Zcp 64 (Ok s133) rfl (by(try simp only[noRefs,Qaa,Qal,Qaf,Qan,Qai,noRef,Zae,Zad])<;>rfl) rfl ?_;have z:=h.len;unfold s133;refine ZcR ?_;refine QaE 100 (fun i:Nat=>[(1,.ptr 50 0 0),(7,egs a.es),(8,.int .i64 a.es.length),(9,.int .i64 i)]) (fun _=>[(50,.cells 0 [sli a.al,.int .i64 a.n,sli a.ms,egs a.es])]) (fun i=>i<=a.es.length) (fun i=>a.es.length-i) 0 ⟨[(50,.blk 64 0)],rfl,au0,au1,au2⟩ (Zah _) ?_;rintro i hi;by_cases b:i<a.es.length
 ·obtain⟨x,c⟩:=Qam b;have hm:=Zac c;obtain⟨B,A⟩:=h.fr x hm;obtain⟨w,E⟩:=h.to x hm;have n:¬x.fr<0:=by omega
  have l:¬a.n<=x.fr:=by omega
  have p:¬x.to<0:=by omega
  have g:¬a.n<=x.to:=by omega
  have k:decide (x.ev∈a.al)=true:=decide_eq_true (h.ev x hm);refine ZcS (Zc5 b (QdL c) n l p g) ?_;refine cp (contains62 a.al x.ev h.all) ?_;rw[k];by_cases C:i=0
  ·have d:(i:Int)=0:=by omega
   refine ZcS (Zc2 b (QdL c) d) ?_;exact⟨1,by omega,by omega,⟨[(50,.blk 50 0)],rfl,au0,au1,au2⟩⟩
  obtain⟨y,m⟩:=Qam (l:=a.es) (i:=i-1) (by omega);have d:¬(i:Int)=0:=by omega
  have s:(i:Int)-1=((i-1:Nat):Int):=by omega
  have q:((i-1:Nat):Int)<a.es.length:=by omega
  rcases h.step m (by rw[show i-1+1=i by omega];exact c)with t|⟨t,v⟩
  ·have f:¬x.fr<y.fr:=by omega
   have o:¬x.fr=y.fr:=by omega
   refine ZcS (Zc7 b (QdL c) d s q (QdL m) f o) ?_;exact⟨i+1,by omega,by omega,⟨[(50,.blk 50 0)],rfl,au0,au1,au2⟩⟩
  have f:¬x.fr<y.fr:=by omega
  have o:x.fr=y.fr:=by omega
  have u:¬x.ev<=y.ev:=by omega
  refine ZcS (Zc8 b (QdL c) d s q (QdL m) f o u) ?_;exact⟨i+1,by omega,by omega,⟨[(50,.blk 50 0)],rfl,au0,au1,au2⟩⟩
 refine ZcS b ?_;exact⟨.inr trivial,_,rfl,rfl⟩
structure AuOk(a:Au):Prop extends EgsOk a where
 alS:SetOk a.al 32
 msS:SetOk a.ms a.n
 mslen:a.ms.length<=140737488355328
 n0:0<=a.n
 nm:a.n<=4096
theorem check37(a)(h:AuOk a):Ps 66 [auV a] (.int .i64 0):=by
 refine Zcp 64 (Ok s66) rfl (by(try simp only[noRefs,Qaa,Qal,Qaf,Qan,Qai,noRef,Zae,Zad])<;>rfl) rfl ?_;have h1:¬a.n<0:=by have:=h.n0;omega
 have b:¬4096<a.n:=by have:=h.nm;omega
 unfold s66;refine ZcR ?_;refine cp (set49 a.al 32 h.all h.alS) ?_;refine ZcS (Zc1 h1 b) ?_;refine cp (set49 a.ms a.n h.mslen h.msS) ?_;refine ZcR ?_;refine cp (edges50 a h.toEgsOk) ?_;refine ZcR ?_;exact⟨.inr trivial,_,rfl,rfl⟩
def fe(f:Nat->Int):Nat->Int|0=>0|n+1=>if fe f n=0 then f n else fe f n
theorem Qfo:∀{n:Nat},(∀j,j<n->f j=0)->fe f n=0|0,_=>rfl|n+1,h=>by rw[fe,if_pos (Qfo fun j a=>h j (by omega))];exact h n (Nat.lt_succ_self n)
theorem fe_at{e}(hf:f i=e)(he:e≠0)(a:∀j,j<i->f j=0):∀{n:Nat},i<n->fe f n=e
 |0,h=>absurd h (Zay _)|n+1,h=>by
  rw[fe];by_cases b:i=n;·subst b;rw[if_pos (Qfo a)];exact hf
  have :=fe_at hf he a (n:=n) (by omega);rw[if_neg (by rw[this];exact he)];exact this
theorem fe_up(a:∀j,j<i->f j=0)(h:f i=0):∀j,j<i+1->f j=0:=fun j b=>by
 by_cases e:j=i;·subst e;exact h
 exact a j (by omega)
theorem Qaz{l:List α}{x d}(h:l[i]?=some x):l.getD i d=x:=by rw[Zaj,h];rfl
end Go.AM.SE
namespace Go.AM.SO
open Go.Proofs Go.AM.SD Go.AM.SE
variable{t:List Int}{x:List UInt8×Int}{i:Nat}
structure Bxn where
 lo:List Int
 hi:List Int
variable{b:Bxn}{l:List Bxn}
structure Gdn where
 ev:Int
 bs:List Bxn
def bxC(b:Bxn):List AV:=[sli b.lo,sli b.hi]
abbrev bxV(b:Bxn):AV:=.agg [sli b.lo,sli b.hi]
abbrev bxsV(l:List Bxn):AV:=.fsl (l.flatMap bxC) l.length 2
def gdC(g:Gdn):List AV:=[.int .i64 g.ev,bxsV g.bs]
abbrev gdV(g:Gdn):AV:=.agg [.int .i64 g.ev,bxsV g.bs]
abbrev gdsV(l:List Gdn):AV:=.fsl (l.flatMap gdC) l.length 2
theorem Qau(l:List Bxn):noRefs (l.flatMap bxC)=true:=Qa8 (fun x=>by simp only[bxC,noRefs,noRef,Qaa];rfl) l
theorem Qe2(l):noRef (bxsV l)=true:=by simp only[noRef];exact Qau l
theorem Qay(l:List Gdn):noRefs (l.flatMap gdC)=true:=Qa8 (fun x=>by simp only[gdC,noRefs,noRef,Qau];rfl) l
theorem Qa0(l):noRef (gdsV l)=true:=by simp only[noRef];exact Qay l
theorem QcY(l:List Bxn):(l.flatMap bxC).length=l.length*2:=Qbf (k:=2) (fun _=>rfl) l
theorem Qi0(l:List Gdn):(l.flatMap gdC).length=l.length*2:=Qbf (k:=2) (fun _=>rfl) l
theorem Qfp{x}(h:l[i]?=some x):(l.flatMap bxC).drop (i*2)=sli x.lo::sli x.hi::(l.drop (i+1)).flatMap bxC:=Qbj (f:=bxC) (k:=2) (fun _=>rfl) h
theorem Qcf{l:List Gdn}{x}(h:l[i]?=some x):(l.flatMap gdC).drop (i*2)=.int .i64 x.ev::bxsV x.bs::(l.drop (i+1)).flatMap gdC:=Qbj (f:=gdC) (k:=2) (fun _=>rfl) h
def vrC(x:List UInt8×Int):List AV:=[.str x.1,.int .i64 0,.int .i64 x.2,.int .i64 0]
abbrev vrsV(l:List (List UInt8×Int)):AV:=.fsl (l.flatMap vrC) l.length 4
theorem QaC(l:List (List UInt8×Int)):noRefs (l.flatMap vrC)=true:=Qa8 (fun x=>rfl) l
theorem Qbp(l):noRef (vrsV l)=true:=by simp only[noRef];exact QaC l
theorem Qi1(l:List (List UInt8×Int)):(l.flatMap vrC).length=l.length*4:=Qbf (k:=4) (fun _=>rfl) l
theorem Qde{l:List (List UInt8×Int)}(h:l[i]?=some x):(l.flatMap vrC).drop (i*4)=.str x.1::.int .i64 0::.int .i64 x.2::.int .i64 0::(l.drop (i+1)).flatMap vrC:=Qbj (f:=vrC) (k:=4) (fun _=>rfl) h
abbrev vr0:List UInt8×Int:=([],0)
abbrev bx0:Bxn:=⟨[],[]⟩
abbrev gd0:Gdn:=⟨0,[]⟩
def vrE(v:List (List UInt8×Int))(b:Bxn)(j:Nat):Int:=if b.lo.getD j 0<0\/(v.getD j vr0).2<b.hi.getD j 0\/b.hi.getD j 0<b.lo.getD j 0 then 2 else 0
def bxE(v:List (List UInt8×Int))(b:Bxn):Int:=if b.lo.length=v.length/\b.hi.length=v.length then fe (vrE v b) v.length else 4
def bxsE(v:List (List UInt8×Int))(l:List Bxn):Int:=fe (fun i=>bxE v (l.getD i bx0)) l.length
def gdE(ct:Nat->Bool)(v:List (List UInt8×Int))(first:Bool)(y x:Gdn):Int:=if x.ev<0\/5<=x.ev then 2 else if ct x.ev.toNat=false then 11 else if first=false/\x.ev<=y.ev then 5 else bxsE v x.bs
def gdsE(ct:Nat->Bool)(v:List (List UInt8×Int))(l:List Gdn):Int:=fe (fun i=>gdE ct v (decide (i=0)) (l.getD (i-1) gd0) (l.getD i gd0)) l.length
def BxOk(v:List (List UInt8×Int))(b:Bxn):Prop:=b.lo.length=v.length/\b.hi.length=v.length/\∀(j:Nat)x,v[j]?=some x->0<=b.lo.getD j 0/\b.lo.getD j 0<=b.hi.getD j 0/\b.hi.getD j 0<=x.2
def inB(b:Bxn)(t:List Int):Bool:=(List.range t.length).all fun j=>decide (b.lo.getD j 0<=t.getD j 0)&&decide (t.getD j 0<=b.hi.getD j 0)
def inBs(l:List Bxn)(t:List Int):Bool:=l.any fun b=>inB b t
theorem Qe3{j}{x}(a:t[j]?=some x)(h:x<b.lo.getD j 0\/b.hi.getD j 0<x):inB b t=false:=by unfold inB;rw[List.all_eq_false];refine⟨j,Zat.2 (Zai.1 a).1,?_⟩;rw[Qaz a];simp only[Zab,decide_eq_true_eq];omega
theorem QmH(h:∀(j:Nat)x,t[j]?=some x->b.lo.getD j 0<=x/\x<=b.hi.getD j 0):inB b t=true:=by unfold inB;rw[ZaJ];intro j a;have:=h j _ (Zak (Zat.1 a));rw[Qaz (Zak (Zat.1 a))];simp only[Zab,decide_eq_true_eq];exact this
theorem Qi2(h:∀(j:Nat)x,l[j]?=some x->inB x t=false):inBs l t=false:=by unfold inBs;rw[Zbt];intro b a;obtain⟨i,hi,rfl⟩:=ZaU a;rw[h i _ (Zak hi)];decide
theorem QkQ{j:Nat}{x}(a:l[j]?=some x)(h:inB x t=true):inBs l t=true:=by unfold inBs;exact Zba.2 ⟨x,Zac a,h⟩
structure GdsR(l:List Gdn):Prop where
 len:l.length<=9223372036854775807
 bl:∀g∈l,g.bs.length<=9223372036854775807
 ll:∀g∈l,∀b∈g.bs,b.lo.length<=9223372036854775807/\b.hi.length<=9223372036854775807
end Go.AM.SO
namespace Go.AM.UK
open Go.Proofs
set_option maxHeartbeats 4000000
noncomputable section
def cf:YA.Cf:={most:=.pure,always:=[16,84,130,158,182,203].map fun k=>(k,.heap),value:=.pure}
def s10:SFn:=by
 refine(?f:YA.Yt Tryz.prog cf 10 [[0,3],[1,5,6],[4,7,8,9,10]]) ?s ?h;case h=>exact YA.rr
 exact fun s _=>s
def s12:SFn:=by
 refine(?f:YA.Yt Tryz.prog cf 12 [[0,2],[],[1,6,7,8,9,10,11,12],[],[13,14,15],[16,19,20,21,22,23,24,25,26,27,28,29,30,31,32,33,34],[17,18],[3,4,5,35]] [(5,[(0,2),(0,5),(3,5)])]) ?s ?h;case h=>exact YA.rr
 exact fun s _=>s
def s19:SFn:=by
 refine(?f:YA.Yt Tryz.prog cf 19 [[0,5,6],[8,9,10],[11],[1,2,12,13,14],[5,12,16,17,15,18,19],[20],[1,2,7,21,22,23],[6,1,2,7,21,25,26,27,28,24,29,30],[31,32]]) ?s ?h;case h=>exact YA.rr
 exact fun s _=>s
def s23:SFn:=by
 refine(?f:YA.Yt Tryz.prog cf 23 [[0,4],[19,20,21],[22],[1,2,5,23,24],[4,5,23,26,27,25,28,29,30],[31],[1,2,6,7,8,32,33],[4,8,32,34,35,36],[1,2,6,7,37],[4,37,39,40,38,41,42,43,10],[44],[1,2,6,7,9,8,45,46],[4,2,8,45,48,49,50,51,47,52,53],[7,11,54,55,56,57],[1,6,9,12,58],[4,9,58,59,60,61,62,63],[12],[],[67,68,69],[],[],[73,74,75],[18,76,77,78,79,80,81,82,83,84,85,92,93],[1,6,13,14,64,65,66,98,94,97,95,96,91,90,86,87,89,88,16,70,71,72,99],[4,99,100],[16,70,71,72,101],[1,6,13,14,64,65,66,98,94,97,95,96,91,90,86,87,89,88]]) ?s ?h;case h=>exact YA.rr
 exact fun s _=>s
def s35:SFn:=by
 refine(?f:YA.Yt Tryz.prog cf 35 [[0,4],[1,2,8,9,10,7,11,12,5],[6,13]]) ?s ?h;case h=>exact YA.rr
 exact fun s _=>s
def s40:SFn:=by
 refine(?f:YA.Yt Tryz.prog cf 40 [[4],[],[6,7,8],[9,12,13,14,15,16],[0,1,5,17],[4,17,10,11],[0,1,5]]) ?s ?h;case h=>exact YA.rr
 exact fun s _=>s
def s43:SFn:=by
 refine(?f:YA.Yt Tryz.prog cf 43 [[0,2],[],[1,6,7],[],[8,9,10],[11,14,15,16,17,18,19,20,21],[12,13],[3,4,5,22]]) ?s ?h;case h=>exact YA.rr
 exact fun s _=>s
def s44:SFn:=by
 refine(?f:YA.Yt Tryz.prog cf 44 [[0,2,3],[9,10],[11],[1,4,12,13],[2,3,1,4,12,14,15],[],[],[],[19,20,21],[8,22,23,24,25,26],[27],[5,6,16,17,18,28],[2,3,28,29],[5,6,16,17,18,30]]) ?s ?h;case h=>exact YA.rr
 exact fun s _=>s
def s65:SFn:=by
 refine(?f:YA.Yt Tryz.prog cf 65 [[0,1,4],[2,3,5,6,7,8]]) ?s ?h;case h=>exact YA.rr
 exact fun s _=>s
def s71:SFn:=by
 refine(?f:YA.Yt Tryz.prog cf 71 [[0,4,5],[12,13,11,14,15],[16],[1,2,6,7,17,18],[4,5,7,17],[],[22,23,24,25],[27,28,29,30,37],[1,2,6,19,20,21,59,52,58,57,56,53,55,54,51,36,32,35,34,33,31,9,8,26],[26,39,40,41,42,43,44,45,46],[1,2,6,19,20,21,59,52,58,57,56,53,55,54,51,36,32,35,34,33,31,9,8,38],[8,38,48,49,50,60],[1,2,6,19,20,21,59,52,58,57,56,53,55,54,51,36,32,35,34,33,31,9,47],[4,5,9,47,61,62,63,64],[65],[1,2,6,19,20,21,59,52,58,57,56,53,55,54,51,36,32,35,34,33,31,10,66,67],[4,5,10,66,68],[1,2,6,19,20,21,59,52,58,57,56,53,55,54,51,36,32,35,34,33,31,69]]) ?s ?h;case h=>exact YA.rr
 exact fun s _=>s
def s84:SFn:=by
 refine(?f:YA.Yt Tryz.prog cf 84 [[4],[6],[],[9,10],[11,12,13,14,15],[0,1,7,8,5,16,17],[4,5,16,18],[0,1,7,8]]) ?s ?h;case h=>exact YA.rr
 exact fun s _=>s
def s87:SFn:=by
 refine(?f:YA.Yt Tryz.prog cf 87 [[0,4],[],[6,7,8],[9,12,13,14,15,16,17,18,19,20,21,22],[1,2,5,32,26,31,30,28,29,27,25,23,24,33],[4,33,10,11],[1,2,5,32,26,31,30,28,29,27,25,23,24]]) ?s ?h;case h=>exact YA.rr
 exact fun s _=>s
def s99:SFn:=by
 refine(?f:YA.Yt Tryz.prog cf 99 [[0,2],[],[1,6,7,8,9,10],[],[14,15,16],[5,17,18,19,20,21,22,23,24,25,26],[27],[3,11,12,13,28]]) ?s ?h;case h=>exact YA.rr
 exact fun s _=>s
def s130:SFn:=by
 refine(?f:YA.Yt Tryz.prog cf 130 [[4],[0,1,5,6,7,8]]) ?s ?h;case h=>exact YA.rr
 exact fun s _=>s
def s131:SFn:=by
 refine(?f:YA.Yt Tryz.prog cf 131 [[0,3],[1],[],[9,10,11,12],[4,5,13,14,15,16,17,18,19,20],[2,6,7,8,27,21,26,25,23,24,22,28],[3,28,29],[2,6,7,8,27,21,26,25,23,24,22]]) ?s ?h;case h=>exact YA.rr
 exact fun s _=>s
def s139:SFn:=by
 refine(?f:YA.Yt Tryz.prog cf 139 [[4],[1],[],[12,13,14],[15,16,17,18,19,20,21],[0,9,10,11,65,59,64,63,61,62,60,58,56,57,55,52,49,51,50,48,46,47,45,27,24,26,25,23,22,6,28],[4,28],[],[32,33,34,35],[8,7,36,37,38,39,40,41,42,43,44,53,54],[0,9,10,11,65,59,64,63,61,62,60,58,56,57,55,52,49,51,50,48,46,47,45,27,24,26,25,23,22,6,29,30,31,66],[4,66,67],[6,29,30,31,68],[0,9,10,11,65,59,64,63,61,62,60,58,56,57,55,52,49,51,50,48,46,47,45,27,24,26,25,23,22]]) ?s ?h;case h=>exact YA.rr
 exact fun s _=>s
def s158:SFn:=by
 refine(?f:YA.Yt Tryz.prog cf 158 [[2],[],[],[],[12,13,14],[5,15,16,17,18],[19],[20,21],[20,22],[3,9,10,11,23,24],[0],[],[28,29,30],[8,31,32,33],[34],[6,25,26,27,35]]) ?s ?h;case h=>exact YA.rr
 exact fun s _=>s
def s182:SFn:=by
 refine(?f:YA.Yt Tryz.prog cf 182 [[4],[6],[],[9,10],[11,12,13,14,15],[0,1,7,8,5,16,17],[4,5,16,18],[0,1,7,8]]) ?s ?h;case h=>exact YA.rr
 exact fun s _=>s
def s203:SFn:=by
 refine(?f:YA.Yt Tryz.prog cf 203 [[4],[5],[6,7],[6,8,9,10,11,12,13,14],[15],[1,16,17,18,19,20,21,22,23,24,25],[0,1,16,26]]) ?s ?h;case h=>exact YA.rr
 exact fun s _=>s
end
end Go.AM.UK
namespace Go.AM.SO
open Go.Proofs Go.AM.SD Go.AM.SE
theorem _root_.Go.AM.ZcZ{p q:Prop}(k:q)(h:p=q:=by conv=>lhs;simp(disch:=first|omega|exact PairsOK.mk rfl|(simp only[lenW]<;>omega))only[wW,wV,simprocAttr]):p:=h▸k
theorem _root_.Go.AM.Zc0{p q A:Prop}(a:A)(k:q)(h:A->p=q:=by intro a;conv=>lhs;simp(disch:=first|omega|exact PairsOK.mk rfl|(simp only[lenW]<;>omega))only[a,wW,wV,simprocAttr]):p:=h a▸k
theorem cpcP{P}{N}{r}{dead}{fs}{n}{T}{h}{Q}{d}{f}{args a c}{v}(hp:PSpec P f (a++args++c) v)(k:wR P N r dead fs (n+1) (putD T d v) h Q):wCall P N .pure (.fn f a c) args d r dead fs n T h Q:=⟨v,by simpa using hp,k⟩
theorem _root_.Go.AM.au3{p:Prop}(h:p:=by repeat'(first|exact Zcv|(refine Zcn ?_;first|rfl|(simp only[noRef,noRefs,SD.Qaa,SD.Qab,SD.Qaf,SD.Qag,SD.Qah,SD.Qai,SD.Qaj,SD.Qal,SD.Qan,SD.Qar,SO.QaC,SO.Qau,SO.Qay,Zad,Zae,Zag];done))|exact ZcJ rfl|exact ZcB|exact(True.intro:RnM _ _ _ [] [])|refine ZcC ?_ ?_|(refine Zcm ?_;first|rfl|(simp only[noRef,noRefs,SD.Qaa,SD.Qab,SD.Qaf,SD.Qag,SD.Qah,SD.Qai,SD.Qaj,SD.Qal,SD.Qan,SD.Qar,SO.QaC,SO.Qau,SO.Qay,Zad,Zae,Zag];done))|exact Rn.x1 rfl rfl|exact Rn.x2 rfl rfl|exact Rn.x3 rfl rfl|exact Rn.x4 rfl rfl|exact Rn.x5 rfl|exact Rn.x6 rfl|exact Rn.x7 rfl|refine Zcx rfl rfl ?_|refine Zcw rfl rfl rfl ?_ ?_|refine Zcy rfl rfl rfl ?_ ?_|refine Zcz rfl rfl ?_ ?_|refine ZcA rfl rfl ?_ ?_)):p:=h
theorem _root_.Go.AM.au4{p:Prop}(h:p:=by repeat(first|exact Zct|(refine Zcu ?_ ?_;·(first|exact Zcl|exact Rn.x1 rfl rfl|exact Rn.x2 rfl rfl|exact Rn.x3 rfl rfl|exact Rn.x4 rfl rfl|exact Rn.x5 rfl|exact Rn.x6 rfl|exact Rn.x7 rfl|(refine ZcF ?_ ?_;(first|rfl|(rw[ZaE];rfl));(first|rfl|(simp only[noRef,noRefs,SD.Qaa,SD.Qab,SD.Qaf,SD.Qag,SD.Qah,SD.Qai,SD.Qaj,SD.Qal,SD.Qan,SD.Qar,SO.QaC,SO.Qau,SO.Qay,Zad,Zae,Zag];done)))|(refine Rn.fn ?_ ?_<;>(repeat'(first|exact ZcB|refine ZcC ?_ ?_|exact Zcm rfl|exact Rn.x6 rfl|exact Rn.x2 rfl rfl|exact Rn.x5 rfl|exact Rn.x1 rfl rfl))))))):p:=h
theorem within87(b)(t)(h1:b.lo.length=t.length)(s:b.hi.length=t.length)(u:t.length<=9223372036854775807):Ps 87 [bxV b,sli t] (.bool (inB b t)):=by
 refine Zcp 64 (Ok UK.s87) rfl (by simp only[noRefs,noRef,Qaa];rfl) rfl ?_;unfold UK.s87;refine ZcZ ?_;refine QaE 100 (fun i:Nat=>[(1,sli t),(2,.ptr 51 0 0),(5,.int .i64 i)]) (fun _=>[(51,.cells 0 [sli b.lo,sli b.hi])]) (fun i=>i<=t.length/\∀(j:Nat)x,j<i->t[j]?=some x->b.lo.getD j 0<=x/\x<=b.hi.getD j 0) (fun i=>t.length-i) 0 ⟨[(51,.blk 64 0)],rfl,au0,au3,au4⟩ ⟨Zah _,fun j x o=>absurd o (Zay _)⟩ ?_;exact biq8S
theorem within131(b)(t)(h1:b.lo.length=t.length)(s:b.hi.length=t.length)(u:t.length<=9223372036854775807):Ps 131 [bxV b,.fptr [sli t]] (.bool (inB b t)):=by
 refine Zcp 64 (Ok UK.s131) rfl (by simp only[noRefs,noRef,Qaa];rfl) rfl ?_;unfold UK.s131;refine ZcZ ?_;refine QaE 100 (fun i:Nat=>[(6,sli t),(2,.ptr 51 0 0),(7,.int .i64 t.length),(8,.int .i64 i)]) (fun _=>[(51,.cells 0 [sli b.lo,sli b.hi])]) (fun i=>i<=t.length/\∀(j:Nat)x,j<i->t[j]?=some x->b.lo.getD j 0<=x/\x<=b.hi.getD j 0) (fun i=>t.length-i) 0 ⟨[(51,.blk 64 0)],rfl,au0,au3,au4⟩ ⟨Zah _,fun j x o=>absurd o (Zay _)⟩ ?_;exact biq8S
theorem within40(l)(t)(q:l.length<=9223372036854775807)(m:∀b∈l,b.lo.length=t.length/\b.hi.length=t.length)(o:t.length<=9223372036854775807):Ps 40 [bxsV l,sli t] (.bool (inBs l t)):=by
 refine Zcp 64 (Ok UK.s40) rfl (by simp only[noRefs,noRef,Qaa,Qau];rfl) rfl ?_;unfold UK.s40;refine ZcZ ?_;refine QaE 100 (fun i:Nat=>[(0,bxsV l),(1,sli t),(5,.int .i64 i)]) (fun _=>[]) (fun i=>i<=l.length/\∀(j:Nat)x,j<i->l[j]?=some x->inB x t=false) (fun i=>l.length-i) 0 ⟨[],rfl,au0,au3,au4⟩ ⟨Zah _,fun j x k=>absurd k (Zay _)⟩ ?_;rintro i⟨hi,hc⟩;by_cases a:i<l.length
 ·obtain⟨b,h⟩:=Qam a;have c:=Qfp h;have f:2<=((l.flatMap bxC).drop (i*2)).length:=by rw[c];simp
  obtain⟨p,n⟩:=m b (Zac h);have hw:=within87 b t p n o;cases g:inB b t with|true=>rw[g]at hw;refine Zc0 (Zc2 a c f) ?_;refine cp hw ?_;refine ZcZ ?_;exact⟨.inr trivial,_,rfl,by rw[QkQ h g];rfl⟩|false=>
   rw[g]at hw;refine Zc0 (Zc2 a c f) ?_;refine cp hw ?_;refine ZcZ ?_;refine⟨i+1,by omega,⟨by omega,fun j y k d=>?_⟩,⟨[],rfl,au0,au3,au4⟩⟩;by_cases e:j=i;·subst e;rw[h]at d;cases d;exact g
   exact hc j y (by omega) d
 refine Zc0 a ?_;exact⟨.inr trivial,_,rfl,by rw[Qi2 fun j y d=>hc j y (by have:=(Zai.1 d).1;omega) d];rfl⟩
theorem index182(l)(t)(u:l.length<=9223372036854775807)(s:∀b∈l,b.lo.length=t.length/\b.hi.length=t.length)(q:t.length<=9223372036854775807):∃k:Int,(decide (0<=k)=inBs l t)/\Ps 182 [bxsV l,.fn 131 [] [.fptr [sli t]]] (.int .i64 k):=by
 refine⟨if inBs l t then(l.findIdx fun b=>inB b t:Int)else-1,?_,?_⟩;·cases inBs l t with|true=>simp|false=>rfl
 refine Zcp 64 (Ok UK.s182) rfl (by simp only[noRefs,noRef,Qaa,Qau];rfl) rfl ?_;unfold UK.s182;refine ZcZ ?_;refine QaE 100 (fun i:Nat=>[(0,bxsV l),(1,.fn 131 [] [.fptr [sli t]]),(7,.int .i64 l.length),(8,.int .i64 i)]) (fun _=>[]) (fun i=>i<=l.length/\∀(j:Nat)x,j<i->l[j]?=some x->inB x t=false) (fun i=>l.length-i) 0 ⟨[],rfl,au0,au3,au4⟩ ⟨Zah _,fun j x m=>absurd m (Zay _)⟩ ?_;rintro i⟨hi,hc⟩;by_cases a:i<l.length
 ·obtain⟨b,h⟩:=Qam a;have c:=Qfp h;have f:2<=((l.flatMap bxC).drop (i*2)).length:=by rw[c];simp
  obtain⟨p,o⟩:=s b (Zac h);have hw:=within131 b t p o q
  cases g:inB b t with|true=>
   rw[g]at hw;refine Zc0 (Zc2 a c f) ?_;refine cpcP hw ?_;refine ZcZ ?_;refine⟨.inr trivial,_,rfl,?_⟩;have hf:l.findIdx (fun b=>inB b t)=i:=by have n:l[i]=b:=(Zai.1 h).2;refine(Zce a).2 ⟨by rw[n];exact g,fun j m=>?_⟩;exact hc j _ m (Zak (by omega))
   rw[if_pos (QkQ h g),hf];rfl|false=>
   rw[g]at hw;refine Zc0 (Zc2 a c f) ?_;refine cpcP hw ?_;refine ZcZ ?_;refine⟨i+1,by omega,⟨by omega,fun j y m d=>?_⟩,⟨[],rfl,au0,au3,au4⟩⟩;by_cases e:j=i;·subst e;rw[h]at d;cases d;exact g
   exact hc j y (by omega) d
 refine Zc0 a ?_;refine⟨.inr trivial,_,rfl,?_⟩;rw[if_neg (by rw[Qi2 fun j y d=>hc j y (by have:=(Zai.1 d).1;omega) d];decide)];rfl
theorem contains130(l)(t)(f:l.length<=9223372036854775807)(c:∀b∈l,b.lo.length=t.length/\b.hi.length=t.length)(g:t.length<=9223372036854775807):Ps 130 [bxsV l,.fn 131 [] [.fptr [sli t]]] (.bool (inBs l t)):=by
 obtain⟨k,d,hi⟩:=index182 l t f c g;refine Zcp 64 (Ok UK.s130) rfl (by simp only[noRefs,noRef,Qaa,Qau];rfl) rfl ?_;generalize inBs l t=B at*;subst d;unfold UK.s130;refine ZcZ ?_;refine ch (ZcI (Zcr _) hi rfl) ?_;by_cases a:0<=k;·refine Zc0 a ?_;exact⟨.inr trivial,_,rfl,rfl⟩
 refine Zc0 a ?_;exact⟨.inr trivial,_,rfl,rfl⟩
theorem permits65(g)(t)(d:g.bs.length<=9223372036854775807)(a:∀b∈g.bs,b.lo.length=t.length/\b.hi.length=t.length)(c:t.length<=9223372036854775807):Ps 65 [gdV g,sli t] (.bool (inBs g.bs t)):=by have hi:=contains130 g.bs t d a c;refine Zcp 64 (Ok UK.s65) rfl (by simp only[noRefs,noRef,Qaa,Qau];rfl) rfl ?_;generalize inBs g.bs t=B at*;unfold UK.s65;refine ZcZ ?_;refine ch (ZcI (ZcL (Zcq _) (ZcL (FrzTo.fn ZcK (ZcL (ZcH gg (Zcr _)) ZcK)) ZcK)) hi rfl) ?_;refine ZcZ ?_;exact⟨.inr trivial,_,rfl,rfl⟩
end Go.AM.SO
namespace Go.AM.SK
open Go.Proofs
set_option maxHeartbeats 4000000
noncomputable section
def cf:YA.Cf:={}
noncomputable def ft:FT2:=YA.tre Tryz.prog cf 20 [45,52,64,66,77,78,83,86,91,95,98,100,101,102,113,114,115,116,117,129,132,133,144,147,148,149,151,152,154,155,156,157,159,160,161,162,163,164,165,169,170,171,172,173,174,175,179,183,188,191,192,193,194,195,196,197,198,199,200,201,202,204,205,206,216,217,218,219,220,221,222,223,224,234,236,239,245,251,252,253,254,259,260,261,262,263,264,265,266,267,276,277,278,279,283]
theorem ft_ok:ft.OK Tryz.prog:=YA.QgJ _ _ (YA.QfQ (by kernel_rfl))
end
end Go.AM.SK
namespace Go.AM.SU
open Go.Proofs
set_option maxHeartbeats 4000000
noncomputable section
def cf:YA.Cf:={always:=[95,150].map fun k=>(k,.pure)}
def s42:SFn:=⟨192,[.cell 2 (some 5)],(.seq (.region [Zz 1 (.box .dyn (.t 0)) [],Zz 2 (.alloc .dyn (.agg [.nilsl,.nilsl,.nilsl,.nilsl,.nilsl])) []] [] [0]) (.seq (.region [Zf 17 0 1 [],Zw 18 5 17 [0],Zz 19 (.call .pure (.f 89) [(.t 18)]) [1],Zz 20 (.build [.nilsl,.nilsl,.nilsl,.nilsl,.nilsl] [(0,1,(.t 19))]) [2],Zz 3 (.alloc .dyn (.agg [.nilsl,.nilsl,.nilsl,.nilsl,.nilsl])) [],Zs 5 3 20 (Za [4,3,2] 5)] [] [17,18,19,20]) (.seq (.region [Zz 4 (.alloc .dyn .nilsl) []] [] []) (.seq (.region [Zf 21 5 1 [],Zl 22 21 [0],Zz 23 (.bin .rem (.t 22) (.c (.int .u8 3))) [1],Zz 24 (.conv .i64 (.t 23)) [2],Zz 25 (.bin .add (.c (.int .i64 1)) (.t 24)) [3],Zm 5 25 (Za [4] 5)] [] [21,22,23,24,25]) (.seq (.seq (.region [Zm 26 5 [],Zz 27 (.mov (.c (.int .i64 0))) []] [] []) (.block 0 (.loop (.seq (.region [Zb 28 .lss 27 26 []] [] []) (.seq (.cond (.t 28) .skip (.exit 0)) (.seq (.block 1 (.seq (.region [Zm 29 27 [],Zm 6 29 [0,0]] [] [28,29]) (.seq (.region [Zm 30 6 [],Zf 31 6 1 [],Zz 32 (.iaddr (some 3) 1 (.t 31) (.t 30)) [1,0],Zl 33 32 [2],Zz 34 (.call .pure (.f 90) [(.t 33)]) [3],Zm 7 34 (Za [4,4] 5)] [] [30,31,32,33,34]) (.seq (.region [Zl 35 4 [],Zm 36 7 [],Zz 37 (.call .pure (.f 91) [(.t 35),(.t 36)]) [0,1],Zs 1 4 37 [2,2,0,1,2]] [] [35,36,37]) (.region [Zf 38 1 3 [],Zl 39 38 [0],Zm 40 6 [],Zz 41 (.bin .add (.c (.int .i64 48)) (.t 40)) [2],Zz 42 (.conv .i32 (.t 41)) [3],Zz 43 (.convS (.t 42)) [4],Zz 44 (.bin .add (.c (.str [99])) (.t 43)) [5],Zm 45 7 [],Zm 46 6 [],Zf 47 9 1 [],Zz 48 (.iaddr (some 3) 27 (.t 47) (.t 46)) [9,8],Zw 49 27 48 [10],Zz 50 (.call .pure (.f 92) [(.t 45),(.t 49),(.c (.int .i64 3))]) [7,11],Zz 51 (.build [(.str []),.nilsl,(.int .i64 0),.nilsl,.nilsl] [(0,1,(.t 44)),(1,4,(.t 50))]) [6,12],Zz 52 (.bslice false .dyn 5 1 [(.str []),.nilsl,(.int .i64 0),.nilsl,.nilsl] [(0,5,(.t 51))]) [13],Zz 53 (.append .dyn 5 96 (.t 39) (.t 52)) [1,14,12],Zf 54 1 3 (Za [] 16),Zs 1 54 53 (Za [16,15,15] 16)] [] [6,7,38,39,40,41,42,43,44,45,46,47,48,49,50,51,52,53,54]))))) (.region [Zz 55 (.bin .add (.t 27) (.c (.int .i64 1))) [],Zm 27 55 [0]] [] [55]))))))) (.seq (.seq (.region [Zf 56 90 1 [],Zl 57 56 [0],Zz 58 (.bin .rem (.t 57) (.c (.int .u8 3))) [1],Zz 59 (.conv .i64 (.t 58)) [2],Zz 60 (.mov (.c (.int .i64 0))) []] [] [26,27,56,57,58]) (.block 2 (.loop (.seq (.region [Zb 61 .lss 60 59 []] [] []) (.seq (.cond (.t 61) .skip (.exit 2)) (.seq (.block 3 (.seq (.region [Zm 62 60 [],Zm 8 62 [0,0]] [] [61,62]) (.seq (.region [Zm 63 8 [],Zf 64 91 1 [],Zz 65 (.iaddr (some 2) 1 (.t 64) (.t 63)) [1,0],Zl 66 65 [2],Zz 67 (.call .heap (.f 90) [(.t 66)]) [3],Zz 68 (.mkfn 94 [] [(.t 4)]) [],Zz 69 (.call .heap (.f 93) [(.t 67),(.t 68)]) [4,5,4],Zm 9 69 (Za [6,6] 7)] [] [63,64,65,66,67,68,69]) (.region [Zf 70 2 3 [],Zl 71 70 [0],Zm 72 8 [],Zz 73 (.bin .add (.c (.int .i64 48)) (.t 72)) [2],Zz 74 (.conv .i32 (.t 73)) [3],Zz 75 (.convS (.t 74)) [4],Zz 76 (.bin .add (.c (.str [114])) (.t 75)) [5],Zm 77 9 [],Zm 78 8 [],Zf 79 93 1 [],Zz 80 (.iaddr (some 2) 27 (.t 79) (.t 78)) [9,8],Zw 81 27 80 [10],Zz 82 (.call .pure (.f 92) [(.t 77),(.t 81),(.c (.int .i64 3))]) [7,11],Zz 83 (.build [(.str []),.nilsl,(.int .i64 0),.nilsl,.nilsl] [(0,1,(.t 76)),(1,4,(.t 82))]) [6,12],Zz 84 (.bslice false .dyn 5 1 [(.str []),.nilsl,(.int .i64 0),.nilsl,.nilsl] [(0,5,(.t 83))]) [13],Zz 85 (.append .dyn 5 96 (.t 71) (.t 84)) [1,14,12],Zf 86 2 3 (Za [] 16),Zs 1 86 85 (Za [16,15,15] 16)] [] [8,9,70,71,72,73,74,75,76,77,78,79,80,81,82,83,84,85,86])))) (.region [Zz 87 (.bin .add (.t 60) (.c (.int .i64 1))) [],Zm 60 87 [0]] [] [87]))))))) (.seq (.seq (.region [Zf 88 147 1 [],Zl 89 88 [0],Zv 90 89 [1],Zz 91 (.mov (.c (.int .i64 0))) []] [] [4,59,60,88]) (.block 4 (.loop (.seq (.region [Zb 92 .lss 91 90 []] [] []) (.seq (.cond (.t 92) .skip (.exit 4)) (.seq (.block 5 (.seq (.region [Zm 93 91 [],Zi 94 4 89 91 [],Zw 95 4 94 [1],Zz 11 (.alloc .dyn (.agg [(.int .u8 0),(.int .u8 0),(.int .u8 0),(.int .u8 0)])) [],Zm 10 93 [0,0,1,2,3],Zs 4 11 95 (Za [3,2,4] 5)] [] [92,93,94,95]) (.seq (.seq (.region [Zm 96 10 [],Zz 97 (.bin .eql (.t 96) (.c (.int .i64 2))) [0]] [] [96]) (.cond (.t 97) (.exit 4) .skip)) (.seq (.region [Zm 98 10 [],Zz 99 (.bin .add (.c (.int .i64 48)) (.t 98)) [0],Zz 100 (.conv .i32 (.t 99)) [1],Zz 101 (.convS (.t 100)) [2],Zz 102 (.bin .add (.c (.str [101])) (.t 101)) [3],Zz 103 (.build [(.str []),.nilsl] [(0,1,(.t 102))]) [4],Zz 12 (.alloc .dyn (.agg [(.str []),.nilsl])) [],Zs 2 12 103 (Za [6,5] 7)] [] [10,97,98,99,100,101,102,103]) (.seq (.seq (.region [Zf 104 1 3 [],Zl 105 104 [0],Zv 106 105 [1],Zz 107 (.mov (.c (.int .i64 0))) []] [] [104,105]) (.block 6 (.loop (.seq (.region [Zb 108 .lss 107 106 []] [] []) (.seq (.cond (.t 108) .skip (.exit 6)) (.seq (.block 7 (.seq (.region [Zm 109 107 [],Zm 13 109 [0,0]] [] [108,109]) (.seq (.region [Zf 110 1 3 [],Zl 111 110 [0],Zm 112 13 [],Zi 113 5 111 112 [1,2],Zf 114 1 113 [3],Zf 115 1 114 [4],Zl 116 115 [5],Zm 14 116 (Za [6] 7)] [] [110,111,112,113,114,115,116]) (.seq (.region [Zm 117 13 [],Zz 118 (.iaddr (some 4) 1 (.t 11) (.t 117)) [0],Zl 119 118 [1],Zz 120 (.conv .i64 (.t 119)) [2],Zm 121 14 [],Zz 122 (.bin .add (.t 121) (.c (.int .i64 2))) [4],Zb 123 .rem 120 122 [3,5],Zm 124 14 [],Zb 125 .lss 123 124 [6,7]] [] [117,118,119,120,121,122,123,124]) (.cond (.t 125) (.region [Zf 126 1 12 [],Zl 127 126 [0],Zm 128 13 [],Zm 129 13 [],Zz 130 (.iaddr (some 4) 1 (.t 11) (.t 129)) [3],Zl 131 130 [4],Zz 132 (.conv .i64 (.t 131)) [5],Zm 133 14 [],Zz 134 (.bin .add (.t 133) (.c (.int .i64 2))) [7],Zb 135 .rem 132 134 [6,8],Zz 136 (.build [(.int .i64 0),(.int .i64 0)] [(0,1,(.t 128)),(1,1,(.t 135))]) [2,9],Zz 137 (.bslice false .dyn 2 1 [(.int .i64 0),(.int .i64 0)] [(0,2,(.t 136))]) [10],Zz 138 (.append .dyn 2 16 (.t 127) (.t 137)) [1,11],Zf 139 1 12 (Za [] 13),Zs 1 139 138 (Za [13,12,12] 13)] [] [13,14,125,126,127,128,129,130,131,132,133,134,135,136,137,138,139]) .skip))))) (.region [Zz 140 (.bin .add (.t 107) (.c (.int .i64 1))) [],Zm 107 140 [0]] [] [13,14,125,140]))))))) (.seq (.region [Zf 141 1 12 [],Zl 142 141 [0],Zv 143 142 [1],Zz 144 (.bin .gtr (.t 143) (.c (.int .i64 0))) [2]] [] [11,106,107,141,142,143]) (.cond (.t 144) (.region [Zf 145 3 3 [],Zl 146 145 [0],Zw 147 2 12 [],Zz 148 (.bslice false .dyn 2 1 [(.str []),.nilsl] [(0,2,(.t 147))]) [2],Zz 149 (.append .dyn 2 40 (.t 146) (.t 148)) [1,3],Zf 150 3 3 (Za [] 5),Zs 1 150 149 (Za [5,4,4] 5)] [] [12,144,145,146,147,148,149,150]) .skip))))))) (.region [Zz 151 (.bin .add (.t 91) (.c (.int .i64 1))) [],Zm 91 151 [0]] [] [12,144,151]))))))) (.seq (.region [Zf 152 151 1 [],Zl 153 152 [0],Zz 154 (.conv .i64 (.t 153)) [1],Zz 155 (.bin .rem (.t 154) (.c (.int .i64 8))) [2],Zz 156 (.build [(.str []),.nilsl,(.int .i64 0)] [(0,1,(.c (.str [107]))),(2,1,(.t 155))]) [3],Zz 15 (.alloc .dyn (.agg [(.str []),.nilsl,(.int .i64 0)])) [],Zs 3 15 156 (Za [5,4] 6)] [] [89,90,91,152,153,154,155,156]) (.seq (.seq (.region [Zm 157 5 [],Zz 158 (.mov (.c (.int .i64 0))) []] [] [5]) (.block 8 (.loop (.seq (.region [Zb 159 .lss 158 157 []] [] []) (.seq (.cond (.t 159) .skip (.exit 8)) (.seq (.block 9 (.seq (.region [Zm 160 158 [],Zm 16 160 [0,0]] [] [159,160]) (.seq (.region [Zm 161 16 [],Zf 162 148 1 [],Zz 163 (.iaddr (some 3) 1 (.t 162) (.t 161)) [1,0],Zl 164 163 [2],Zz 165 (.bin .neq (.t 164) (.c (.int .i8 0))) [3]] [] [161,162,163,164]) (.cond (.t 165) (.region [Zf 166 1 15 [],Zl 167 166 [0],Zm 168 16 [],Zm 169 16 [],Zf 170 148 1 [],Zz 171 (.iaddr (some 3) 1 (.t 170) (.t 169)) [4,3],Zl 172 171 [5],Zz 173 (.conv .i64 (.t 172)) [6],Zz 174 (.bin .rem (.t 173) (.c (.int .i64 4))) [7],Zz 175 (.build [(.int .i64 0),(.int .i64 0)] [(0,1,(.t 168)),(1,1,(.t 174))]) [2,8],Zz 176 (.bslice false .dyn 2 1 [(.int .i64 0),(.int .i64 0)] [(0,2,(.t 175))]) [9],Zz 177 (.append .dyn 2 16 (.t 167) (.t 176)) [1,10],Zf 178 1 15 (Za [] 12),Zs 1 178 177 (Za [12,11,11] 12)] [] [16,165,166,167,168,169,170,171,172,173,174,175,176,177,178]) .skip)))) (.region [Zz 179 (.bin .add (.t 158) (.c (.int .i64 1))) [],Zm 158 179 [0]] [] [16,165,179]))))))) (.seq (.region [Zf 180 1 15 [],Zl 181 180 [0],Zz 182 (.call .heap (.f 96) [(.t 181),(.f 97)]) [1],Zf 183 1 15 [0,1,2],Zs 1 183 182 [3,2,2,0,1,2]] [] [1,157,158,180,181,182,183]) (.seq (.seq (.region [Zf 184 1 15 [],Zl 185 184 [0],Zv 186 185 [1],Zz 187 (.bin .gtr (.t 186) (.c (.int .i64 0))) [2]] [] [184,185,186]) (.cond (.t 187) (.region [Zw 188 3 15 [],Zz 189 (.bslice false .dyn 3 1 [(.str []),.nilsl,(.int .i64 0)] [(0,3,(.t 188))]) [0],Zf 190 4 3 [0,1],Zs 1 190 189 [2,1,0,1]] [] [15,187,188,189,190]) .skip)) (.seq (.region [Zw 191 5 3 [],Zs 5 2 191 [0,0]] [] [3,15,187,191]) .ret))))))))))))⟩
def s93:SFn:=by
 refine(?f:YA.Yt Tryz.prog cf 93 [[4],[8,9,10],[11],[0,1,5,12,13],[4,12,14,15],[16,17,18],[19,22,23,24,25],[26,27,28],[7,29,30,31,32,33],[34,35],[7,29,20,21],[1,6,36,37,38],[0,5,39,40,41]]) ?s ?h;case h=>exact YA.rr
 exact fun s _=>s
def s92:SFn:=by
 refine(?f:YA.Yt Tryz.prog cf 92 [[1],[2,7,8,9,10,11,12],[0,4,13,14,15]]) ?s ?h;case h=>exact YA.rr
 exact fun s _=>s
def s94:SFn:=by
 refine(?f:YA.Yt Tryz.prog cf 94 [[3],[0,1,4,5,6,7]]) ?s ?h;case h=>exact YA.rr
 exact fun s _=>s
def s96:SFn:=by
 refine(?f:YA.Yt Tryz.prog cf 96 [[4],[8,9,10],[11],[0,1,5,12,13],[4,12,14,15],[16,17,18],[19,22,23,24,25],[26,27,28],[7,29,30,31,32,33],[34,35],[7,29,20,21],[1,6,36,37,38],[0,5,39,40,41]]) ?s ?h;case h=>exact YA.rr
 exact fun s _=>s
def s97:SFn:=by
 refine(?f:YA.Yt Tryz.prog cf 97 [[0,2],[1,3,4,5]]) ?s ?h;case h=>exact YA.rr
 exact fun s _=>s
def s151:SFn:=by
 refine(?f:YA.Yt Tryz.prog cf 151 [[4],[6],[],[9,10],[11,12,13,14,15],[0,1,7,8,5,16,17],[4,5,16,18],[0,1,7,8]]) ?s ?h;case h=>exact YA.rr
 exact fun s _=>s
def s153:SFn:=by
 refine(?f:YA.Yt Tryz.prog cf 153 [[4],[6],[],[9,10],[11,12,13,14,15],[0,1,7,8,5,16,17],[4,5,16,18],[0,1,7,8]]) ?s ?h;case h=>exact YA.rr
 exact fun s _=>s
end
end Go.AM.SU
namespace Go.AM
variable{P:Program}
variable{h:Heap}{b m:Nat}{f:Nat->List AV}{π:Nat->Option Src}{s:Nat->Src}
def rowsL(f:Nat->List AV)(ks:List Nat):HL:=ks.map fun k=>(300+k,.cells 0 (f k))
def psL(s:Nat->Src)(ks:List Nat):List (Nat×Src):=ks.map fun k=>(300+k,s k)
theorem Qb7:∀{ks:List Nat},ks.Nodup->(∀k∈ks,k<1000000)->∀{k:Nat},k∈ks->(hp (rowsL f ks)).get (300+k)=some (.cells 0 (f k))
 |[],_,_,k,h=>by cases h|j::ks,b,a,k,h=>by
  have d:=a j (by simp);show((hp (rowsL f ks)).set (300+j) _).get (300+k)=_;by_cases e:k=j;·grind[QaF]
  rw[QaI (by omega) (by omega)];exact Qb7 (Zcd.1 b).2 (fun k c=>a k (by simp[c])) (by simp_all)
theorem Qeh:∀{ks:List Nat},(∀k∈ks,k<1000000)->∀{b:Nat},(∀k∈ks,b≠300+k)->(hp (rowsL f ks)).get b=none|[],_,b,_=>get_e|j::ks,c,b,h=>by have d:=c j (by simp);show((hp (rowsL f ks)).set (300+j) _).get b=_;rw[QaI (by omega) (h j (by simp))];exact Qeh (fun k a=>c k (by simp[a])) (fun k a=>h k (by simp[a]))
theorem QcB{g}:∀{ks:List Nat},(∀k∈ks,∀a c,s k=.blk a c->b≠a)->srcNew (.blk b g) (psL s ks)=true|[],_=>rfl|j::ks,h=>by show((match(Src.blk b g),s j with|.blk b _,.blk a _=>!Nat.beq b a|_,_=>true)&&srcNew (.blk b g) (psL s ks))=true;rw[QcB fun k d=>h k (by simp[d]),Zad];cases e:s j with|nil=>rfl|blk a c=>
 have:=h j (by simp) a c e;have f:Nat.beq b a=false:=by simp_all[ZaH]
 simp[f]
theorem QfR:∀{ks:List Nat},srcNew .nil (psL s ks)=true|[]=>rfl|j::ks=>by show((match Src.nil,s j with|.blk b _,.blk a _=>!Nat.beq b a|_,_=>true)&&srcNew .nil (psL s ks))=true;rw[QfR];rfl
theorem QcJ:∀{ks:List Nat},ks.Nodup->(∀k∈ks,k<1000000)->(∀k∈ks,∀j∈ks,k≠j->∀b g c d,s k=.blk b g->s j=.blk c d->b≠c)->okPs 0 (psL s ks) (rowsL f ks)=true
 |[],_,_,_=>rfl|j::ks,n,h,l=>by
  have p:=h j (by simp);obtain⟨h1,o⟩:=Zcd.1 n;show okPs 0 ((300+j,s j)::psL s ks) ((300+j,.cells 0 (f j))::rowsL f ks)=true;simp only[okPs,Zab,ZbY,ZbQ,Zbl,ZaJ];refine⟨⟨⟨⟨trivial,by omega⟩,.inr ⟨?_,?_⟩⟩,?_⟩,QcJ o (fun k a=>h k (by simp[a])) (fun k a i hi=>l k (by simp[a]) i (by simp[hi]))⟩;·cases s j with|nil=>rfl|blk b g=>simp
  ·cases e:s j with|nil=>exact QfR|blk b g=>exact QcB fun k a c d m=>l j (by simp) k (by simp[a]) (fun e=>h1 (e▸a)) b g c d e m
  rintro⟨b,x⟩hp;obtain⟨k,a,e⟩:=Zap.1 hp;cases e;have:k≠j:=fun e=>h1 (e▸a);simp_all[ZaH]
theorem Qih:∀{ks:List Nat}{k:Nat},k∈ks->lkS (psL s ks) (300+k)=some (s k)
 |[],k,h=>by cases h|j::ks,k,h=>by
  show(if 300+k=300+j then some (s j)else lkS (psL s ks) (300+k))=_;by_cases e:k=j;·subst e;simp
  rw[if_neg (by omega)];exact Qih (by simp_all)
theorem QcT:∀{ks:List Nat},(∀k∈ks,RB m π h [(300+k,.cells 0 (f k))])->RB m π h (rowsL f ks)|[],_=>trivial|j::ks,a=>⟨(a j (by simp)).1,QcT fun k h=>a k (by simp[h])⟩
mutual theorem QhR:∀v:AV,flatV v=true->noRef v=true|.any,_=>rfl|.bool _,_=>rfl|.int _ _,_=>rfl|.str _,_=>rfl|.agg cs,h=>by simp only[flatV]at h;simp only[noRef];exact Qb3 cs h|.tup cs,h=>by simp only[flatV]at h;simp only[noRef];exact Qb3 cs h|.nilptr,_=>rfl|.ptr _ _ _,h=>by simp[flatV]at h|.fptr _,h=>by simp[flatV]at h|.nilsl,_=>rfl|.sl _ _ _ _ _,h=>by simp[flatV]at h|.fsl _ _ _,h=>by simp[flatV]at h|.esl,_=>rfl|.nsl,_=>rfl|.nilmap,_=>rfl|.map _ _,h=>by simp[flatV]at h|.fmap _ _,h=>by simp[flatV]at h|.nilfn,_=>rfl|.fn f x y,h=>by simp only[flatV,Zab]at h;simp only[noRef,Zab];exact⟨Qb3 x h.1,Qb3 y h.2⟩|.nilif,_=>rfl|.ifc t v,h=>by simp only[flatV]at h;simp only[noRef];exact QhR v h|.typed _ _ _,h=>by simp[flatV]at h theorem Qb3:∀l:List AV,flatVs l=true->noRefs l=true|[],_=>rfl|x::l,h=>by simp only[flatVs,Zab]at h;simp only[noRefs,Zab];exact⟨QhR x h.1,Qb3 l h.2⟩end
theorem FSpec.QbR{f len sz}{args cs}(m:HSpec P f args .e (.sl b 0 0 len sz) (hp [(b,.cells 0 cs)]))(v:noRefs args=true)(hf:flatVs cs=true)(t:cs.length=len*sz)(o:Nat.blt b 1099511627775=true):FSpec P f args (.fsl cs len sz):=by
 obtain⟨hc,m⟩:=m;refine⟨hc,v,by simp_all[noRef,Qb3],fun F w d s c=>(m (only F) w d (HRel.only s) c).mono ?_⟩;rintro e u⟨q,n,rfl,E,H',V⟩;have i:∀k,n.O k->w.heap.size<=k:=fun k l=>(E.own k l).elim (fun h=>h.elim) id;refine⟨q,n.O,rfl,?_,fun k l=>⟨i k l,H'.inO k l⟩,RnO.sl (h:=hp [(b,.cells 0 cs)]) (by simp_all[hp,QaF]) hf t _ n u q H' V⟩;refine⟨E.os,E.tape,E.output,E.size,E.shape,fun k a _=>E.keep k a (fun h=>h),fun b g p o=>absurd o (Zay _),fun k a=>.inl a,fun k a=>?_,fun k a=>a.elim,rfl⟩;rcases a with a|a;·exact .inl a
 simp_all
end Go.AM
namespace Go.AM
variable{v:AV}{x:Blk}{L:HL}{h:Heap}{i:List (Nat×Nat)}{a:List (Nat×Src)}{fs:List Fr}{dead g ks:List Nat}{ops:List SOper}{N:NM}{b k n:Nat}{f:Nat->List AV}{s:Nat->Src}{p:Nat×Src}{ax:Opd->Option (List Nat)}{Q:QC}{T T0:Tmps}
theorem Qfe{g c d}(f:b≠k)(h:srcNew (.blk b g) a=true):srcNew (.blk b g) ((c,.blk k d)::a)=true:=by simp_all[ZaH,srcNew]
theorem QgK{g}(i:b<1099511627775)(d:srcNew (.blk k g) a=true)(c:∀p∈a,p.1≠b)(h:okPs 0 a L=true):okPs 0 ((b,.blk k g)::a) ((b,x)::L)=true:=by
 simp only[okPs,Zab,ZbY,ZbQ,Zbl,ZaJ];refine⟨⟨⟨⟨trivial,by omega⟩,.inr ⟨by simp,d⟩⟩,fun p hp=>?_⟩,h⟩;have f:Nat.beq p.1 b=false:=by rw[ZaH];simpa using c p hp
 simp[f]
theorem Qe4(h:p∈psL s ks):300<=p.1:=by obtain⟨k,_,rfl⟩:=Zap.1 h;simp
theorem QfS{x1 x2 x3}{i m l t u v}(z:ks.Nodup)(x:∀k∈ks,k<1000000)(y:∀k∈ks,∀j∈ks,k≠j->∀b g c d,s k=.blk b g->s j=.blk c d->b≠c)(a:∀k∈ks,∀b g,s k=.blk b g->i≠b/\m≠b/\l≠b)(n:i≠m)(q:i≠l)(o:m≠l):okPs 0 ((70,.blk i t)::(71,.blk m u)::(72,.blk l v)::psL s ks) ((70,x1)::(71,x2)::(72,x3)::rowsL f ks)=true:=by
 have A:=QcB (b:=i) (g:=t) (s:=s) (ks:=ks) fun k h c d e=>(a k h c d e).1;have w:=QcB (b:=m) (g:=u) (s:=s) (ks:=ks) fun k h c d e=>(a k h c d e).2.1;have B:=QcB (b:=l) (g:=v) (s:=s) (ks:=ks) fun k h c d e=>(a k h c d e).2.2;refine QgK (by omega) (Qfe n (Qfe q A)) ?_ (QgK (by omega) (Qfe o w) ?_ (QgK (by omega) B ?_ (QcJ z x y)))
 ·intro p hp;simp only[Zaz]at hp;rcases hp with rfl|rfl|hp;·simp
  ·simp
  grind[Qe4]
 ·intro p hp;simp only[Zaz]at hp;rcases hp with rfl|hp;·simp
  grind[Qe4]
 intro p hp;grind[Qe4]
theorem Qcg{q1 q2 b}(a:k∈ks):ow 0 ((70,q1)::(71,q2)::(72,b)::psL s ks) (300+k)=some (s k):=by unfold ow;rw[if_neg (Zay _)];simp only[lkS];rw[if_neg (by omega),if_neg (by omega),if_neg (by omega)];exact Qih a
variable{P:Program}
abbrev Claims:=List (Nat×List Nat)
variable{C:Claims}
def clm:Claims->Nat->Option (List Nat)|[],_=>none|(j,a)::r,d=>bif Nat.beq j d then some a else clm r d
def absH(C:Claims)(d:Nat)(a:Option (List Nat)):Option (List Nat):=match clm C d with|some b=>some b|none=>a
def touch2(i:Nat)(ax:Opd->Option (List Nat)):SOp->Option (List Nat)|.call .pure _ _=>some []|s=>s.touch i ax
theorem QgL{i}{s}{h1}{f}(d:∀x bs,ax x=some bs->Pts (ev T x) bs)(n:touch2 i ax s.op=some g)(l:StepV P i s T h v h1 f):f.all=false/\∀b,b∈f.R\/b∈f.W->b∈g:=by
 by_cases hc:∃x a,s.op=.call .pure x a
 ·obtain⟨x,a,c⟩:=hc;have key:StepX P i s.op T h v h1 f->f.all=false/\∀b,b∈f.R\/b∈f.W->b∈g:=by rintro⟨out,p,hm,ho⟩;rw[c]at hm ho;simp only[aop]at hm ho;cases k:ev T x with|fn o first cap=>rw[k]at hm ho;simp only[aCall,HM.run,Zaa,Zal]at hm;obtain⟨rfl,rfl⟩:=hm;simp only[aCall,HM.fp]at ho;obtain⟨_,_,rfl⟩:=ho;exact⟨rfl,fun b m=>by simp[fpOf]at m⟩|_=>rw[k]at hm;simp[aCall,HM.run]at hm
  unfold StepV at l;grind
 refine QhL d ?_ l;simp_all[touch2]
def touchesH(C:Claims)(n:Nat)(T:Tmps):List SOper->Abs->List (Option (List Nat))|[],_=>[]|s::r,A=>touch2 n (absO T A) s.op::touchesH C (n+1) T r (match s.dst with|some d=>(d,absH C d (s.op.absV n (absO T A)))::A|none=>A)
def ssa(C:Claims):List SOper->Bool|[]=>true|s::r=>(match s.dst with|some d=>(clm C d).isNone||r.all fun a=>(match a.dst with|some e=>!Nat.beq e d|none=>true)|none=>true)&&ssa C r
theorem QoP:∀{r:List SOper}{n:Nat}{T:Tmps}{h:Heap}{K:Tmps->Heap->Nat->Prop},wpR P n r T h K->∃T' h' n',K T' h' n'/\∀d,(∀s∈r,s.dst≠some d)->lk T' d=lk T d|[],n,T,h,K,a=>⟨T,h,n,a,fun _ _=>rfl⟩|s::r,n,T,h,K,⟨v,h1,f,g,b⟩=>by obtain⟨T',h',n',a,he⟩:=QoP b;refine⟨T',h',n',a,fun d c=>?_⟩;simp_all[QbN]
theorem QmI:∀{r:List SOper}{n:Nat}{A:Abs}{T:Tmps}{h:Heap}{K:Tmps->Heap->Nat->Prop}(hA:AbsOK T0 A T)(K':List FP->Tmps->Heap->Nat->Prop)(k:∀T h n,K T h n->∀d bs,clm C d=some bs->Pts (lk T d) bs)(a:ssa C r=true),(∀fs T h n',fs.length=r.length->(∀(j:Nat)g,(touchesH C n T0 r A).getD j none=some g->(fs.getD j ⟨false,[],[]⟩).all=false/\∀b,b∈(fs.getD j ⟨false,[],[]⟩).R\/b∈(fs.getD j ⟨false,[],[]⟩).W->b∈g)->K T h n'->K' fs T h n')->wpR P n r T h K->wpRF P n r T h K'
 |[],n,A,T,h,K,hA,K',k,a,o,hw=>o [] T h n rfl (fun j g i=>by simp_all) hw|s::r,n,A,T,h,K,hA,K',k,a,o,hw=>by
  obtain⟨v,h1,f,t,w⟩:=hw;simp only[ssa,Zab]at a;obtain⟨c,m⟩:=a;refine⟨v,h1,f,t,?_⟩;have q:AbsOK T0 (match s.dst with|some d=>(d,absH C d (s.op.absV n (absO T0 A)))::A|none=>A) (putD T s.dst v):=by cases e:s.dst with|none=>exact hA|some d=>
   refine AbsOK.up hA fun bs l=>?_;unfold absH at l;split at l
   ·rename_i y hc;cases l;obtain⟨T',B,n',p,he⟩:=QoP w;have x:=k T' B n' p d _ hc;rw[he d ?_,QbN,if_pos e]at x;·exact x
    intro E u;rw[e]at c;simp only[hc,Option.isNone_some,Zcc,ZaJ]at c;have:=c E u;intro F;simp_all
   exact QfN hA.opd l t
  refine QmI q (fun fs T h n=>K' (f::fs) T h n) k m (fun fs T h n' z hf p=>?_) w;refine o (f::fs) T h n' (by simp[z]) (fun j g i=>?_) p;cases j with|zero=>simp only[touchesH,List.getD_cons_zero]at i⊢;exact QgL hA.opd i t|succ j=>simp only[touchesH,List.getD_cons_succ]at i⊢;exact hf j g i
def Clms(T:Tmps):Claims->Prop|[]=>True|(d,a)::r=>Pts (lk T d) a/\Clms T r
theorem Clms.get:∀{C:Claims},Clms T C->∀d bs,clm C d=some bs->Pts (lk T d) bs
 |[],_,d,bs,h=>by cases h|(j,cs)::r,a,d,bs,h=>by
  simp only[clm]at h
  cases e:Nat.beq j d with|true=>
   rw[e]at h;simp only[cond_true,Zaa]at h;have:j=d:=by simpa using e
   subst this;subst h;exact a.1|false=>rw[e]at h;exact Clms.get a.2 d bs h
theorem Qb8(C){p}(c:ssa C ops=true)(hp:pairsOK (touchesH C n T ops []) (p::i)=true)(hw:wR P N ops [] [] n T h fun e T h n=>Clms T C/\wX P N .normal fs n (rm T dead) h Q):wS P N (.region ops (p::i) dead) fs n T h Q:=by
 have rm0:∀T:Tmps,rm T []=T:=by intro T;induction T with|nil=>rfl|cons p T k=>obtain⟨j,v⟩:=p;simp[rm,k]
 refine QmI (C:=C) (K:=fun T h n=>Clms T C/\wX P N .normal fs n (rm T dead) h Q) AbsOK.nil _ (fun T h n f d u hc=>f.1.get d u hc) c (fun s T h A E hf f=>⟨?_,f.2⟩) ?_
 ·rw[ZaJ];intro q m;have:=ZaJ.1 hp q m;split at this
  ·rename_i a b t l;obtain⟨z,F⟩:=hf _ _ t;obtain⟨w,I⟩:=hf _ _ l;have B:∀x y,x∈a->y∈b->x≠y:=by grind
   have H:∀xs g:List Nat,(∀x∈xs,∀y∈g,x≠y)->disj xs g=true:=by intro xs g G;unfold disj;grind
   grind[FP.apart]
  cases this
 have o:wpR P n ops T h fun T h n=>Clms (rm T []) C/\wX P N .normal fs n (rm (rm T []) dead) h Q:=hw;simp_all
end Go.AM
namespace Go.AM
variable{P:Program}{N:NM}{n:Nat}{d:Option Nat}{af dead:List Nat}{r:List SOper}{T:Tmps}{h:Heap}{Q:QC}{fs:List Fr}
def wAn(P:Program)(N:NM)(ys:Option (List AV))(len sz bytes:Nat)(d:Option Nat)(ops:List SOper)(dead:List Nat)(fs:List Fr)(n:Nat)(T:Tmps)(h:Heap)(Q:QC):Prop:=∃y,ys=some y/\(len*bytes<=140737488355328/\len<=140737488355328)/\y.all AV.one=true/\wN P N y (.sl n 0 0 len sz) d ops dead fs n T h Q
theorem QgM{sz bytes b g off len}(a:0<len):wM P N (aAppend .dyn n sz bytes .nilsl (.sl b g off len sz)) d r dead fs n T h Q=wAn P N (srcB (h.get b) g off len sz) len sz bytes d r dead fs n T h Q:=by obtain⟨k,rfl⟩:∃k,len=k+1:=⟨len-1,by omega⟩;rw[QnZ];rfl
theorem QmJ{ys}{len sz bytes}(h1:len*bytes<=140737488355328)(c:len<=140737488355328):wAn P N (some ys) len sz bytes d r dead fs n T h Q=if ys.all AV.one=true then wN P N ys (.sl n 0 0 len sz) d r dead fs n T h Q else False:=by
 by_cases ho:ys.all AV.one=true
 ·rw[if_pos ho];apply propext;constructor;·rintro⟨y,b,_,_,a⟩;simp_all
  intro a;exact⟨ys,rfl,⟨h1,c⟩,ho,a⟩
 rw[if_neg ho];apply propext;constructor;·rintro⟨y,b,_,f,a⟩;grind
 simp_all
end Go.AM
namespace Go.AM
variable{h:Heap}{d:List (Nat×Nat)}{a c:List (Option (List Nat))}{b:List Nat}{m:Nat}{π:Nat->Option Src}
theorem QgN:pairsOK a []=true:=rfl
theorem Qdq{i j}{a}(h1:c.getD i none=some a)(f:c.getD j none=some b)(g:∀x∈a,x∉b)(h:pairsOK c d=true):pairsOK c ((i,j)::d)=true:=by simp_all[pairsOK]
theorem Rn.nilK{sz}:Rn m π h (.fsl [] 0 sz) .nilsl:=fun _ c w v H M a=>by simp_all[VRel]
end Go.AM
namespace Go.AM.SE
open Go.Proofs Go.AM.SD
variable{a:Aut}{h:Heap}{cs:List AV}{es:List Ed}{d l:List Int}{f mk u unc ys:List Nat}{i k n v x y:Nat}{left:Nat->Bool}{p:Nat×Nat}{s:QS}
def keysR(es:List Ed):List Nat:=es.foldl (fun l e=>if l.contains e.2.2 then l else l++[e.2.2]) []
theorem QpJ{e}(h:es[i]?=some e):keysR (es.take (i+1))=if(keysR (es.take i)).contains e.2.2 then keysR (es.take i)else keysR (es.take i)++[e.2.2]:=by unfold keysR;rw[ZaS,h,Option.toList,Za0];rfl
theorem Qe5:∀{es:List Ed}{x:Nat},x∈keysR es↔∃e∈es,e.2.2=x:=by
 have key:∀(es:List Ed)(l:List Nat)(x:Nat),x∈es.foldl (fun l e=>if l.contains e.2.2 then l else l++[e.2.2]) l↔x∈l\/∃e∈es,e.2.2=x:=by intro es;induction es with|nil=>intro l x;simp|cons e es c=>
  intro l x;rw[ZaO,c];by_cases h:l.contains e.2.2=true
  ·rw[if_pos h];have d:e.2.2∈l:=by simpa using h
   constructor
   ·rintro(h1|⟨b,h1,a⟩);·exact .inl h1
    exact .inr ⟨b,by simp[h1],a⟩
   rintro(h1|⟨b,h1,a⟩);·exact .inl h1
   rcases Zaz.1 h1 with rfl|h1;·exact .inl (a▸d)
   exact .inr ⟨b,h1,a⟩
  rw[if_neg h];constructor
  ·rintro(h1|⟨b,h1,a⟩)
   ·rcases ZaG.1 h1 with h1|h1;·exact .inl h1
    exact .inr ⟨e,by simp,(by simpa using h1:x=e.2.2).symm⟩
   exact .inr ⟨b,by simp[h1],a⟩
  rintro(h1|⟨b,h1,a⟩);·exact .inl (by simp[h1])
  rcases Zaz.1 h1 with rfl|h1;·exact .inl (by simp[a])
  exact .inr ⟨b,h1,a⟩
 intro es x;have:=key es [] x;unfold keysR;rw[this];simp
theorem Qn3(es):(keysR es).Nodup:=by
 have key:∀(es:List Ed)(l:List Nat),l.Nodup->(es.foldl (fun l e=>if l.contains e.2.2 then l else l++[e.2.2]) l).Nodup:=by intro es;induction es with|nil=>intro l h;exact h|cons e es g=>
  intro l h;rw[ZaO];refine g _ ?_;split;·exact h
  rename_i h1;rw[List.nodup_append];refine⟨h,by simp,fun a f b c=>?_⟩;rw[Za3.1 c];intro d;subst d;exact h1 (by simpa using f)
 exact key es [] List.nodup_nil
theorem Qb9{e}(h:es[i]?=some e)(v):preds (es.take (i+1)) v=preds (es.take i) v++if e.2.2=v then[e.1]else[]:=by unfold preds;rw[ZaS,h,Option.toList,Zbj,ZaI];congr 1;by_cases h1:e.2.2=v<;>simp[h1]
theorem Qei(h:v∉keysR es):preds es v=[]:=by unfold preds;rw[List.map_eq_nil_iff,List.filter_eq_nil_iff];intro e he h1;exact h (Qe5.2 ⟨e,he,by simpa using h1⟩)
theorem QkR(es)(v):(preds es v).length<=es.length:=by unfold preds;rw[Zav];exact ZaY _ _
abbrev pblk(a:Aut)(u:List Nat):List AV:=[sliN a.al,.int .i64 (a.n:Int),sliN a.ms,egsN a.es,sliN u,.map 71 0,.sl 72 0 0 a.n 1]
abbrev backF(es:List Ed):Nat->AV:=fun k=>sliN (preds es k)
abbrev startL(a:Aut)(f u:List Nat):HL:=[(70,.cells 0 (pblk a u)),(71,.map 0 (mapF .i64 (backF a.es) (keysR a.es))),(72,.cells 0 (bls (left0 a.n f)))]
abbrev rowF(es:List Ed):Nat->List AV:=fun k=>ints (nz (preds es k))
abbrev ptrF(es:List Ed):Nat->AV:=fun k=>.sl (300+k) 0 0 (preds es k).length 1
theorem QpK(h:f[i]?=some x):left0 n (f.take (i+1))=(left0 n (f.take i)).set x false:=by unfold left0 offs;rw[ZaS,h,Option.toList,Za0];rfl
theorem QkS:(left0 n f).length=n:=by unfold left0;rw[Qh6];simp
theorem reps(n):(List.replicate n [AV.bool false]).flatten=bls (List.replicate n false):=by induction n with|zero=>rfl|succ n a=>rw[Za4,Zbr,a];rfl
theorem QsA(h:i<n):(List.replicate i true++List.replicate (n-i) false).set i true=List.replicate (i+1) true++List.replicate (n-(i+1)) false:=by rw[List.set_append_right _ _ (by simp),Zbc,Nat.sub_self,show n-i=(n-(i+1))+1 by omega,Za4,Zb1,List.replicate_succ',ZaQ];rfl
theorem start34(a:Aut)(f u)(B:∀e∈a.es,e.1<a.n/\e.2.2<a.n)(hf:∀x∈f,x<a.n)(X:a.n<=4096)(Q:a.es.length<=1000000)(T:f.length<=1000000):HSpec Tryz.prog 118 [aV a,sliN f,sliN u] .e (.ptr 70 0 0) (hp (startL a f u)):=by
 refine ZcM 74 (Ok s118) rfl ?_;have J:(a.n:Int)<=140737488355328:=by omega
 unfold s118;refine Zc0 (Zc1 J @reps) ?_;refine Qas 100 (fun i:Nat=>[(1,sliN f),(3,.ptr 60 0 0),(7,.ptr 70 0 0),(25,.int .i64 a.n),(26,.int .i64 i)]) (fun i=>[(60,.cells 0 [sliN a.al,.int .i64 (a.n:Int),sliN a.ms,egsN a.es]),(70,.cells 0 (pblk a u)),(71,.map 0 []),(72,.cells 0 (bls (List.replicate i true++List.replicate (a.n-i) false)))]) (fun i=>i<=a.n) (fun i=>a.n-i) 0 0 120 (fun _:Unit=>[(1,sliN f),(3,.ptr 60 0 0),(7,.ptr 70 0 0)]) (fun _=>[(60,.cells 0 [sliN a.al,.int .i64 (a.n:Int),sliN a.ms,egsN a.es]),(70,.cells 0 (pblk a u)),(71,.map 0 []),(72,.cells 0 (bls (left0 a.n (f.take 0))))]) (fun _=>True) ?_ (Zah _) ?_ ?_;·exact⟨[(60,.blk 74 0),(70,.blk 83 0),(71,.blk 78 0),(72,.blk 81 0)],rfl,au0,au1,au2⟩
 ·rintro i hi;by_cases m:i<a.n
  ·have h1:i+1<=i+(a.n-i):=by omega
   refine Zc0 (Zc3 m h1 @QjH (QsA m)) ?_;exact b2gsH
  have e:i=a.n:=by omega
  subst e;have C:List.replicate a.n true++List.replicate (a.n-a.n) false=left0 a.n (f.take 0):=by simp[left0,offs]
  refine Zc0 m ?_;refine⟨(),?_⟩;rw[C];exact⟨[(60,.blk 60 0),(70,.blk 70 0),(71,.blk 71 0),(72,.blk 72 0)],rfl,au0,au1,au2⟩
 rintro _ _;refine ZcZ ?_;refine Qas 140 (fun i:Nat=>[(3,.ptr 60 0 0),(7,.ptr 70 0 0),(36,sliN f),(37,.int .i64 f.length),(38,.int .i64 i)]) (fun i=>[(60,.cells 0 [sliN a.al,.int .i64 (a.n:Int),sliN a.ms,egsN a.es]),(70,.cells 0 (pblk a u)),(71,.map 0 []),(72,.cells 0 (bls (left0 a.n (f.take i))))]) (fun i=>i<=f.length) (fun i=>f.length-i) 0 2 160 (fun _:Unit=>[(3,.ptr 60 0 0),(7,.ptr 70 0 0)]) (fun _=>[(60,.cells 0 [sliN a.al,.int .i64 (a.n:Int),sliN a.ms,egsN a.es]),(70,.cells 0 (pblk a u)),(71,.map 0 []),(72,.cells 0 (bls (left0 a.n f)))]) (fun _=>True) ?_ (Zah _) ?_ ?_;·exact⟨[(60,.blk 60 0),(70,.blk 70 0),(71,.blk 71 0),(72,.blk 72 0)],rfl,au0,au1,au2⟩
 ·rintro i hi;by_cases m:i<f.length
  ·obtain⟨x,l⟩:=Qam m;have n:=hf x (Zac l);have I:x+1<=(left0 a.n (f.take i)).length:=by rw[QkS];exact n
   simp(disch:=first|omega|exact PairsOK.mk rfl|(simp only[lenW]<;>omega))only[m,QaJ l,n,I,QjH,<-QpK l,wW,wV,simprocAttr];exact b2gsH
  have e:i=f.length:=by omega
  subst e;refine Zc0 m ?_;refine⟨(),?_⟩;exact⟨[(60,.blk 60 0),(70,.blk 70 0),(71,.blk 71 0),(72,.blk 72 0)],rfl,au0,au1,au2⟩
 rintro _ _;refine ZcZ ?_;have hrn:∀k∈List.range a.n,k<1000000:=fun k d=>by have:=Zat.1 d;omega
 refine Qas 170 (fun i:Nat=>[(7,.ptr 70 0 0),(50,egsN a.es),(51,.int .i64 a.es.length),(52,.int .i64 i)]) (fun i=>(70,.cells 0 (pblk a u))::(71,.map 0 (mapF .i64 (ptrF (a.es.take i)) (keysR (a.es.take i))))::(72,.cells 0 (bls (left0 a.n f)))::rowsL (rowF (a.es.take i)) (List.range a.n)) (fun i=>i<=a.es.length) (fun i=>a.es.length-i) 0 4 200 (fun _:Unit=>[(7,.ptr 70 0 0)]) (fun _=>startL a f u) (fun _=>True) ?_ (Zah _) ?_ ?_
 ·refine⟨(70,.blk 70 0)::(71,.blk 71 0)::(72,.blk 72 0)::psL (fun _=>.nil) (List.range a.n),QfS ZaX hrn (fun _ _ _ _ _ b g N O h=>by cases h) (fun _ _ b g h=>by cases h) (by decide) (by decide) (by decide),Zcs,?_,au2⟩;repeat'(first|exact Zcv|(refine Zcn ?_;first|rfl|(simp only[noRef,noRefs,Qag,Zae,Zad,Zag,Qaa,Qal,Qaf,Qan,Qai,Qah,Qab,Qar,Qaj];done))|exact ZcJ rfl|exact ZcB|exact(True.intro:RnM _ _ _ [] [])|refine ZcC ?_ ?_|(refine Zcm ?_;first|rfl|(simp only[noRef,noRefs,Qag,Zae,Zad,Zag,Qaa,Qal,Qaf,Qan,Qai,Qah,Qab,Qar,Qaj];done))|exact Rn.x1 rfl rfl|exact Rn.x2 rfl rfl|exact Rn.x3 rfl rfl|exact Rn.x4 rfl rfl|exact Rn.x5 rfl|exact Rn.x6 rfl|exact Rn.x7 rfl|refine Zcx rfl rfl ?_|refine Zcw rfl rfl rfl ?_ ?_|refine Zcy rfl rfl rfl ?_ ?_|refine Zcz rfl rfl ?_ ?_|refine ZcA rfl rfl ?_ ?_)
  refine QcT fun k d=>?_;exact Zcx rfl (Qcg d) Zcv
 ·rintro i hi;by_cases m:i<a.es.length
  ·obtain⟨e,he⟩:=Qam m;obtain⟨P,M⟩:=B e (Zac he);have v:=QpJ he;have K:=Qn3 (a.es.take i);have U:(preds (a.es.take i) e.2.2).length<=1000000:=by have:=QkR (a.es.take i) e.2.2;rw[Zar]at this;omega
   have o:=Qb7 (f:=rowF (a.es.take i)) ZaX hrn (Zat.2 M);have s:∀b,b<300->(hp (rowsL (rowF (a.es.take i)) (List.range a.n))).get b=none:=fun b p=>Qeh hrn fun k d=>by omega
   refine Zc0 (Zc2 m (QaQ he) s) ?_;refine Qb8 [(57,[70]),(59,[71]),(63,[70]),(65,[71]),(68,[300+e.2.2])] rfl ?_ ?_;·exact Qdq (a:=[71]) (b:=[190]) rfl rfl (fun x l=>by simp only[Zaz,Zbx,or_false]at l⊢;omega) (Qdq (a:=[70]) (b:=[191,300+e.2.2,190]) rfl rfl (fun x l=>by simp only[Zaz,Zbx,or_false]at l⊢;omega) (Qdq (a:=[173]) (b:=[191,300+e.2.2,190]) rfl rfl (fun x l=>by simp only[Zaz,Zbx,or_false]at l⊢;omega) QgN))
   refine Zc0 s ?_;refine Qcz ?_;refine Zc0 s ?_;by_cases d:e.2.2∈keysR (a.es.take i)
   ·refine wK_in d ?_;refine Zc0 (Zc1 o s) ?_;refine QbF ?_;refine Zc0 (Zc1 o s) ?_;refine QuT K d (by decide) ?_;refine Zc0 (Zc1 o s) ?_;refine⟨⟨⟨_,rfl,fun b p=>p⟩,⟨_,rfl,fun b p=>p⟩,⟨_,rfl,fun b p=>p⟩,⟨_,rfl,fun b p=>p⟩,⟨_,rfl,fun b p=>p⟩,trivial⟩,i+1,by omega,by omega,?_⟩;rw[if_pos (by simpa using d)]at v;have y:∀x∈keysR (a.es.take (i+1)),x<a.n:=fun x l=>by obtain⟨H,A,rfl⟩:=Qe5.1 l;exact(B H (ZaR A)).2
    generalize w:psL (fun k=>if k∈keysR (a.es.take (i+1))then(if k=e.2.2 then .blk (300+e.2.2) 1 else .blk (300+k) 0:Src)else .nil) (List.range a.n)=PS;have t:∀k:Nat,k<a.n->k≠e.2.2->(hp (rowsL (rowF (a.es.take i)) (List.range a.n))).get (300+k)=some (.cells 0 (rowF (a.es.take i) k)):=fun k d _=>Qb7 ZaX hrn (Zat.2 d);refine⟨(70,.blk 70 0)::(71,.blk 71 0)::(72,.blk 72 0)::PS,?_,Zcs,?_,?_⟩
    ·exact bkapZ
    ·subst w;refine Zcw rfl rfl (by simp(disch:=omega)only[QaF,QaI,QaZ];rfl) ?_ (Zcy rfl rfl (by simp(disch:=omega)only[QaF,QaI,QaZ];rfl) ?_ (Zcw rfl rfl (by simp(disch:=omega)only[QaF,QaI,QaZ]) (Zcn (Qai _)) ?_));·repeat'(first|exact Zcv|(refine Zcn ?_;first|rfl|(simp only[noRef,noRefs,Qag,Zae,Zad,Zag,Qaa,Qal,Qaf,Qan,Qai,Qah,Qab,Qar,Qaj];done))|exact ZcJ rfl|exact ZcB|exact(True.intro:RnM _ _ _ [] [])|refine ZcC ?_ ?_|(refine Zcm ?_;first|rfl|(simp only[noRef,noRefs,Qag,Zae,Zad,Zag,Qaa,Qal,Qaf,Qan,Qai,Qah,Qab,Qar,Qaj];done))|exact Rn.x1 rfl rfl|exact Rn.x2 rfl rfl|exact Rn.x3 rfl rfl|exact Rn.x4 rfl rfl|exact Rn.x5 rfl|exact Rn.x6 rfl|exact Rn.x7 rfl|refine Zcx rfl rfl ?_|refine Zcw rfl rfl rfl ?_ ?_|refine Zcy rfl rfl rfl ?_ ?_|refine Zcz rfl rfl ?_ ?_|refine ZcA rfl rfl ?_ ?_)
     ·rw[v];refine ZcN fun x l=>?_;have E:x∈keysR (a.es.take (i+1)):=by rw[v];exact l
      have n:=y x E;unfold updF ptrF;split;·rename_i c;subst c;(rw[Qb9 he,if_pos rfl,Zaf];exact Rn.x1 rfl (by rw[Qcg (Zat.2 n)];simp[l]))
      exact bwgjm
     refine QcT fun k d=>?_;have F:=Zat.1 d;by_cases q:k∈keysR (a.es.take (i+1))
     ·by_cases c:k=e.2.2;·subst c;refine Zcw rfl (b:=300+e.2.2) (g:=1) (ds:=rowF (a.es.take i) e.2.2++[.int .i64 (e.1:Int)]) (by rw[Qcg d];simp[q]) (by simp(disch:=omega)only[QaF,QaI,QaZ]) (RnL.eq ?_ (Qaa _)) Zcv;unfold SE.rowF;rw[Qb9 he,if_pos rfl,QaM,QaB];rfl
      exact bgFqx
     exact bSf5o
    exact au2
   refine Qmy d ?_;refine Zc0 (Zc3 o s @QgM @QmJ) ?_;refine QbF ?_;refine Zc0 (Zc1 o s) ?_;refine Qce d (by decide) ?_;refine Zc0 (Zc1 o s) ?_;refine⟨⟨⟨_,rfl,fun b p=>p⟩,⟨_,rfl,fun b p=>p⟩,⟨_,rfl,fun b p=>p⟩,⟨_,rfl,fun b p=>p⟩,⟨[],rfl,fun b p=>by cases p⟩,trivial⟩,i+1,by omega,by omega,?_⟩;rw[if_neg (by simpa using d)]at v;have y:∀x∈keysR (a.es.take (i+1)),x<a.n:=fun x l=>by obtain⟨H,A,rfl⟩:=Qe5.1 l;exact(B H (ZaR A)).2
   have G:=Qei d;generalize w:psL (fun k=>if k∈keysR (a.es.take (i+1))then(if k=e.2.2 then .blk 191 0 else .blk (300+k) 0:Src)else .nil) (List.range a.n)=PS;have t:∀k:Nat,k<a.n->k≠e.2.2->(hp (rowsL (rowF (a.es.take i)) (List.range a.n))).get (300+k)=some (.cells 0 (rowF (a.es.take i) k)):=fun k d _=>Qb7 ZaX hrn (Zat.2 d);refine⟨(70,.blk 70 0)::(71,.blk 71 0)::(72,.blk 72 0)::PS,?_,Zcs,?_,?_⟩
   ·exact bkapZ
   ·subst w;refine Zcw rfl rfl (by simp(disch:=omega)only[QaF,QaI,QaZ];rfl) ?_ (Zcy rfl rfl (by simp(disch:=omega)only[QaF,QaI,QaZ];rfl) ?_ (Zcw rfl rfl (by simp(disch:=omega)only[QaF,QaI,QaZ]) (Zcn (Qai _)) ?_));·repeat'(first|exact Zcv|(refine Zcn ?_;first|rfl|(simp only[noRef,noRefs,Qag,Zae,Zad,Zag,Qaa,Qal,Qaf,Qan,Qai,Qah,Qab,Qar,Qaj];done))|exact ZcJ rfl|exact ZcB|exact(True.intro:RnM _ _ _ [] [])|refine ZcC ?_ ?_|(refine Zcm ?_;first|rfl|(simp only[noRef,noRefs,Qag,Zae,Zad,Zag,Qaa,Qal,Qaf,Qan,Qai,Qah,Qab,Qar,Qaj];done))|exact Rn.x1 rfl rfl|exact Rn.x2 rfl rfl|exact Rn.x3 rfl rfl|exact Rn.x4 rfl rfl|exact Rn.x5 rfl|exact Rn.x6 rfl|exact Rn.x7 rfl|refine Zcx rfl rfl ?_|refine Zcw rfl rfl rfl ?_ ?_|refine Zcy rfl rfl rfl ?_ ?_|refine Zcz rfl rfl ?_ ?_|refine ZcA rfl rfl ?_ ?_)
    ·rw[v];refine ZcN fun x l=>?_;have E:x∈keysR (a.es.take (i+1)):=by rw[v];exact l
     have n:=y x E;unfold updF ptrF;split;·rename_i c;subst c;(rw[Qb9 he,if_pos rfl,G];exact Rn.x1 rfl (by rw[Qcg (Zat.2 n)];simp[l]))
     exact bwgjm
    refine QcT fun k d=>?_;have F:=Zat.1 d;by_cases q:k∈keysR (a.es.take (i+1))
    ·by_cases c:k=e.2.2;·subst c;refine Zcw rfl (b:=191) (g:=0) (ds:=[.int .i64 (e.1:Int)]) (by rw[Qcg d];simp[q]) (by simp(disch:=omega)only[QaF,QaI,QaZ]) (RnL.eq ?_ (Qaa _)) Zcv;unfold SE.rowF;rw[Qb9 he,if_pos rfl,QaM,QaB];(rw[G];rfl)
     exact bgFqx
    exact bSf5o
   exact au2
  have e:i=a.es.length:=by omega
  subst e;have y:∀x∈keysR a.es,x<a.n:=fun x l=>by obtain⟨H,A,rfl⟩:=Qe5.1 l;exact(B H A).2
  refine Zc0 m ?_;refine⟨(),[(70,.blk 70 0),(71,.blk 71 0),(72,.blk 72 0)],rfl,Zcs,?_,au2⟩;refine Zcw rfl rfl (by simp(disch:=omega)only[QaF,QaI,QaZ];rfl) ?_ (Zcy rfl rfl (by simp(disch:=omega)only[QaF,QaI,QaZ];rfl) ?_ (Zcw rfl rfl (by simp(disch:=omega)only[QaF,QaI,QaZ]) (Zcn (Qai _)) Zcv));·repeat'(first|exact Zcv|(refine Zcn ?_;first|rfl|(simp only[noRef,noRefs,Qag,Zae,Zad,Zag,Qaa,Qal,Qaf,Qan,Qai,Qah,Qab,Qar,Qaj];done))|exact ZcJ rfl|exact ZcB|exact(True.intro:RnM _ _ _ [] [])|refine ZcC ?_ ?_|(refine Zcm ?_;first|rfl|(simp only[noRef,noRefs,Qag,Zae,Zad,Zag,Qaa,Qal,Qaf,Qan,Qai,Qah,Qab,Qar,Qaj];done))|exact Rn.x1 rfl rfl|exact Rn.x2 rfl rfl|exact Rn.x3 rfl rfl|exact Rn.x4 rfl rfl|exact Rn.x5 rfl|exact Rn.x6 rfl|exact Rn.x7 rfl|refine Zcx rfl rfl ?_|refine Zcw rfl rfl rfl ?_ ?_|refine Zcy rfl rfl rfl ?_ ?_|refine Zcz rfl rfl ?_ ?_|refine ZcA rfl rfl ?_ ?_)
  refine ZcN fun x l=>?_;have n:=y x l;have R:=Qb7 (f:=SE.rowF a.es) ZaX hrn (Zat.2 n);have h1:Nat.beq (300+x) 70=false:=by rw[ZaH];simp;try omega
  have z:Nat.beq (300+x) 71=false:=by rw[ZaH];simp;try omega
  have S:Nat.beq (300+x) 72=false:=by rw[ZaH];simp;try omega
  exact ZcD (by simp(disch:=omega)only[QaF,QaI,QaZ,R]) (by simp[srcNew,h1,z,S]) (by simp) rfl (by rw[Qc2,Zav,ZbE]) (Zcn (Qaa _))
 rintro _ _;refine ZcZ ?_;refine⟨.inr trivial,_,rfl,[(70,.blk 70 0),(71,.blk 71 0),(72,.blk 72 0)],rfl,Zcs,?_,au2⟩;refine Zcw rfl rfl rfl ?_ (Zcy rfl rfl rfl (ZcN fun x _=>Zcm (Qab _)) (Zcw rfl rfl rfl (Zcn (Qai _)) Zcv));repeat'(first|exact Zcv|(refine Zcn ?_;first|rfl|(simp only[noRef,noRefs,Qag,Zae,Zad,Zag,Qaa,Qal,Qaf,Qan,Qai,Qah,Qab,Qar,Qaj];done))|exact ZcJ rfl|exact ZcB|exact(True.intro:RnM _ _ _ [] [])|refine ZcC ?_ ?_|(refine Zcm ?_;first|rfl|(simp only[noRef,noRefs,Qag,Zae,Zad,Zag,Qaa,Qal,Qaf,Qan,Qai,Qah,Qab,Qar,Qaj];done))|exact Rn.x1 rfl rfl|exact Rn.x2 rfl rfl|exact Rn.x3 rfl rfl|exact Rn.x4 rfl rfl|exact Rn.x5 rfl|exact Rn.x6 rfl|exact Rn.x7 rfl|refine Zcx rfl rfl ?_|refine Zcw rfl rfl rfl ?_ ?_|refine Zcy rfl rfl rfl ?_ ?_|refine Zcz rfl rfl ?_ ?_|refine ZcA rfl rfl ?_ ?_)
abbrev pv(a:Aut)(u:List Nat)(l:LB):AV:=.fptr [sliN a.al,.int .i64 (a.n:Int),sliN a.ms,egsN a.es,sliN u,fmapF .i64 (backF a.es) (keysR a.es),.fsl (bls l) a.n 1]
theorem QdZ{f:Nat->AV}(h:∀x,noRef (f x)=true)(l:List Nat):noRefs (l.map f)=true:=by induction l with|nil=>rfl|cons x l a=>simp only[ZaK,noRefs,h,a];rfl
theorem Qak(k)(l:List Nat):noRefs (l.map fun x:Nat=>AV.int k (x:Int))=true:=QdZ (fun _=>rfl) l
theorem Qao(es)(l:List Nat):noRefs (l.map (backF es))=true:=QdZ (fun x=>Qab _) l
theorem QqY(h:mk[i]?=some x):bMks n (mk.take (i+1)) left=bMk left (bMks n (mk.take i) left) x:=by unfold bMks;rw[ZaS,h,Option.toList,Za0];rfl
theorem QsB(n)(mk)(left):(bMks n mk left).1.length=n:=by
 have key:∀(mk:List Nat)(s:QS),(mk.foldl (bMk left) s).1.length=s.1.length:=by intro mk;induction mk with|nil=>intro s;rfl|cons x mk a=>intro s;rw[ZaO,a];unfold bMk;split<;>simp
 unfold bMks;rw[key];simp
theorem QkT(h:ys[i]?=some y):(ys.take (i+1)).foldl (bEd left v) s=bEd left v ((ys.take i).foldl (bEd left v) s) y:=by rw[ZaS,h,Option.toList,Za0];rfl
theorem QmK(n)(x):(List.replicate n [AV.int .i64 x]).flatten=ints (List.replicate n x):=by induction n with|zero=>rfl|succ n a=>rw[Za4,Zbr,a];rfl
theorem QkU(h:i<n):(List.replicate i (-1:Int)++List.replicate (n-i) 0).set i (-1)=List.replicate (i+1) (-1)++List.replicate (n-(i+1)) 0:=by rw[List.set_append_right _ _ (by simp),Zbc,Nat.sub_self,show n-i=(n-(i+1))+1 by omega,Za4,Zb1,List.replicate_succ',ZaQ];rfl
theorem QbH{l}{i}{x}:(ints l).set i (.int .i64 x)=ints (l.set i x):=by simp[ints,List.map_set]
def Bd(s:QS):Prop:=∀x,s.1.getD x 0<=s.2.length
theorem QuW(h:Bd s):Bd (bEd left v s y):=by
 unfold bEd;split
 ·intro x;have h1:=h x;have a:=h v;show(s.1.set y (s.1.getD v 0+1)).getD x 0<=((s.2++[y]).length:Int);exact b5o1k
 exact h
theorem QuX(h:Bd s):Bd (bMk left s x):=by
 unfold bMk;split
 ·intro z;have h1:=h z;show(s.1.set x 0).getD z 0<=((s.2++[x]).length:Int);exact b5o1k
 exact h
theorem Qfq:∀(ys:List Nat)(s:QS),Bd s->Bd (ys.foldl (bEd left v) s)|[],s,h=>h|y::ys,s,h=>Qfq ys _ (QuW h)
theorem QtG(mk):Bd (bMks n mk left):=by
 have key:∀(mk:List Nat)(s:QS),Bd s->Bd (mk.foldl (bMk left) s):=by intro mk;induction mk with|nil=>intro s h;exact h|cons x mk a=>intro s h;exact a _ (QuX h)
 refine key mk _ fun x=>?_;simp only[Zaj,List.getElem?_replicate];split<;>simp
theorem QuY(n)(left)(mk):(bMks n mk left).2.length<=mk.length:=by
 have key:∀(mk:List Nat)(s:QS),(mk.foldl (bMk left) s).2.length<=s.2.length+mk.length:=by intro mk;induction mk with|nil=>intro s;simp|cons x mk a=>intro s;rw[ZaO];refine Zaw (a _) ?_;unfold bMk;split<;>simp<;>omega
 have:=key mk (List.replicate n (-1),[]);unfold bMks;simpa using this
theorem Qbh{x}(h:l[i]?=some x):(ints l)[i]?=some (.int .i64 x):=by simp[ints,h]
theorem Qbq(h:i<l.length):(ints l)[i]?=some (.int .i64 (l.getD i 0)):=by simp[ints,h]
theorem _root_.Go.AM.au5{p:Prop}(h:p:=by repeat'(first|exact Zcv|(refine Zcn ?_;first|rfl|(simp only[noRef,noRefs,SD.Qaa,SD.Qab,SD.Qaf,SD.Qag,SD.Qah,SD.Qai,SD.Qaj,SD.Qal,SD.Qan,SD.Qar,SE.Qak,SE.Qao,SO.QaC,SO.Qau,SO.Qay,Zad,Zae,Zag];done))|exact ZcJ rfl|exact ZcB|exact(True.intro:RnM _ _ _ [] [])|refine ZcC ?_ ?_|(refine Zcm ?_;first|rfl|(simp only[noRef,noRefs,SD.Qaa,SD.Qab,SD.Qaf,SD.Qag,SD.Qah,SD.Qai,SD.Qaj,SD.Qal,SD.Qan,SD.Qar,SE.Qak,SE.Qao,SO.QaC,SO.Qau,SO.Qay,Zad,Zae,Zag];done))|exact Rn.x1 rfl rfl|exact Rn.x2 rfl rfl|exact Rn.x3 rfl rfl|exact Rn.x4 rfl rfl|exact Rn.x5 rfl|exact Rn.x6 rfl|exact Rn.x7 rfl|refine Zcx rfl rfl ?_|refine Zcw rfl rfl rfl ?_ ?_|refine Zcy rfl rfl rfl ?_ ?_|refine Zcz rfl rfl ?_ ?_|refine ZcA rfl rfl ?_ ?_)):p:=h
theorem _root_.Go.AM.au6{p:Prop}(h:p:=by repeat(first|exact Zct|(refine Zcu ?_ ?_;·(first|exact Zcl|exact Rn.x1 rfl rfl|exact Rn.x2 rfl rfl|exact Rn.x3 rfl rfl|exact Rn.x4 rfl rfl|exact Rn.x5 rfl|exact Rn.x6 rfl|exact Rn.x7 rfl|(refine ZcF ?_ ?_;(first|rfl|(rw[ZaE];rfl));(first|rfl|(simp only[noRef,noRefs,SD.Qaa,SD.Qab,SD.Qaf,SD.Qag,SD.Qah,SD.Qai,SD.Qaj,SD.Qal,SD.Qan,SD.Qar,SE.Qak,SE.Qao,SO.QaC,SO.Qau,SO.Qay,Zad,Zae,Zag];done)))|(refine Rn.fn ?_ ?_<;>(repeat'(first|exact ZcB|refine ZcC ?_ ?_|exact Zcm rfl|exact Rn.x6 rfl|exact Rn.x2 rfl rfl|exact Rn.x5 rfl|exact Rn.x1 rfl rfl))))))):p:=h
theorem dist53(a)(u)(l)(hin:InN a.n a.es a.ms)(hnd:a.ms.Nodup)(hl:l.length=a.n)(hn:a.n<=4096)(hel:a.es.length<=1000000)(hml:a.ms.length<=1000000):HSpec Tryz.prog 122 [pv a u l] .e (.sl 80 0 0 a.n 1) (hp [(80,.cells 0 (ints (pDist a.n a.es a.ms (lf l))))]):=by
 refine ZcM 100 (Ok s122) rfl ?_;have hn':(a.n:Int)<=140737488355328:=by omega
 have hn8:(8:Int)*a.n<=140737488355328:=by omega
 unfold s122;refine Zc0 (Zc2 hn' hn8 @QmK) ?_;refine Qas 100 (fun i:Nat=>[(0,pv a u l),(3,.sl 80 0 0 a.n 1),(18,.int .i64 a.n),(19,.int .i64 i)]) (fun i=>[(80,.cells 0 (ints (List.replicate i (-1)++List.replicate (a.n-i) 0)))]) (fun i=>i<=a.n) (fun i=>a.n-i) 0 0 120 (fun _:Unit=>[(0,pv a u l),(3,.sl 80 0 0 a.n 1)]) (fun _=>[(80,.cells 0 (ints (List.replicate a.n (-1))))]) (fun _=>True) ?_ (Zah _) ?_ ?_;·exact⟨[(80,.blk 106 0)],rfl,au0,au5,au6⟩
 ·rintro i hi;by_cases hlt:i<a.n
  ·have h1:i+1<=i+(a.n-i):=by omega
   refine Zc0 (Zc3 hlt h1 @QbH (QkU hlt)) ?_;exact⟨i+1,by omega,by omega,⟨[(80,.blk 80 0)],rfl,au0,au5,au6⟩⟩
  ·have e:i=a.n:=by omega
   subst e;have e2:List.replicate a.n (-1:Int)++List.replicate (a.n-a.n) 0=List.replicate a.n (-1):=by simp
   refine Zc0 hlt ?_;refine⟨(),?_⟩;rw[e2];exact⟨[(80,.blk 80 0)],rfl,au0,au5,au6⟩
 rintro _ _;refine ZcZ ?_;refine Qas 140 (fun i:Nat=>[(0,pv a u l),(3,.sl 80 0 0 a.n 1),(5,.sl 81 0 0 (bMks a.n (a.ms.take i) (lf l)).2.length 1),(30,sliN a.ms),(31,.int .i64 a.ms.length),(32,.int .i64 i)]) (fun i=>[(80,.cells 0 (ints (bMks a.n (a.ms.take i) (lf l)).1)),(81,.cells 0 (ints (nz (bMks a.n (a.ms.take i) (lf l)).2)))]) (fun i=>i<=a.ms.length) (fun i=>a.ms.length-i) 0 2 160 (fun _:Unit=>[(0,pv a u l),(3,.sl 80 0 0 a.n 1),(5,.sl 81 0 0 (bMks a.n a.ms (lf l)).2.length 1)]) (fun _=>[(80,.cells 0 (ints (bMks a.n a.ms (lf l)).1)),(81,.cells 0 (ints (nz (bMks a.n a.ms (lf l)).2)))]) (fun _=>True) ?_ (Zah _) ?_ ?_;·exact⟨[(80,.blk 80 0),(81,.nil)],rfl,au0,au5,au6⟩
 ·rintro i hi;by_cases hlt:i<a.ms.length
  ·obtain⟨x,hx⟩:=Qam hlt;have hxn:=hin.2 x (Zac hx);have hs:=QqY (n:=a.n) (left:=lf l) hx;have hq:=QuY a.n (lf l) (a.ms.take i);rw[Zar]at hq;have hlen:=QsB a.n (a.ms.take i) (lf l);generalize bMks a.n (a.ms.take i) (lf l)=s at*;have h1:x+1<=s.1.length:=by omega
   have hxl:x<l.length:=by omega
   by_cases h0:lf l x=true;·rw[bMk,if_pos h0]at hs;refine Zc0 (Zc6 hlt (QaJ hx) hxn (Qbd hxl) h0 @QbH h1) ?_;refine⟨i+1,by omega,by omega,?_⟩;rw[hs,QaM,QaB,Zaf];exact⟨[(80,.blk 80 0),(81,.blk 81 1)],rfl,au0,au5,au6⟩
   ·rw[bMk,if_neg h0]at hs;rw[Zam]at h0;refine Zc0 (Zc4 hlt (QaJ hx) hxn (Qbd hxl) h0) ?_;refine⟨i+1,by omega,by omega,?_⟩;rw[hs];exact⟨[(80,.blk 80 0),(81,.blk 81 0)],rfl,au0,au5,au6⟩
  ·have e:i=a.ms.length:=by omega
   subst e;refine Zc0 hlt ?_;refine⟨(),?_⟩;exact⟨[(80,.blk 80 0),(81,.blk 81 0)],rfl,au0,au5,au6⟩
 rintro _ _;refine ZcZ ?_;have hb0:=Qjz (left:=lf l) hin hnd;have hd0:=QtG (n:=a.n) (left:=lf l) a.ms;have hfin:(bQ a.es (lf l) (a.n+1) 0 (bMks a.n a.ms (lf l))).1=pDist a.n a.es a.ms (lf l):=rfl;generalize bMks a.n a.ms (lf l)=s0 at*;refine Qas 180 (fun t:Nat×QS=>[(0,pv a u l),(3,.sl 80 0 0 a.n 1),(5,.sl 81 0 0 t.2.2.length 1),(8,.int .i64 t.1)]) (fun t=>[(80,.cells 0 (ints t.2.1)),(81,.cells 0 (ints (nz t.2.2)))]) (fun t=>t.1<=a.n/\BH a.n a.es a.ms (lf l) t.1 t.2/\Bd t.2/\bQ a.es (lf l) (a.n+1-t.1) t.1 t.2=bQ a.es (lf l) (a.n+1) 0 s0) (fun t=>a.n+1-t.1) (0,s0) 4 200 (fun _:Unit=>[(3,.sl 80 0 0 a.n 1)]) (fun _=>[(80,.cells 0 (ints (pDist a.n a.es a.ms (lf l))))]) (fun _=>True) ?_ ⟨Zah _,hb0,hd0,rfl⟩ ?_ ?_;·exact⟨[(80,.blk 80 0),(81,.blk 81 0)],rfl,au0,au5,au6⟩
 ·rintro⟨i,s⟩⟨hi,hbh,hbd,hq⟩;dsimp only at hi hbh hbd hq⊢;have hsl:=hbh.bi.cnt;have hlen:=hbh.bi.len;by_cases hlt:i<s.2.length
  ·obtain⟨v,hv⟩:=Qam hlt;have hvn:=((hbh.bi.inl v).1 (Zac hv)).1;have hin':i<a.n:=by omega
   have hq':bQ a.es (lf l) (a.n+1-(i+1)) (i+1) (bRow a.es (lf l) v s)=bQ a.es (lf l) (a.n+1) 0 s0:=by rw[<-hq,show a.n+1-i=(a.n+1-(i+1))+1 by omega];simp only[bQ,hv]
   have hbh':=hbh.step hin hv;have hrow:=fun ys(hys:∀y∈ys,∃e∈a.es,e.1=y/\e.2.2=v)=>BI.row (left:=lf l) (mk:=a.ms) hin (v:=v) (i:=i) ys s hys hbh.bi hv (hbh.near v hv) hbh.done;have hpl:=QkR a.es v;refine Zc0 (Zc2 hlt (QaJ hv) (Qbh (nz_at hv))) ?_;have hpn:∀y∈preds a.es v,y<a.n:=fun y hy=>by obtain⟨e,he,h1,h2⟩:=Qd3.1 hy;have:=(hin.1 e he).1;omega
   by_cases hk:v∈keysR a.es
   ·refine Qn0 hk ?_;refine ZcZ ?_;refine Qas 220 (fun j:Nat=>[(65,sliN (preds a.es v)),(66,.int .i64 (preds a.es v).length),(0,pv a u l),(3,.sl 80 0 0 a.n 1),(5,.sl 81 0 0 (((preds a.es v).take j).foldl (bEd (lf l) v) s).2.length 1),(8,.int .i64 i),(67,.int .i64 j)]) (fun j=>[(80,.cells 0 (ints (((preds a.es v).take j).foldl (bEd (lf l) v) s).1)),(81,.cells 0 (ints (nz (((preds a.es v).take j).foldl (bEd (lf l) v) s).2)))]) (fun j=>j<=(preds a.es v).length) (fun j=>(preds a.es v).length-j) 0 6 240 (fun _:Unit=>[(0,pv a u l),(3,.sl 80 0 0 a.n 1),(5,.sl 81 0 0 (bRow a.es (lf l) v s).2.length 1),(8,.int .i64 i)]) (fun _=>[(80,.cells 0 (ints (bRow a.es (lf l) v s).1)),(81,.cells 0 (ints (nz (bRow a.es (lf l) v s).2)))]) (fun _=>True) ?_ (Zah _) ?_ ?_;·exact⟨[(80,.blk 80 0),(81,.blk 81 0)],rfl,au0,au5,au6⟩
    ·exact bBJhk
    exact bTNnL
   ·refine Qmx hk ?_;have hp0:=Qei hk;refine ZcZ ?_;refine Qas 220 (fun j:Nat=>[(65,sliN (preds a.es v)),(66,.int .i64 (preds a.es v).length),(0,pv a u l),(3,.sl 80 0 0 a.n 1),(5,.sl 81 0 0 (((preds a.es v).take j).foldl (bEd (lf l) v) s).2.length 1),(8,.int .i64 i),(67,.int .i64 j)]) (fun j=>[(80,.cells 0 (ints (((preds a.es v).take j).foldl (bEd (lf l) v) s).1)),(81,.cells 0 (ints (nz (((preds a.es v).take j).foldl (bEd (lf l) v) s).2)))]) (fun j=>j<=(preds a.es v).length) (fun j=>(preds a.es v).length-j) 0 6 240 (fun _:Unit=>[(0,pv a u l),(3,.sl 80 0 0 a.n 1),(5,.sl 81 0 0 (bRow a.es (lf l) v s).2.length 1),(8,.int .i64 i)]) (fun _=>[(80,.cells 0 (ints (bRow a.es (lf l) v s).1)),(81,.cells 0 (ints (nz (bRow a.es (lf l) v s).2)))]) (fun _=>True) ?_ (Zah _) ?_ ?_;·exact⟨[(80,.blk 80 0),(81,.blk 81 0)],rfl,Zcs,au5,Zcu (by rw[hp0];exact Rn.nilK) (Zcu (by rw[hp0];exact Zcm rfl) au6)⟩
    ·exact bBJhk
    exact bTNnL
  ·have hv:s.2[i]?=none:=Zax (by omega);have hqf:s.1=pDist a.n a.es a.ms (lf l):=by rw[<-hfin,<-hq,show a.n+1-i=(a.n-i)+1 by omega];simp only[bQ,hv]
   refine Zc0 hlt ?_;refine⟨(),?_⟩;rw[hqf];exact⟨[(80,.blk 80 0)],rfl,au0,au5,au6⟩
 rintro _ _;refine ZcZ ?_;exact⟨.inr trivial,_,rfl,⟨[(80,.blk 80 0)],rfl,au0,au5,au6⟩⟩
def bkC(rank:Int)(x:Nat):List AV:=[.int .i64 (x:Int),.int .i64 rank,.int .i64 3,.int .i64 (-1)]
theorem QaA(rank)(l:List Nat):noRefs (l.flatMap (bkC rank))=true:=Qa8 (fun x=>rfl) l
def lsC(rank:Int)(p:Nat×Nat):List AV:=[.int .i64 (p.1:Int),.int .i64 rank,.int .i64 2,.int .i64 (p.2:Int)]
theorem Qap(rank)(l:List (Nat×Nat)):noRefs (l.flatMap (lsC rank))=true:=Qa8 (fun x=>rfl) l
theorem ls_rm(rank)(l):l.flatMap (lsC rank)=(lostF rank l).flatMap rmC:=by unfold lostF;rw[List.flatMap_map];rfl
theorem QqZ(rank)(l:List (Nat×Nat)):(l.flatMap (lsC rank)).length=l.length*4:=Qbf (f:=lsC rank) (k:=4) (fun _=>rfl) l
theorem Qq0{rank}{l:List (Nat×Nat)}(h:l[i]?=some p):(l.flatMap (lsC rank))[i*4]?=some (.int .i64 (p.1:Int)):=by
 have:=Qbj (f:=lsC rank) (k:=4) (fun _=>rfl) h;have a:((l.flatMap (lsC rank)).drop (i*4))[0]?=some (.int .i64 (p.1:Int)):=by rw[this];rfl
 simpa using a
theorem QpL{e}(h:es[i]?=some e):pLost (es.take (i+1)) left unc=pLs left unc (pLost (es.take i) left unc) e:=by unfold pLost;rw[ZaS,h,Option.toList,Za0];rfl
theorem Qq1(es)(left)(unc):(pLost es left unc).length<=es.length:=by
 have key:∀(es:List Ed)(o:List (Nat×Nat)),(es.foldl (pLs left unc) o).length<=o.length+es.length:=by intro es;induction es with|nil=>intro o;simp|cons e es a=>intro o;rw[ZaO];refine Zaw (a _) ?_;unfold pLs;(repeat' split)<;>(try simp)<;>(try omega)
 have:=key es [];unfold pLost;simpa using this
theorem _root_.Go.AM.au7{p:Prop}(h:p:=by repeat'(first|exact Zcv|(refine Zcn ?_;first|rfl|(simp only[noRef,noRefs,SD.Qaa,SD.Qab,SD.Qaf,SD.Qag,SD.Qah,SD.Qai,SD.Qaj,SD.Qal,SD.Qan,SD.Qar,SE.QaA,SE.Qak,SE.Qao,SE.Qap,SO.QaC,SO.Qau,SO.Qay,Zad,Zae,Zag];done))|exact ZcJ rfl|exact ZcB|exact(True.intro:RnM _ _ _ [] [])|refine ZcC ?_ ?_|(refine Zcm ?_;first|rfl|(simp only[noRef,noRefs,SD.Qaa,SD.Qab,SD.Qaf,SD.Qag,SD.Qah,SD.Qai,SD.Qaj,SD.Qal,SD.Qan,SD.Qar,SE.QaA,SE.Qak,SE.Qao,SE.Qap,SO.QaC,SO.Qau,SO.Qay,Zad,Zae,Zag];done))|exact Rn.x1 rfl rfl|exact Rn.x2 rfl rfl|exact Rn.x3 rfl rfl|exact Rn.x4 rfl rfl|exact Rn.x5 rfl|exact Rn.x6 rfl|exact Rn.x7 rfl|refine Zcx rfl rfl ?_|refine Zcw rfl rfl rfl ?_ ?_|refine Zcy rfl rfl rfl ?_ ?_|refine Zcz rfl rfl ?_ ?_|refine ZcA rfl rfl ?_ ?_)):p:=h
theorem _root_.Go.AM.au8{p:Prop}(h:p:=by repeat(first|exact Zct|(refine Zcu ?_ ?_;·(first|exact Zcl|exact Rn.x1 rfl rfl|exact Rn.x2 rfl rfl|exact Rn.x3 rfl rfl|exact Rn.x4 rfl rfl|exact Rn.x5 rfl|exact Rn.x6 rfl|exact Rn.x7 rfl|(refine ZcF ?_ ?_;(first|rfl|(rw[ZaE];rfl));(first|rfl|(simp only[noRef,noRefs,SD.Qaa,SD.Qab,SD.Qaf,SD.Qag,SD.Qah,SD.Qai,SD.Qaj,SD.Qal,SD.Qan,SD.Qar,SE.QaA,SE.Qak,SE.Qao,SE.Qap,SO.QaC,SO.Qau,SO.Qay,Zad,Zae,Zag];done)))|(refine Rn.fn ?_ ?_<;>(repeat'(first|exact ZcB|refine ZcC ?_ ?_|exact Zcm rfl|exact Rn.x6 rfl|exact Rn.x2 rfl rfl|exact Rn.x5 rfl|exact Rn.x1 rfl rfl))))))):p:=h
theorem lost47(a:Aut)(u)(l)(rank)(hes:∀e∈a.es,e.1<a.n/\e.2.2<a.n)(hl:l.length=a.n)(hel:a.es.length<=1000000)(hul:u.length<=1000000):HSpec Tryz.prog 176 [pv a u l,.int .i64 rank] .e (.sl 80 0 0 (lostF rank (pLost a.es (lf l) u)).length 4) (hp [(80,.cells 0 ((lostF rank (pLost a.es (lf l) u)).flatMap rmC))]):=by
 rw[<-ls_rm,show(lostF rank (pLost a.es (lf l) u)).length=(pLost a.es (lf l) u).length by unfold lostF;rw[Zav]];refine ZcM 100 (Ok s176) rfl ?_;unfold s176;refine ZcZ ?_;refine Qas 100 (fun i:Nat=>[(0,pv a u l),(1,.int .i64 rank),(5,.sl 80 0 0 (pLost (a.es.take i) (lf l) u).length 4),(13,egsN a.es),(14,.int .i64 a.es.length),(15,.int .i64 i)]) (fun i=>[(80,.cells 0 ((pLost (a.es.take i) (lf l) u).flatMap (lsC rank)))]) (fun i=>i<=a.es.length) (fun i=>a.es.length-i) 0 0 120 (fun _:Unit=>[(5,.sl 80 0 0 (pLost a.es (lf l) u).length 4)]) (fun _=>[(80,.cells 0 ((pLost a.es (lf l) u).flatMap (lsC rank)))]) (fun _=>True) ?_ (Zah _) ?_ ?_;·exact⟨[(80,.nil)],rfl,au0,au7,au8⟩
 ·rintro i hi;by_cases hlt:i<a.es.length
  ·obtain⟨e,he⟩:=Qam hlt;obtain⟨hfr,hto⟩:=hes e (Zac he);have hst:=QpL (left:=lf l) (unc:=u) he;have hol:=Qq1 (a.es.take i) (lf l) u;rw[Zar]at hol;generalize pLost (a.es.take i) (lf l) u=o at*;have hfl:e.1<l.length:=by omega
   have htl:e.2.2<l.length:=by omega
   by_cases h1:lf l e.1=true
   ·by_cases h2:lf l e.2.2=true
    ·have :bad (lf l) u e=false:=by simp[bad,h2]
     rw[pLs,if_neg (by simp[this])]at hst;refine Zc0 (Zc7 hlt (QaQ he) hfr hto (Qbd hfl) (Qbd htl) h1 h2) ?_;refine⟨i+1,by omega,by omega,?_⟩;rw[hst];exact⟨[(80,.blk 80 0)],rfl,au0,au7,au8⟩
    ·rw[Zam]at h2;by_cases h3:u.contains e.2.1=true
     ·have hb:bad (lf l) u e=true:=by simp only[bad,h1,h2,h3];rfl
      rw[pLs,if_pos hb]at hst;refine Zc0 (Zc7 hlt (QaQ he) hfr hto (Qbd hfl) (Qbd htl) h1 h2) ?_;have hc:=contains62 (nz u) e.2.1 (by simp;omega);rw[Qbg,Qd8,h3]at hc;refine cp hc ?_;by_cases h4:o.length=0
      ·have ho:o=[]:=ZbT h4;have hlast:o.getLast?=none:=by rw[ho];rfl
       rw[hlast,if_neg (by simp)]at hst;have h6:¬(0:Int)<(o.length:Int):=by omega
       have hll:=QqZ rank o;refine Zc0 (Zc1 h6 hll) ?_;refine⟨i+1,by omega,by omega,?_⟩;rw[hst,Zan,Zaf];exact⟨[(80,.blk 80 1)],rfl,au0,au7,au8⟩
      ·obtain⟨p,hp⟩:=Qam (l:=o) (i:=o.length-1) (by omega);have hlast:o.getLast?=some p:=by rw[List.getLast?_eq_getElem?];exact hp
       rw[hlast]at hst;have h5:(o.length:Int)-1=((o.length-1:Nat):Int):=by omega
       have h6:(0:Int)<(o.length:Int):=by omega
       have h7:((o.length-1:Nat):Int)<(o.length:Int):=by omega
       by_cases h8:p.1=e.1;·rw[if_pos (by simpa using h8)]at hst;simp(disch:=first|omega|exact PairsOK.mk rfl|(simp only[lenW]<;>omega))only[h5,h6,h7,Qq0 hp,h8,wW,wV,simprocAttr];refine⟨i+1,by omega,by omega,?_⟩;rw[hst];exact⟨[(80,.blk 80 0)],rfl,au0,au7,au8⟩
       ·rw[if_neg (by simpa using h8)]at hst;have hll:=QqZ rank o;simp(disch:=first|omega|exact PairsOK.mk rfl|(simp only[lenW]<;>omega))only[h5,h6,h7,Qq0 hp,h8,hll,wW,wV,simprocAttr];refine⟨i+1,by omega,by omega,?_⟩;rw[hst,Zan,Zaf];exact⟨[(80,.blk 80 1)],rfl,au0,au7,au8⟩
     ·rw[Zam]at h3;have:bad (lf l) u e=false:=by simp only[bad,h1,h2,h3];rfl
      rw[pLs,if_neg (by simp[this])]at hst;refine Zc0 (Zc7 hlt (QaQ he) hfr hto (Qbd hfl) (Qbd htl) h1 h2) ?_;have hc:=contains62 (nz u) e.2.1 (by simp;omega);rw[Qbg,Qd8,h3]at hc;refine cp hc ?_;refine ZcZ ?_;refine⟨i+1,by omega,by omega,?_⟩;rw[hst];exact⟨[(80,.blk 80 0)],rfl,au0,au7,au8⟩
   ·rw[Zam]at h1;have:bad (lf l) u e=false:=by simp[bad,h1]
    rw[pLs,if_neg (by simp[this])]at hst;refine Zc0 (Zc6 hlt (QaQ he) hfr hto (Qbd hfl) (Qbd htl) h1) ?_;refine⟨i+1,by omega,by omega,?_⟩;rw[hst];exact⟨[(80,.blk 80 0)],rfl,au0,au7,au8⟩
  ·have e:i=a.es.length:=by omega
   subst e;refine Zc0 hlt ?_;refine⟨(),?_⟩;exact⟨[(80,.blk 80 0)],rfl,au0,au7,au8⟩
 rintro _ _;refine ZcZ ?_;exact⟨.inr trivial,_,rfl,⟨[(80,.blk 80 0)],rfl,au0,au7,au8⟩⟩
def blkP(left:Nat->Bool)(d:List Int)(n:Nat):List Nat:=(List.range n).filter fun i=>left i&&decide (d.getD i 0<0)
theorem QuZ(rank)(l:List Nat):(l.flatMap (bkC rank)).length=l.length*4:=Qbf (f:=bkC rank) (k:=4) (fun _=>rfl) l
theorem QoQ(left)(rank)(d):blkF left rank d=(blkP left d d.length).map fun x=>⟨x,rank,3,-1⟩:=by unfold blkF blkP;generalize List.range d.length=r;induction r with|nil=>rfl|cons x r a=>
 rw[ZbJ,ZbX];by_cases h:(left x&&decide (d.getD x 0<0))=true;·rw[if_pos h,if_pos h,ZaK,<-a]
 rw[if_neg h,if_neg h,<-a]
theorem bk_rm(left)(rank)(d):(blkP left d d.length).flatMap (bkC rank)=(blkF left rank d).flatMap rmC:=by rw[QoQ,List.flatMap_map];rfl
theorem QsC(left)(d)(n):(blkP left d n).length<=n:=by unfold blkP;exact Zaw (ZaY _ _) (by simp)
theorem Qq2:blkP left d (i+1)=blkP left d i++if left i&&decide (d.getD i 0<0)then[i]else[]:=by
 unfold blkP;rw[ZaL,Zbj];congr 1;by_cases h:(left i&&decide (d.getD i 0<0))=true;·rw[if_pos h,ZbX,if_pos h];rfl
 rw[if_neg h,ZbX,if_neg h];rfl
theorem QkV(a:InN n es mk)(b:mk.Nodup):(pDist n es mk left).length=n:=(Qql a (n+1) 0 _ (Qjz a b) (by omega)).1
theorem blocked48(a)(u)(l)(rank)(k:InN a.n a.es a.ms)(h:a.ms.Nodup)(v:l.length=a.n)(x:a.n<=4096)(s:a.es.length<=1000000)(n:a.ms.length<=1000000):HSpec Tryz.prog 177 [pv a u l,.int .i64 rank] .e (.sl 81 0 0 (blkF (lf l) rank (pDist a.n a.es a.ms (lf l))).length 4) (hp [(81,.cells 0 ((blkF (lf l) rank (pDist a.n a.es a.ms (lf l))).flatMap rmC))]):=by
 have p:=QkV (left:=lf l) k h;have t:=dist53 a u l k h v x s n;generalize pDist a.n a.es a.ms (lf l)=d at*;rw[<-bk_rm,QoQ,Zav,p];refine ZcM 100 (Ok s177) rfl ?_;unfold s177;refine ZcZ ?_;refine ch (HSpec.of_O (b:=80) (by(try simp only[noRefs,Qak,Qao,Qaa,Qal,Qaf,Qan,Qap,QaA,Qai,noRef,Zae,Zad])<;>rfl) t (by repeat(first|exact Fresh.e|exact Fresh.le (by assumption) (by omega)|refine Fresh.set ?_ (by omega) (by omega))) rfl) ?_;refine ZcZ ?_;refine Qas 110 (fun i:Nat=>[(0,pv a u l),(1,.int .i64 rank),(5,.sl 81 0 0 (blkP (lf l) d i).length 4),(9,.sl 80 0 0 a.n 1),(10,.int .i64 a.n),(11,.int .i64 i)]) (fun i=>[(80,.cells 0 (ints d)),(81,.cells 0 ((blkP (lf l) d i).flatMap (bkC rank)))]) (fun i=>i<=a.n) (fun i=>a.n-i) 0 0 120 (fun _:Unit=>[(5,.sl 81 0 0 (blkP (lf l) d a.n).length 4)]) (fun _=>[(81,.cells 0 ((blkP (lf l) d a.n).flatMap (bkC rank)))]) (fun _=>True) ?_ (Zah _) ?_ ?_;·exact⟨[(80,.blk 80 0),(81,.nil)],rfl,au0,au7,au8⟩
 ·rintro i hi;by_cases c:i<a.n
  ·have b:=Qq2 (left:=lf l) (d:=d) (i:=i);have w:=QsC (lf l) d i;generalize blkP (lf l) d i=o at*;have f:i<l.length:=by omega
   have g:i<d.length:=by omega
   have q:=QuZ rank o;by_cases h1:lf l i=true
   ·by_cases m:d.getD i 0<0;·rw[if_pos (by rw[h1,decide_eq_true m];rfl)]at b;refine Zc0 (Zc5 c (Qbq g) (Qbd f) h1 m q) ?_;refine⟨i+1,by omega,by omega,?_⟩;rw[b,Zan,Zaf];exact⟨[(80,.blk 80 0),(81,.blk 81 1)],rfl,au0,au7,au8⟩
    rw[if_neg (by rw[h1,decide_eq_false m];decide),Zas]at b;refine Zc0 (Zc4 c (Qbq g) (Qbd f) h1 m) ?_;exact bFgLS
   rw[if_neg (by simp[h1]),Zas]at b;rw[Zam]at h1;refine Zc0 (Zc3 c (Qbq g) (Qbd f) h1) ?_;exact bFgLS
  have e:i=a.n:=by omega
  subst e;refine Zc0 c ?_;refine⟨(),?_⟩;exact⟨[(81,.blk 81 0)],rfl,au0,au7,au8⟩
 rintro _ _;refine ZcZ ?_;exact⟨.inr trivial,_,rfl,⟨[(81,.blk 81 0)],rfl,au0,au7,au8⟩⟩
theorem QgO(l:List Rm):(l.flatMap rmC).length=l.length*4:=Qbf (f:=rmC) (k:=4) (fun _=>rfl) l
theorem QtH(l:List Rm):flatVs (l.flatMap rmC)=true:=by induction l with|nil=>rfl|cons x l a=>rw[ZaD];simp only[rmC,ZaW,ZaP,flatVs,flatV,Zag];exact a
theorem QcK(l):flatVs (ints l)=true:=by induction l with|nil=>rfl|cons x l a=>simp only[ints,ZaK,flatVs,flatV,Zag];exact a
theorem FrzTo.all{b g len sz}(c:h.get b=some (.cells g cs))(a:cs.length=len*sz):FrzTo h (.sl b g 0 len sz) (.fsl cs len sz):=by refine FrzTo.sl c (by omega) ?_;rw[Za7,<-a,Zao];exact Zcr _
theorem frzP{l:LB}(d:h.get 70=some (.cells 0 (pblk a u)))(c:h.get 71=some (.map 0 (mapF .i64 (backF a.es) (keysR a.es))))(b:h.get 72=some (.cells 0 (bls l)))(f:l.length=a.n):FrzTo h (.ptr 70 0 0) (pv a u l):=by refine ZcH d ?_;rw[Za7];exact ZcL (Zcq _) (ZcL (Zcq _) (ZcL (Zcq _) (ZcL (Zcq _) (ZcL (Zcq _) (ZcL (FrzTo.mapF c fun x _=>Zcq _) (ZcL (FrzTo.all b (by rw[QjG,f,ZbE])) ZcK))))))
theorem next35(a)(u)(l)(rank)(all)(d:InN a.n a.es a.ms)(g:a.ms.Nodup)(i:l.length=a.n)(m:a.n<=4096)(b:a.es.length<=1000000)(h:a.ms.length<=1000000)(f:u.length<=1000000):HSpec Tryz.prog 119 [pv a u l,.int .i64 rank,.bool all] .e (.sl 82 0 0 (pNext a.n a.es a.ms (lf l) u rank all).length 4) (hp [(82,.cells 0 ((pNext a.n a.es a.ms (lf l) u rank all).flatMap rmC))]):=by
 have h1:=lost47 a u l rank (fun e he=>d.1 e he) i b f;have k:=blocked48 a u l rank d g i m b h;have hlen:(lostF rank (pLost a.es (lf l) u)).length=(pLost a.es (lf l) u).length:=by unfold lostF;rw[Zav]
 unfold pNext;refine ZcM 100 (Ok s119) rfl ?_;unfold s119;refine ZcZ ?_;refine ch (HSpec.of_O (b:=80) (by(try simp only[noRefs,Qak,Qao,Qaa,Qal,Qaf,Qan,Qap,Qai,noRef,Zae,Zad])<;>rfl) h1 (by repeat(first|exact Fresh.e|exact Fresh.le (by assumption) (by omega)|refine Fresh.set ?_ (by omega) (by omega))) rfl) ?_;rw[hlen];by_cases c:0<(pLost a.es (lf l) u).length;·rw[if_pos (by simp[c])];rw[hlen];generalize pLost a.es (lf l) u=o at*;refine Zc0 c ?_;exact⟨.inr trivial,_,rfl,⟨[(82,.blk 80 0)],rfl,au0,au7,au8⟩⟩
 cases all with|false=>rw[if_pos (by simp)];rw[hlen];generalize pLost a.es (lf l) u=o at*;refine Zc0 c ?_;exact⟨.inr trivial,_,rfl,⟨[(82,.blk 80 0)],rfl,au0,au7,au8⟩⟩|true=>rw[if_neg (by simp[c])];generalize pLost a.es (lf l) u=o at*;refine Zc0 c ?_;refine ch (HSpec.of_O (b:=81) (by(try simp only[noRefs,Qak,Qao,Qaa,Qal,Qaf,Qan,Qap,Qai,noRef,Zae,Zad])<;>rfl) k (by repeat(first|exact Fresh.e|exact Fresh.le (by assumption) (by omega)|refine Fresh.set ?_ (by omega) (by omega))) rfl) ?_;generalize blkF (lf l) rank (pDist a.n a.es a.ms (lf l))=q at*;refine ZcZ ?_;exact⟨.inr trivial,_,rfl,⟨[(82,.blk 81 0)],rfl,au0,au7,au8⟩⟩
theorem WfA.auOk(h:WfA a)(c:a.es.length<=1000000):AuOk (au a):=by
 have g:a.al.length<=32:=QaV 32 a.al (by rw[ZaM];exact h.al.imp fun h=>by omega) h.al5;have d:a.ms.length<=a.n:=QaV a.n a.ms h.nd h.msn;have f:=h.n5;refine{len:=?_,all:=?_,fr:=?_,to:=?_,ev:=?_,up:=?_,alS:=SetOk.nz (n:=32) (fun x b=>by have:=h.al5 x b;omega) h.al,msS:=SetOk.nz h.msn h.ms,mslen:=?_,n0:=?_,nm:=?_};·show(a.es.map eg).length<=_;simp;omega
 ·show(nz a.al).length<=_;simp;omega
 ·intro e he;obtain⟨x,b,rfl⟩:=Zap.1 he;have:=h.esn x b;show(0:Int)<=x.1/\(x.1:Int)<a.n;omega
 ·intro e he;obtain⟨x,b,rfl⟩:=Zap.1 he;have:=h.esn x b;show(0:Int)<=x.2.2/\(x.2.2:Int)<a.n;omega
 ·intro e he;obtain⟨x,b,rfl⟩:=Zap.1 he;exact Zap.2 ⟨x.2.1,h.ev x b,rfl⟩
 ·show(a.es.map eg).Pairwise _;rw[ZbG];refine h.es.imp fun h=>?_;show(_:Int)<_\/(_:Int)=_/\(_:Int)<_;simp only[eg];omega
 ·show(nz a.ms).length<=_;simp;omega
 ·show(0:Int)<=(a.n:Int);omega
 show(a.n:Int)<=4096;omega
structure QOk(a:Aut)(f u:List Nat):Prop where
 fS:f.Pairwise (·<·)fn:∀x∈f,x<a.n
 uS:u.Pairwise (·<·)un:∀x∈u,x<32
theorem QbT{l:List Nat}(h:l.Pairwise (·<·))(a:∀x∈l,x<n):l.length<=n:=QaV n l (by rw[ZaM];exact h.imp fun h=>by omega) a
theorem WfA.elK(h:WfA a)(g:∀x∈a.al,x<k):a.es.length<=a.n*k:=by
 have f:∀e∈a.es,e.2.1<k:=fun e he=>g _ (h.ev e he);have i:(a.es.map fun e=>e.1*k+e.2.1).Pairwise (·<·):=by
  rw[ZbG];refine h.es.imp_of_mem fun{x y}b l d=>?_;have h1:=f x b;rcases d with c|⟨c,m⟩;·have :=Za9 k (show x.1+1<=y.1 from c);rw[Zbi]at this;omega
  rw[c];omega
 have:=QbT i (n:=a.n*k) fun x b=>by obtain⟨e,he,rfl⟩:=Zap.1 b;have h1:=f e he;have:=Za9 k (show e.1+1<=a.n from(h.esn e he).1);rw[Zbi]at this;show e.1*k+e.2.1<_;omega
 rwa[Zav]at this
theorem WfA.el1(h:WfA a):a.es.length<=131072:=by have h1:=WfA.elK h h.al5;have b:=Za9 32 h.n5;omega
end Go.AM.SE
namespace Go.AM
variable{P:Program}
end Go.AM
namespace Go.AM
variable{P:Program}
theorem HSpec.empty{f sz}{d}{h h'}{v}(h1:HSpec P f (.nilsl::d) h v h')(g:HSpec P f (.nsl::d) h v h'):HSpec P f (.fsl [] 0 sz::d) h v h':=by
 obtain⟨hc,h1⟩:=h1;obtain⟨_,g⟩:=g;refine⟨hc,fun c w b H l=>?_⟩;simp only[VRels]at l;obtain⟨u,us,e,k,i⟩:=l;simp only[VRel]at k;rcases k with⟨⟨a,rfl⟩,_⟩|⟨m,off,cap,C,_,_,rfl,_⟩;·cases a with|none=>exact h1 c w b H (by rw[e];simp only[VRels];exact⟨_,_,rfl,by simp[VRel],i⟩)|some a=>exact g c w b H (by rw[e];simp only[VRels];exact⟨_,_,rfl,by simp[VRel],i⟩)
 exact g c w b H (by rw[e];simp only[VRels];exact⟨_,_,rfl,by simp[VRel],i⟩)
end Go.AM
namespace Go.AM
variable{v:AV}{h:Heap}{k:IntKind}{ks l:List Nat}{i m n:Nat}{f g:Nat->AV}{π:Nat->Option Src}{s:Nat->Src}{x:Src}
theorem Qi3:∀{A B:List (Nat×Src)},srcNew x A=true->srcNew x B=true->srcNew x (A++B)=true|[],B,_,h=>h|(j,t)::A,B,h1,a=>by simp only[srcNew,Zab]at h1;rw[ZaW];simp only[srcNew,Zab];exact⟨h1.1,Qi3 h1.2 a⟩
theorem QdP{f}(m:okPs 0 (psL s ks) (rowsL f ks)=true):∀{A:List (Nat×Src)}{L:HL},okPs 0 A L=true->(∀p∈A,p.1<300)->(∀p∈A,∀b g,p.2=.blk b g->∀k∈ks,∀a i,s k=.blk a i->b≠a)->okPs 0 (A++psL s ks) (L++rowsL f ks)=true
 |[],[],_,_,_=>m|[],_::_,h,_,_=>by simp[okPs]at h|_::_,[],h,_,_=>by simp[okPs]at h|(b,t)::A,(a,x)::L,h,n,l=>by
  simp only[okPs,Zab,Zbl]at h;obtain⟨⟨⟨⟨h1,y⟩,c⟩,w⟩,v⟩:=h;rw[ZaW,ZaW];simp only[okPs,Zab,Zbl];refine⟨⟨⟨⟨h1,y⟩,?_⟩,?_⟩,QdP m v (fun p hp=>n p (by simp[hp])) (fun p hp=>l p (by simp[hp]))⟩
  ·rcases c with c|⟨c,o⟩;·exact .inl c
   refine .inr ⟨c,Qi3 o ?_⟩;cases e:t with|nil=>exact QfR|blk k g=>exact QcB fun j u a i q=>l (b,t) (by simp) k g e j u a i q
  rw[Zb2,w,Zag,ZaJ];intro p hp;have o:=Qe4 hp;have z:=n (b,t) (by simp);have d:Nat.beq p.1 b=false:=by
   rw[ZaH];intro d;have:p.1=b:=by simpa using d
   omega
  simp[d]
theorem QcZ{k}(a:k∈ks):∀{A:List (Nat×Src)},(∀p∈A,p.1<300)->ow 0 (A++psL s ks) (300+k)=some (s k):=by
 have key:∀{A:List (Nat×Src)},(∀p∈A,p.1<300)->lkS (A++psL s ks) (300+k)=some (s k):=by intro A;induction A with|nil=>intro _;exact Qih a|cons p A b=>intro h;obtain⟨j,t⟩:=p;have:=h (j,t) (by simp);dsimp only at this;rw[ZaW];simp only[lkS];rw[if_neg (by omega)];exact b fun p hp=>h p (by simp[hp])
 grind[ow]
theorem Qdf:∀{ks:List Nat},(∀k∈ks,Rn m π h (f k) (g k))->RnL m π h (ks.map f) (ks.map g)|[],_=>trivial|j::ks,a=>⟨a j (by simp),Qdf fun k h=>a k (by simp[h])⟩
theorem RnO.agg{xs ys}(d:RnOL h xs ys):RnO h (.agg xs) (.agg ys):=fun _ c w v H a=>by simp only[VRel]at a⊢;obtain⟨b,rfl,a⟩:=a;exact⟨b,rfl,d.rels H a⟩
theorem RnO.nil{sz}:RnO h (.fsl [] 0 sz) .nilsl:=fun _ c w v H a=>by simp_all[VRel]
theorem Qi4(h:∀x∈l,f x=g x):mapF k f l=mapF k g l:=by simp_all[mapF]
theorem QkW(h:i<n):((List.range n).map f).set i v=(List.range n).map (updF f i v):=by
 apply Zbq;intro j;rw[List.getElem?_set];by_cases e:i=j;·subst e;rw[if_pos rfl,if_pos (by simpa using h)];simp[updF,h]
 grind[updF]
theorem QgP(h:i<n):((List.range n).map f)[i]?=some (f i):=by simp[h]
variable{P:Program}
theorem HSpec.freeze{f b g len sz}{args ds}{h1}(S:HSpec P f args h (.sl b g 0 len sz) h1)(N:h1.get b=some (.cells g ds))(hf:flatVs ds=true)(hl:len*sz<=ds.length)(X:Nat.blt b 1099511627775=true):HSpec P f args h (.fsl (ds.take (len*sz)) len sz) (h1.set b (.dead g)):=by
 have q:b<1099511627775:=by simp_all
 obtain⟨hc,hs⟩:=S;refine⟨hc,fun c w p H ha=>(hs c w p H ha).mono ?_⟩;rintro e K⟨cv,s,rfl,E,H',V⟩;have d:Live h1 b g:=⟨_,N,rfl,fun _=>by simp⟩;let z:Ctx (okc P):={s with F:=fun k=>s.F k\/∃base,s.ρ b g=some (.loc k base),O:=fun k=>s.O k/\¬∃base,s.ρ b g=some (.loc k base)};have i:∀k,(h1.set b (.dead g)).get k=if k=b then some (.dead g)else h1.get k:=fun k=>by
  by_cases e:k=b;·subst e;rw[QaF q,if_pos rfl]
  simp_all[QaI]
 have I:∀k y,Live (h1.set b (.dead g)) k y->k≠b/\Live h1 k y:=by
  rintro k y⟨x,a,Z,Q⟩;rw[i]at a;split at a;·grind
  rename_i e;exact⟨e,x,a,Z,Q⟩
 have E2:Evo c w z K:=⟨E.os,E.tape,E.output,E.size,E.shape,E.keep,E.rho,fun k a=>.inl (E.frz k a),fun k a=>by
  rcases a with a|⟨base,a⟩;·exact E.frzNew k a
  rcases E.own k (H'.owned d a)with h|h;·simp_all
  omega,fun k a=>E.own k a.1,E.base⟩;refine⟨cv,z,rfl,E2,⟨fun k a y=>?_,fun k x a y t=>?_,fun k x a=>?_,fun k y k' y' J base m l1 Y p1 p2=>H'.inj k y k' y' J base m (I _ _ l1).2 (I _ _ Y).2 p1 p2,fun k l L=>?_,fun k l=>?_,fun k L=>H'.inO k L.1⟩,?_⟩
 ·rw[i]at a;split at a;·cases a
  exact H'.fresh k a y
 ·rw[i]at a;split at a;·rename_i e;subst e;cases a;exact H'.later k _ N y t
  exact H'.later k x a y t
 ·rw[i]at a;split at a;·cases a;trivial
  rename_i e;refine Zci (c:=s) (c':=z) (w:=K) (w':=K) ⟨fun _ _ _ h=>h,fun _ h=>.inl h,fun _ _ _ h=>h,fun _ C _ U h=>⟨C,U,h,rfl⟩⟩ (fun J base Q hp=>?_) (H'.blk k x a);have F:Live h1 k x.gen:=⟨x,a,rfl,Q⟩;exact⟨⟨H'.owned F hp,fun⟨m,R⟩=>e (H'.inj _ _ _ _ _ _ _ F d hp R)⟩,rfl⟩
 ·rcases l with l|l;·exact H'.disj k l L.1
  grind
 ·rcases l with l|⟨base,l⟩;·exact H'.inF k l
  exact H'.inO k (H'.owned d l)
 simp only[VRel]at V;rcases V with⟨hp,rfl,_,rfl⟩|⟨J,base,o,cap,C,e,U,hp,rfl,hlc,hC,u⟩;·simp_all[VRel]
 obtain⟨C',e',fr',L,B,hfr,hbs,A⟩:=H'.here N hp;rw[hC]at B;cases B;have l:z.F J:=.inr ⟨base,hp⟩;by_cases h0:cap=0
 ·have T:len=0:=by omega
  subst T;simp only[VRel];simp_all
 obtain⟨rfl,hbd⟩:=u.resolve_left h0;have M:=VPre.flat (c':=z) (w':=K) hf A;have hp3:=VPre_take2 (len*sz) M;simp only[VRel];grind where VPre_take2{c:Ctx (okc P)}{w:World}:∀(n:Nat){xs:List AV}{G:List Value},VPre c w xs G->VPre c w (xs.take n) G|0,xs,G,h=>by simp[VPre]|n+1,[],G,h=>by simp[VPre]|n+1,x::xs,G,h=>by simp only[VPre]at h;obtain⟨v,O,rfl,h1,h2⟩:=h;simp only[Za6,VPre];exact⟨v,O,rfl,h1,VPre_take2 n h2⟩
end Go.AM
