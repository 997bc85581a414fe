/- On the way to GuardsSuffice. Conditions: none of ours. -/
import Derived.Test.YtikknocmfjfohaaGreatDoorProg
import Derived.KernelRfl
import Derived.Test.YtikknocmfjfohaaGreatDoorAmT15
theorem Go.AM.bPVJ1{p:Prop}(h:p:=by
 refine⟨[(51,.blk 51 0),(60,.blk 60 0)],rfl,au0,?_,au26⟩;exact ZcE rfl rfl gg (Zct hnm) (ZcE rfl rfl gg (Zct (Qaa _)) ZcD)):p:=h
theorem Go.AM.b0IYg{p:Prop}(h:p:=by
 rintro j⟨hj,o⟩;by_cases m:j<(evA l).length
 ·obtain⟨e,he⟩:=Qak m;have y:=Qew (i:=i) (ev:=(evA l).take j) hw w hp;have E:=QcP (l:=l) (i:=i) (t:=t) (ev:=(evA l).take j) (s:=s);have Y:=Qe0 (l:=l) (i:=i) (t:=t) (ev:=(evA l).take j) (s:=s);have X:=Qgk (l:=l) (ev:=evA l) (i:=i) (k:=j+1) (t:=t) (s:=s);have b:=QlZ (l:=l) (i:=i) (t:=t) (s:=s) he;rw[Zap]at Y;generalize pRow l ((evA l).take j) i t s=u at*;have I:i<u.1.length:=Zbb d E.length_le;have C:u.1[i]?=some t:=by rw[Qhq E d];exact O
  have hub:=Qdy y.nd y.inT;have F:(u.1.map ZN).length=u.1.length:=Zax ..;have v:(u.2.flatMap edC).length=u.2.length*3:=Qbg (k:=3) (fun _=>rfl) u.2;have p:=step100 l t e h h0 (by omega) w.1;cases A:stepT l t e with|none=>
   rw[A]at p;have g:pEv l i t u e=u:=by unfold pEv;rw[A]
   rw[g]at b;refine Zc5 (Zda m I (QaI he) (Qe1 C)) ?_;refine cp p ?_;simp(disch:=first|omega|exact PairsOK.mk rfl|(simp only[lenW]<;>omega))only[stV,Qac,Qad,Qae,wW,wV,simprocAttr];refine⟨j+1,by omega,⟨by omega,by rw[b];exact o⟩,?_⟩;rw[b];refine⟨[(51,.blk 51 0),(52,.blk 52 0),(53,.blk 53 0),(60,.blk 60 0),(70,.blk 70 0),(71,.blk 71 0)],rfl,au0,?_,au26⟩;exact ZcE rfl rfl gg (ZcK (Zcs (Qab _)) (ZcK (Zcs rfl) (ZcK (Rn.x1 rfl rfl) (ZcK (Rn.x1 rfl rfl) ZcJ)))) (ZcE rfl rfl gg (Zct c) (ZcG rfl rfl gg (ZcX fun _ _=>⟨rfl,rfl⟩) (ZcE rfl rfl gg (Zct (Qax Qab _)) (ZcE rfl rfl gg (Zct (Qaa _)) (ZcE rfl rfl gg (Zct (Qag _)) ZcD)))))|some n=>
   rw[A]at p;have H:=Qga hw w A;have K:=G n H;have k:=Qha h H y.inT;refine Zc5 (Zda m I (QaI he) (Qe1 C)) ?_;refine cp p ?_;simp(disch:=first|omega|exact PairsOK.mk rfl|(simp only[lenW]<;>omega))only[stV,Qac,Qad,Qae,wW,wV,simprocAttr];refine cp K ?_;refine Zc4 ?_;by_cases hm:n∈u.1
   ·have g:pEv l i t u e=(u.1,u.2++[(i,e,ixT u.1 n)]):=by unfold pEv;rw[A];simp only[if_pos hm]
    rw[g]at b;refine Qib (c:=keyC) (f:=ixV u.1) (x:=n) (l:=u.1) (g:=0) gg k hm ?_;simp(disch:=first|omega|exact PairsOK.mk rfl|(simp only[lenW]<;>omega))only[ixV,v,Qac,Qad,Qae,wW,wV,simprocAttr];refine⟨j+1,by omega,⟨by omega,by rw[b];exact o⟩,?_⟩;rw[b,Zag,Zao];refine⟨[(51,.blk 51 0),(52,.blk 52 0),(53,.blk 53 0),(60,.blk 60 0),(70,.blk 70 0),(71,.blk 71 1)],rfl,au0,?_,au26⟩;exact ZcE rfl rfl gg (ZcK (Zcs (Qab _)) (ZcK (Zcs rfl) (ZcK (Rn.x1 rfl rfl) (ZcK (Rn.x1 rfl rfl) ZcJ)))) (ZcE rfl rfl gg (Zct c) (ZcG rfl rfl gg (ZcX fun _ _=>⟨rfl,rfl⟩) (ZcE rfl rfl gg (Zct (Qax Qab _)) (ZcE rfl rfl gg (Zct (Qaa _)) (ZcE rfl rfl gg (Zct (SU.Qav (Qag _) rfl)) ZcD)))))
   have g:pEv l i t u e=(u.1++[n],u.2++[(i,e,u.1.length)]):=by unfold pEv;rw[A];simp only[if_neg hm];rw[show u.1.findIdx (·==n)=u.1.length from Qks hm]
   rw[g]at b;have T:=QpQ hm;by_cases h4:u.1.length=4096
   ·have f:((u.1.length:Nat):Int)=4096:=by omega
    have B:¬(Z0 l).1.length<=4096:=by have q1:=X.length_le;rw[b,Zag,ZbM]at q1;have q2:=(QjL (l:=l) (ev:=evA l) (k:=box l+1-(i+1)) (i:=i+1) (s:=pRow l (evA l) i t s)).length_le;rw[P]at q2;omega
    rw[J B];refine Qdx (c:=keyC) (f:=ixV u.1) (x:=n) (l:=u.1) (g:=0) gg k hm ?_;refine Zc5 f ?_;exact⟨.inr trivial,_,rfl,Zcs rfl⟩
   have f:¬((u.1.length:Nat):Int)=4096:=by omega
   refine Qdx (c:=keyC) (f:=ixV u.1) (x:=n) (l:=u.1) (g:=0) gg k hm ?_;refine Zc5 f ?_;refine cp K ?_;refine Zc4 ?_;refine Qcn (c:=keyC) (f:=ixV u.1) (x:=n) (l:=u.1) (g:=0) gg k hm (by omega) ?_;rw[T];refine Zc7 (Zdc F v @Qab @Qac @Qad @Qae) ?_;refine⟨j+1,by omega,⟨by omega,by rw[b,Zag,ZbM];omega⟩,?_⟩;rw[b,Zag,Zag,Zao,ZaJ];refine⟨[(51,.blk 51 0),(52,.blk 52 0),(53,.blk 53 0),(60,.blk 60 1),(70,.blk 70 0),(71,.blk 71 1)],rfl,au0,?_,au26⟩;exact ZcE rfl rfl gg (ZcK (Zcs (Qab _)) (ZcK (Zcs rfl) (ZcK (Rn.x1 rfl rfl) (ZcK (Rn.x1 rfl rfl) ZcJ)))) (ZcE rfl rfl gg (Zct c) (ZcG rfl rfl gg (ZcX fun _ _=>⟨rfl,rfl⟩) (ZcE rfl rfl gg (Zct (SU.Qav (Qax Qab _) (Qax Qab [n]))) (ZcE rfl rfl gg (Zct (Qaa _)) (ZcE rfl rfl gg (Zct (SU.Qav (Qag _) rfl)) ZcD)))))
 have e2:j=(evA l).length:=by omega
 subst e2;rw[Zan]at o;refine Zc1 m ?_;refine⟨(),o,?_⟩;refine⟨[(51,.blk 51 0),(52,.blk 52 0),(53,.blk 53 0),(60,.blk 60 0),(70,.blk 70 0),(71,.blk 71 0)],rfl,au0,?_,au26⟩;exact ZcE rfl rfl gg (ZcK (Zcs (Qab _)) (ZcK (Zcs rfl) (ZcK (Rn.x1 rfl rfl) (ZcK (Rn.x1 rfl rfl) ZcJ)))) (ZcE rfl rfl gg (Zct c) (ZcG rfl rfl gg (ZcX fun _ _=>⟨rfl,rfl⟩) (ZcE rfl rfl gg (Zct (Qax Qab _)) (ZcE rfl rfl gg (Zct (Qaa _)) (ZcE rfl rfl gg (Zct (Qag _)) ZcD)))))):p:=h
theorem Go.AM.bbFcJ{p:Prop}(h:p:=by
 rintro _ Z;refine Zc4 ?_;refine⟨(i+1,pRow l (evA l) i t s),by dsimp only;omega,⟨ZaC d L.length_le,hpo,by dsimp only;omega,Z,P⟩,?_⟩;dsimp only;rw[QlX L d];refine⟨[(51,.blk 51 0),(52,.blk 52 0),(53,.blk 53 0),(60,.blk 60 0),(70,.blk 70 0),(71,.blk 71 0)],rfl,au0,?_,au26⟩;exact ZcE rfl rfl gg (ZcK (Zcs (Qab _)) (ZcK (Zcs rfl) (ZcK (Rn.x1 rfl rfl) (ZcK (Rn.x1 rfl rfl) ZcJ)))) (ZcE rfl rfl gg (Zct c) (ZcG rfl rfl gg (ZcX fun _ _=>⟨rfl,rfl⟩) (ZcE rfl rfl gg (Zct (Qax Qab _)) (ZcE rfl rfl gg (Zct (Qaa _)) (ZcE rfl rfl gg (Zct (Qag _)) ZcD)))))):p:=h
theorem Go.AM.b1P8e{p:Prop}(h:p:=by
 obtain⟨x,g⟩:=Qak a;have b:=SU.QdV (ch:=ch) g;have c:5<=((l.flatMap (itC ch)).drop (i*5)).length:=by rw[b];simp
 have d:(auL (l.take i)).length=i:=by rw[Qbl,Zap];omega
 have f:((auL (l.take i)).flatMap auC).length=i*4:=by rw[Qg8,d]
 refine Zc7 (Zdf a b c f @Qab @Qaj @Qac @Qad @Qae) ?_;refine⟨i+1,by omega,by omega,?_⟩;rw[take_succ' g];show Rec _ _ [(60,.cells 0 ((List.map (fun x:Nat×Aut=>x.2) (l.take i++[x])).flatMap auC))] _ _;rw[ZaJ,Zao,QsB];refine⟨[(60,.blk 60 1)],rfl,au0,?_,au26⟩;exact ZcE rfl rfl gg (Zct (SU.Qav (QaS _) (QaS [x.2]))) ZcD):p:=h
theorem Go.AM.bQgSf{p:Prop}(h:p:=by
 rw[g]at h;refine Zc7 (Zdd a d f @Zbs @Qac @Qad @Qae) ?_;refine⟨_,by simpa using h,?_⟩;refine Zc4 ?_;refine⟨.inr trivial,_,rfl,?_⟩;rw[QfA b g m];rfl):p:=h
theorem Go.AM.bLYPF{p:Prop}(h:p:=by
 refine Zc5 a ?_;refine⟨.inr trivial,_,rfl,?_⟩;rw[Qef fun x b=>by obtain⟨j,k,p⟩:=ZaO b;exact m j x (by omega) (by rw[Zak k,p])];rfl):p:=h
theorem Go.AM.bOMkH{p:Prop}(h:p:=by
 refine Zc4 ?_;refine⟨.inr trivial,_,rfl,?_⟩;exact Rn.fn ZcJ (ZcK (Rn.frzp (b:=64) (g:=0) rfl (Zaj _) (fun c b _ e=>by simp[π0]at e) (by simp) (Zct a)) ZcJ)):p:=h
set_option linter.unusedSectionVars false
set_option maxHeartbeats 32000000
set_option maxRecDepth 100000
set_option linter.unusedVariables false
set_option linter.unusedSimpArgs false
namespace Go.AM.TQ
open Go.Proofs
set_option maxHeartbeats 4000000
noncomputable section
def cf:YA.Cf:={most:=.pure,always:=[236,261,218].map fun k=>(k,.heap),value:=.pure}
def s52:SFn:=by
 refine(?f:YA.Yt Tryz.prog cf 52 [[0],[19,20,18,21,22],[23],[1,4,5,24,25,26],[5,24,27,28,29,30,31],[32,33,34],[],[38,39,40,41],[8,43,44,45,42,46,47],[48,49,50,51,52,53,54],[55,56,57,58,59,60,61,62,63,64,65,66,67,68,69,70,71,72,73,74],[9,76,77,78,79,80,81,75,82,83,84,85,15],[14],[7,10,11,12,13,86,87,88,89,90,91,92,93,94,95],[10,11,12,13,86,96,97,98],[99,100],[101],[102,103,104,105,106,107],[7,16,17,108,109,110,111,112,113,114,115,116,117],[7,99,118],[1,4,6,35,36,37,119]] [(10,[(4,7),(5,7),(4,13),(5,13),(10,13),(11,13),(3,15),(5,15),(9,15),(11,15)])]) ?s ?h;case h=>exact YA.rr
 exact fun s _=>s
def s236:SFn:=by
 refine(?f:YA.Yt Tryz.prog cf 236 [[4],[6],[],[9,10],[11,12,13,14,15],[0,1,7,8,5,16,17],[4,5,16,18],[0,1,7,8]]) ?s ?h;case h=>exact YA.rr
 exact fun s _=>s
def s114:SFn:=by
 refine(?f:YA.Yt Tryz.prog cf 114 [[4,5],[0,7,8,9,10,11,12],[1,6,13,14,15,16,17,18,19]]) ?s ?h;case h=>exact YA.rr
 exact fun s _=>s
def s116:SFn:=by
 refine(?f:YA.Yt Tryz.prog cf 116 [[0,4,5,6,7],[10,11,12],[13],[1,2,8,14,15],[4,5,6,7,1,8,14,16,17,18,19],[26,27],[2,9,25],[25,29,30,31,32,33],[2,9,28,34],[2,9,28,20,21,22,23,24]]) ?s ?h;case h=>exact YA.rr
 exact fun s _=>s
def s117:SFn:=by
 refine(?f:YA.Yt Tryz.prog cf 117 [[0,1,2,6],[3,4,5,7]]) ?s ?h;case h=>exact YA.rr
 exact fun s _=>s
def s261:SFn:=by
 refine(?f:YA.Yt Tryz.prog cf 261 [[4],[0,1,5,6,7,8]]) ?s ?h;case h=>exact YA.rr
 exact fun s _=>s
def s170:SFn:=by
 refine(?f:YA.Yt Tryz.prog cf 170 [[0,4],[6,7],[8],[1,2,5,9,10],[1,2,5,9,11,12,13]]) ?s ?h;case h=>exact YA.rr
 exact fun s _=>s
def s171:SFn:=by
 refine(?f:YA.Yt Tryz.prog cf 171 [[1,4],[0,3,5,6,7]]) ?s ?h;case h=>exact YA.rr
 exact fun s _=>s
def s172:SFn:=by
 refine(?f:YA.Yt Tryz.prog cf 172 [[0,2],[],[8],[],[12,13,14],[5,15,16,17,18,19],[20],[1,9,10,11,21],[],[25,26,27],[7,28,29,30,31,32],[33],[3,22,23,24,34]]) ?s ?h;case h=>exact YA.rr
 exact fun s _=>s
def s174:SFn:=by
 refine(?f:YA.Yt Tryz.prog cf 174 [[0,4,5],[10,11,12],[13],[1,2,6,14,15],[4,5,6,14],[1,2,16,17],[],[21,22,23],[9,24,25,26,27,28],[29],[7,18,19,20,30]]) ?s ?h;case h=>exact YA.rr
 exact fun s _=>s
def s175:SFn:=by
 refine(?f:YA.Yt Tryz.prog cf 175 [[6],[0,12,13,14,15],[],[19,20,21,22],[23,24,25,26,27],[8,28,30,31,32,33,34,35,36,37,29,38,39,40,9,11],[10,41],[1,2,16,17,18,7,42,43],[6,7,42,44],[1,2,16,17,18]]) ?s ?h;case h=>exact YA.rr
 exact fun s _=>s
def s283:SFn:=by
 refine(?f:YA.Yt Tryz.prog cf 283 [[4],[6],[],[9,10],[11,12,13,14,15],[0,1,7,8,5,16,17],[4,5,16,18],[0,1,7,8]]) ?s ?h;case h=>exact YA.rr
 exact fun s _=>s
def s217:SFn:=by
 refine(?f:YA.Yt Tryz.prog cf 217 [[0,4],[7,8,9,10,11],[1,2,12],[4,1,12],[],[16,17,18,19],[5,6,20,21,22],[2,13,14,15,29,23,28,27,25,26,24,30],[4,30,31],[2,13,14,15,29,23,28,27,25,26,24]]) ?s ?h;case h=>exact YA.rr
 exact fun s _=>s
def s218:SFn:=by
 refine(?f:YA.Yt Tryz.prog cf 218 [[4],[6],[],[9,10],[11,12,13,14,15],[0,1,7,8,5,16,17],[4,5,16,18],[0,1,7,8]]) ?s ?h;case h=>exact YA.rr
 exact fun s _=>s
def s219:SFn:=by
 refine(?f:YA.Yt Tryz.prog cf 219 [[3],[0,1,4,5,6]]) ?s ?h;case h=>exact YA.rr
 exact fun s _=>s
def s220:SFn:=by
 refine(?f:YA.Yt Tryz.prog cf 220 [[0,2],[1,3]]) ?s ?h;case h=>exact YA.rr
 exact fun s _=>s
def s221:SFn:=by
 refine(?f:YA.Yt Tryz.prog cf 221 [[0,2],[1,3]]) ?s ?h;case h=>exact YA.rr
 exact fun s _=>s
def s222:SFn:=by
 refine(?f:YA.Yt Tryz.prog cf 222 [[0,4],[6,7],[8],[1,2,5,9,10],[4,1,2,5,9,11,12,13,14,15,16,17],[18],[18]]) ?s ?h;case h=>exact YA.rr
 exact fun s _=>s
def s224:SFn:=by
 refine(?f:YA.Yt Tryz.prog cf 224 [[0,6,7,8],[10,11,12],[13],[1,2,3,14,15],[8,6,7,14,16,17,18,19],[1,2,3,20],[6,7,8,1,2,3,20,21,22,23,24],[25],[9,26,27],[9,26]]) ?s ?h;case h=>exact YA.rr
 exact fun s _=>s
def s183:SFn:=by
 refine(?f:YA.Yt Tryz.prog cf 183 [[0,2,6],[1,3,9,10,11],[5,12,13,14],[15],[7,8,16],[7,8,16,17,18,19,20,21]]) ?s ?h;case h=>exact YA.rr
 exact fun s _=>s
def s260:SFn:=by
 refine(?f:YA.Yt Tryz.prog cf 260 [[0,3],[1,2,4,5,6,7,8]]) ?s ?h;case h=>exact YA.rr
 exact fun s _=>s
def s262:SFn:=by
 refine(?f:YA.Yt Tryz.prog cf 262 [[0,3],[1,2,4,5,6,7,8,9,10,11]]) ?s ?h;case h=>exact YA.rr
 exact fun s _=>s
def s263:SFn:=by
 refine(?f:YA.Yt Tryz.prog cf 263 [[3],[0,1,4,5,6,7,8,9]]) ?s ?h;case h=>exact YA.rr
 exact fun s _=>s
def s264:SFn:=by
 refine(?f:YA.Yt Tryz.prog cf 264 [[0,4],[],[2,8],[],[12,13,14],[7,15,16,17,18,19,20,21,22,23,24],[25],[1,5,9,10,11,26]]) ?s ?h;case h=>exact YA.rr
 exact fun s _=>s
def s237:SFn:=by
 refine(?f:YA.Yt Tryz.prog cf 237 [[0,3],[1,2,4,5,6,7]]) ?s ?h;case h=>exact YA.rr
 exact fun s _=>s
end
end Go.AM.TQ
namespace Go.AM.TP
open Go.Proofs
set_option maxHeartbeats 4000000
noncomputable section
def cf:YA.Cf:={most:=.pure,always:=[86].map fun k=>(k,.heap)}
def s45:SFn:=by
 refine(?f:YA.Yt Tryz.prog cf 45 [[0,3,4],[6,7],[8],[1,5,9,10,11],[1,5,9,12,13,14,15,16,17,18]]) ?s ?h;case h=>exact YA.rr
 exact fun s _=>s
def s100:SFn:=by
 refine(?f:YA.Yt Tryz.prog cf 100 [[3,4],[17,18],[19],[0,5,20,21,22],[3,4,0,5,20,23,24],[25,26,27],[29,30,28,31,32],[8,33],[6,7,34,35],[4,34,36,37],[7,38,39,40,41],[],[42,43,44],[45,48,49,50,51,52],[53,54,55,56,57,58,59],[53,60],[],[64,65,66],[68,69,70,71,72,73,74,67,75,76],[14,77],[78,80,81,82,83,79,84,85],[16,86],[15,87,88,89],[6,9,10,61,62,63,12,13,90,91],[4,90,92,93],[94,95,96,97],[13,98,99,100,101],[12,15,13,87,102,103,104,105,106,107,108,109,110],[111],[61,62,63,46,47],[6,9,10,112,113,114],[115,116]]) ?s ?h;case h=>exact YA.rr
 exact fun s _=>s
def s101:SFn:=by
 refine(?f:YA.Yt Tryz.prog cf 101 [[2],[],[0],[],[9,10,11],[5,12,13,14,15,16],[17],[3,6,7,8,18]]) ?s ?h;case h=>exact YA.rr
 exact fun s _=>s
def s159:SFn:=by
 refine(?f:YA.Yt Tryz.prog cf 159 [[2],[6,7],[0,8],[2,0,8],[],[12,13,14],[4,15,16],[17],[9,10,11,5,18,19],[2,5,18,20],[9,10,11]]) ?s ?h;case h=>exact YA.rr
 exact fun s _=>s
def s160:SFn:=by
 refine(?f:YA.Yt Tryz.prog cf 160 [[],[9,10,11,12],[0],[],[16,17,18],[19],[5,20],[],[24,25,26],[8,27,28,29,30,31,32,33,34],[35],[6,21,22,23,36,37,38,39,40,41],[42],[3,13,14,15,43]]) ?s ?h;case h=>exact YA.rr
 exact fun s _=>s
def s161:SFn:=by
 refine(?f:YA.Yt Tryz.prog cf 161 [[0,2,3],[6],[],[10,11,12],[5,13,14],[1,7,8,9,15],[2,3,15,16],[1,7,8,9,17,18,19,20]]) ?s ?h;case h=>exact YA.rr
 exact fun s _=>s
def s163:SFn:=by
 refine(?f:YA.Yt Tryz.prog cf 163 [[0,4],[2,7],[],[11,12,13,14],[6,5,15,16,17,18,19,20,21],[1,8,9,10,22],[4,22,23],[1,8,9,10]]) ?s ?h;case h=>exact YA.rr
 exact fun s _=>s
def s164:SFn:=by
 refine(?f:YA.Yt Tryz.prog cf 164 [[0,6,7],[13,14],[15],[],[19,20,21,22],[10,23,24,25,26],[27,29,30,31,32,33,34,35,36,37,38,39,40,28,41,42],[12,43],[1,2,3,8,16,17,18,9,11,44],[6,7,9,11,44,45,46,47,48],[49],[1,2,3,8,16,17,18,50]]) ?s ?h;case h=>exact YA.rr
 exact fun s _=>s
def s204:SFn:=by
 refine(?f:YA.Yt Tryz.prog cf 204 [[2],[],[0],[],[9,10,11],[5,12,13,14,15],[16],[3,6,7,8,17]]) ?s ?h;case h=>exact YA.rr
 exact fun s _=>s
def s206:SFn:=by
 refine(?f:YA.Yt Tryz.prog cf 206 [[4],[0,1,8,9,10,7,11,12,5],[6,13]]) ?s ?h;case h=>exact YA.rr
 exact fun s _=>s
end
end Go.AM.TP
namespace Go.AM
section
variable{m:Nat}{π:Nat->Option Src}{h:Heap}
theorem Rn.frzM{b g}{es}{ks vs}(l:h.get b=some (.map g es))(hm:m<=b)(n:∀i s,m<=i->π i≠some (.blk b s))(hk:RnL m π h ks (es.map (·.1)))(p:RnL m π h vs (es.map (·.2))):Rn m π h (.fmap ks vs) (.map b g):=fun _ c w v H M d=>by simp only[VRel]at d;obtain⟨q,hp,rfl⟩:=d;obtain⟨ms,clock,hO,t,f,o⟩:=H.atMap l hp;have a:=M.out H ⟨_,l,rfl,fun k=>by simp⟩ hp hm n;obtain⟨g1,g2,g3⟩:=Qj1 f;have u:=Qb1 f;simp only[VRel];exact⟨q,ms,clock,rfl,.inr ⟨hO,a⟩,t,by simp_all,g1,hk.rels H M g2,p.rels H M g3⟩
end
end Go.AM
namespace Go.AM
variable{P:Program}{α:Type}[DecidableEq α]
variable{v:AV}{ks:List LK}{l:List α}{x:α}{c f:α->AV}
def mapG(c:α->AV)(f:α->AV)(l:List α):List (AV×AV):=l.map fun x=>(c x,f x)
def updG(f:α->AV)(x:α)(v:AV):α->AV:=fun y=>if y=x then v else f y
def KeyG(row:Bool)(ks:List LK)(c:α->AV)(x:α)(l:List α):Prop:=keyOK row ks (c x)=true/\∀y∈l,keyEq row ks (c x) (c y)=some (decide (x=y))
theorem Qg7{row}:∀(l:List α)(i:Nat),KeyG row ks c x l->x∈l->aFind row ks (c x) (mapG c f l) i=some (some (i+l.findIdx (·==x),f x))
 |y::l,i,hk,d=>by
  show(match keyEq row ks (c x) (c y)with|some true=>_|some false=>_|none=>_)=_;rw[hk.2 y (by simp),List.findIdx_cons];by_cases e:x=y;·subst e;simp
  have a:(y==x)=false:=by grind
  rw[decide_eq_false e,a];show aFind row ks (c x) (mapG c f l) (i+1)=_;rw[Qg7 l (i+1) ⟨hk.1,fun y b=>hk.2 y (by simp[b])⟩ ((Zav.1 d).resolve_left e)];grind
theorem Qeo{row}:∀(l:List α)(i:Nat),KeyG row ks c x l->x∉l->aFind row ks (c x) (mapG c f l) i=some none|[],_,_,_=>rfl|y::l,i,hk,a=>by simp only[Zav,not_or]at a;show(match keyEq row ks (c x) (c y)with|some true=>_|some false=>_|none=>_)=_;rw[hk.2 y (by simp),decide_eq_false a.1];exact Qeo l (i+1) ⟨hk.1,fun y b=>hk.2 y (by simp[b])⟩ a.2
theorem QtY(a:x∉l):mapG c f l++[(c x,v)]=mapG c (updG f x v) (l++[x]):=by grind[mapG,updG,Zbf]
theorem QjK{g:α->AV}(h:∀x∈l,f x=g x):mapG c f l=mapG c g l:=Zbf fun x a=>by rw[h x a]
abbrev fmapG(c f:α->AV)(l:List α):AV:=.fmap (l.map c) (l.map f)
theorem QnP(l:List α):(l.map c).zip (l.map f)=mapG c f l:=by induction l with|nil=>rfl|cons x l a=>simp only[ZaL,List.zip_cons_cons,a];rfl
section
variable{N:NM}{d:Option Nat}{r:List SOper}{dead:List Nat}{fs:List Fr}{n:Nat}{T:Tmps}{h:Heap}{Q:QC}{row:Bool}{ks:List LK}{c f:α->AV}{x:α}{l:List α}{b g:Nat}{z v:AV}{ok:Bool}
theorem Qib(i:h.get b=some (.map g (mapG c f l)))(a:KeyG row ks c x l)(k:x∈l)(hk:wR P N r dead fs (n+1) (putD T d (if ok then .tup [f x,.bool true]else f x)) h Q):wM P N (aLookup row ks z ok (.map b g) (c x)) d r dead fs n T h Q:=by
 refine⟨_,h,?_,hk⟩;have m:Nat.beq g g=true:=by simp
 unfold aLookup;rw[if_pos a.1];simp_all[HM.entries,HM.run,Qg7]
theorem Qdx(i:h.get b=some (.map g (mapG c f l)))(a:KeyG row ks c x l)(k:x∉l)(hk:wR P N r dead fs (n+1) (putD T d (if ok then .tup [z,.bool false]else z)) h Q):wM P N (aLookup row ks z ok (.map b g) (c x)) d r dead fs n T h Q:=by
 refine⟨_,h,?_,hk⟩;have m:Nat.beq g g=true:=by simp
 unfold aLookup;rw[if_pos a.1];simp_all[HM.entries,HM.run,Qeo]
theorem QeZ(a:KeyG row ks c x l)(b:x∈l)(hk:wR P N r dead fs (n+1) (putD T d (if ok then .tup [f x,.bool true]else f x)) h Q):wM P N (aLookup row ks z ok (fmapG c f l) (c x)) d r dead fs n T h Q:=by refine⟨_,h,?_,hk⟩;unfold aLookup;rw[if_pos a.1];simp only[fmapG];rw[QnP,Qg7 l 0 a b];rfl
theorem Qgj(a:KeyG row ks c x l)(b:x∉l)(hk:wR P N r dead fs (n+1) (putD T d (if ok then .tup [z,.bool false]else z)) h Q):wM P N (aLookup row ks z ok (fmapG c f l) (c x)) d r dead fs n T h Q:=by refine⟨_,h,?_,hk⟩;unfold aLookup;rw[if_pos a.1];simp only[fmapG];rw[QnP,Qeo l 0 a b];rfl
theorem Qcn(m:h.get b=some (.map g (mapG c f l)))(i:KeyG row ks c x l)(k:x∉l)(o:b<1099511627775)(hk:wR P N r dead fs (n+1) (putD T d .any) (h.set b (.map g (mapG c (updG f x v) (l++[x])))) Q):wM P N (aMapUpd row ks (.map b g) (c x) v) d r dead fs n T h Q:=by
 refine⟨_,_,?_,hk⟩;have p:Nat.beq g g=true:=by simp
 have a:Nat.blt b lim=true:=by simp[Nat.blt];exact o
 unfold aMapUpd;rw[if_pos i.1];simp only[HM.entries,HM.run,m,p,cond_true,Qeo l 0 i k,a,QtY k]
end
theorem RnM.mapG{m:Nat}{π:Nat->Option Src}{h:Heap}{c f:α->AV}:∀{l:List α},(∀x∈l,noRef (c x)=true/\noRef (f x)=true)->RnM m π h (mapG c f l) (mapG c f l)|[],_=>trivial|x::l,hf=>⟨⟨Zcs (hf x (by simp)).1,Zcs (hf x (by simp)).2⟩,RnM.mapG (l:=l) fun y a=>hf y (by simp[a])⟩
abbrev kP(x:Nat×Nat):AV:=.agg [.int .i64 (x.1:Int),.int .i64 (x.2:Int)]
theorem QfC{x}{l}:KeyG true [.i,.i] kP x l:=by
 have key:∀y:Nat×Nat,keyEq true [.i,.i] (kP x) (kP y)=some (decide (x=y)):=by intro y;obtain⟨a,b⟩:=x;obtain⟨c,d⟩:=y;simp only[keyEq,ZE,eqCell,Zal];by_cases f:a=c<;>by_cases g:b=d<;>simp[f,g]<;>omega
 refine⟨?_,fun y _=>key y⟩;simp_all[keyOK]
end Go.AM
namespace Go.AM
theorem Rn.fzM{α}{m:Nat}{h}{n}{b g}{c f:α->AV}{l}(a:h.get b=some (.map g (mapG c f l)))(o:srcNew (.blk b g) n=true)(hm:Nat.ble m b=true)(hk:∀x∈l,noRef (c x)=true/\noRef (f x)=true):Rn m (ow m n) h (fmapG c f l) (.map b g):=by
 refine Rn.frzM a (by simpa using hm) (fun p q i e=>?_) ?_ ?_;·rw[ow_ge i]at e;exact Qkb o p _ e rfl
 ·have e:(mapG c f l).map (·.1)=l.map c:=by simp[mapG]
  rw[e];clear a e;induction l with|nil=>trivial|cons x l k=>exact⟨Zcs (hk x (by simp)).1,k fun y d=>hk y (by simp[d])⟩
 have e:(mapG c f l).map (·.2)=l.map f:=by simp[mapG]
 rw[e];clear a e;induction l with|nil=>trivial|cons x l k=>exact⟨Zcs (hk x (by simp)).2,k fun y d=>hk y (by simp[d])⟩
end Go.AM
theorem _root_.Go.AM.ZcX:type_of%@Go.AM.RnM.mapG:=@Go.AM.RnM.mapG
namespace Go.AM.SO
open Go.Proofs Go.AM.SD Go.AM.SE
variable{x:Aut}{T:List (List Nat)}{s:List (List Nat)×List Ed}{y:List AV}{l:List Aut}{es:List Ed}{n t:List Nat}{i k v:Nat}{α:Type}{f:α->AV}
def stp(l:List Aut)(t:List Nat)(e:Nat):Nat->Option (List Nat)|0=>some t|k+1=>match stp l t e k with|none=>none|some n=>match l[k]? with|none=>some n|some a=>if e∈a.al then(match ZA a.es (t.getD k 0) e with|some to=>some (n.set k to)|none=>none)else some n
def stepT(l:List Aut)(t:List Nat)(e:Nat):Option (List Nat):=stp l t e l.length
def Stp(l:List Aut)(t:List Nat)(e:Nat)(n:List Nat)(k:Nat):Prop:=n.length=t.length/\(∀i,k<=i->n[i]?=t[i]?)/\∀i a,i<k->l[i]?=some a->if e∈a.al then ZA a.es (t.getD i 0) e=n[i]? else n[i]?=t[i]?
theorem Qf8{l}{t n}{e}:∀{k:Nat},k<=l.length->l.length<=t.length->(stp l t e k=some n↔Stp l t e n k)
 |0,_,_=>by
  unfold stp Stp;constructor;·simp_all
  rintro⟨_,h,_⟩;have:t=n:=ZbG fun i=>(h i (Zaj _)).symm;rw[this]|k+1,hk,p=>by
  obtain⟨a,u⟩:=Qak (l:=l) (i:=k) (by omega);have v:k<t.length:=by omega
  unfold stp;rw[u];constructor;·intro h;cases hm:stp l t e k with|none=>rw[hm]at h;cases h|some m=>
   rw[hm]at h;dsimp only at h;obtain⟨h1,s,d⟩:=(Qf8 (n:=m) (by omega) p).1 hm;by_cases he:e∈a.al;·rw[if_pos he]at h;cases q:ZA a.es (t.getD k 0) e with|none=>rw[q]at h;cases h|some to=>
    rw[q]at h;cases h;refine⟨by simp_all,fun i hi=>by grind,fun i b hi c=>?_⟩;by_cases g:i=k;·simp_all
    rw[List.getElem?_set_ne (by omega)];exact d i b (by omega) c
   rw[if_neg he]at h;cases h;refine⟨h1,fun i hi=>s i (by omega),fun i b hi c=>?_⟩;by_cases g:i=k;·grind
   exact d i b (by omega) c
  rintro⟨h1,s,d⟩;have f:=d k a (Nat.lt_succ_self _) u;by_cases he:e∈a.al
  ·rw[if_pos he]at f;have o:Stp l t e (n.set k (t.getD k 0)) k:=by
    refine⟨by simp_all,fun i hi=>?_,fun i b hi c=>?_⟩;·grind
    rw[List.getElem?_set_ne (by omega)];exact d i b (by omega) c
   rw[(Qf8 (n:=n.set k (t.getD k 0)) (by omega) p).2 o];simp_all
  rw[if_neg he]at f;have o:Stp l t e n k:=⟨h1,fun i hi=>by grind,fun i b hi c=>d i b (by omega) c⟩;rw[(Qf8 (n:=n) (by omega) p).2 o];simp_all
theorem Qf9{e}(a:l.length<=t.length):stepT l t e=some n↔Stp l t e n l.length:=Qf8 (Zar _) a
def pEv(l:List Aut)(i:Nat)(t:List Nat)(s:List (List Nat)×List Ed)(e:Nat):List (List Nat)×List Ed:=match stepT l t e with|none=>s|some n=>(if n∈s.1 then s.1 else s.1++[n],s.2++[(i,e,s.1.findIdx (·==n))])
def pRow(l:List Aut)(ev:List Nat)(i:Nat)(t:List Nat)(s:List (List Nat)×List Ed):List (List Nat)×List Ed:=ev.foldl (pEv l i t) s
def pQ(l:List Aut)(ev:List Nat):Nat->Nat->List (List Nat)×List Ed->List (List Nat)×List Ed|0,_,s=>s|k+1,i,s=>match s.1[i]? with|some t=>pQ l ev k (i+1) (pRow l ev i t s)|none=>s
def orE(a b:Bool):Bool:=a||b
def evA(l:List Aut):List Nat:=l.foldl (fun out a=>mrg orE out a.al) []
def mkdT:List Aut->List Nat->Bool|[],_=>true|a::l,t=>a.ms.contains (t.headD 0)&&mkdT l t.tail
def box:List Aut->Nat|[]=>1|a::l=>a.n*box l
def Z0(l:List Aut):List (List Nat)×List Ed:=pQ l (evA l) (box l+1) 0 ([List.replicate l.length 0],[])
def syncA(l:List Aut):Aut:=⟨evA l,(Z0 l).1.length,(List.range (Z0 l).1.length).filter fun i=>mkdT l ((Z0 l).1.getD i []),(Z0 l).2⟩
def InT(l:List Aut)(t:List Nat):Prop:=t.length=l.length/\∀i a,l[i]?=some a->t.getD i 0<a.n
def allT:List Aut->List (List Nat)|[]=>[[]]|a::l=>(List.range a.n).flatMap fun x=>(allT l).map (x::·)
theorem QnQ:∀{l:List Aut}{t:List Nat},InT l t->t∈allT l|[],t,⟨h,_⟩=>by simp_all[allT]|a::l,[],⟨h,_⟩=>by simp at h|a::l,x::t,⟨h,c⟩=>by unfold allT;refine Zby.2 ⟨x,Zau.2 (by simpa using c 0 a rfl),Zaq.2 ⟨t,QnQ ⟨by simpa using h,fun i b d=>?_⟩,rfl⟩⟩;simpa using c (i+1) b (by simpa using d)
theorem QnR:∀(l:List Aut),(allT l).length=box l|[]=>rfl|a::l=>by unfold allT box;rw[List.length_flatMap];simp only[Zax,QnR l];simp_all[List.map_const']
theorem QlV{α:Type}[DecidableEq α]:∀{l m:List α},l.Nodup->(∀x∈l,x∈m)->l.length<=m.length|[],m,_,_=>Zaj _|x::l,m,h,hm=>by rw[Zcj]at h;have h1:=hm x (by simp);have b:=QlV (l:=l) (m:=m.erase x) h.2 fun y a=>(List.mem_erase_of_ne (fun(e:y=x)=>h.1 (e▸a))).2 (hm y (by simp[a]));grind
theorem Qdy(b:T.Nodup)(hi:∀t∈T,InT l t):T.length<=box l:=by rw[<-QnR];exact QlV b fun t a=>QnQ (hi t a)
theorem Qsx(h:∀a∈l,a.n<=k)(hk:1<=k):box l<=k^l.length:=by induction l with|nil=>simp[box]|cons a l d=>unfold box;rw[ZaD,Nat.pow_succ,Nat.mul_comm];exact Nat.mul_le_mul (d fun b c=>h b (by simp[c])) (h a (by simp))
theorem Qga(hw:∀a∈l,∀e∈a.es,e.1<a.n/\e.2.2<a.n){e}(c:InT l t)(h:stepT l t e=some n):InT l n:=by
 obtain⟨h1,k,g⟩:=(Qf9 (Nat.le_of_eq c.1.symm)).1 h;refine⟨by rw[h1,c.1],fun i a d=>?_⟩;have hi:i<l.length:=by grind
 have b:=g i a hi d;by_cases he:e∈a.al;·rw[if_pos he]at b;obtain⟨x,f⟩:=Qak (l:=n) (i:=i) (by rw[h1,c.1];exact hi);rw[f]at b;rw[Zah,f];exact QeS (hw a (Zaa d)) b
 rw[if_neg he]at b;rw[Zah,b,<-Zah];exact c.2 i a d
structure PI(l:List Aut)(s:List (List Nat)×List Ed):Prop where
 nd:s.1.Nodup
 inT:∀t∈s.1,InT l t
theorem QwQ(hw:∀a∈l,∀e∈a.es,e.1<a.n/\e.2.2<a.n){e}(c:InT l t)(h:PI l s):PI l (pEv l i t s e):=by unfold pEv;cases d:stepT l t e with|none=>exact h|some n=>
 have f:=Qga hw c d;dsimp only;by_cases hm:n∈s.1;·simp only[if_pos hm];exact⟨h.nd,h.inT⟩
 simp only[if_neg hm];refine⟨List.nodup_append.2 ⟨h.nd,by simp,fun x b y g=>by grind⟩,fun x b=>?_⟩;rcases ZaE.1 b with b|b;·exact h.inT x b
 simp_all
theorem Qew(hw:∀a∈l,∀e∈a.es,e.1<a.n/\e.2.2<a.n)(b:InT l t):∀{ev:List Nat}{s:List (List Nat)×List Ed},PI l s->PI l (pRow l ev i t s)|[],s,h=>h|e::ev,s,h=>Qew hw b (ev:=ev) (QwQ hw b h)
theorem Qvd{e}:s.1<+:(pEv l i t s e).1:=by grind[pEv]
theorem QcP{l}{i}{t}:∀{ev:List Nat}{s:List (List Nat)×List Ed},s.1<+:(pRow l ev i t s).1|[],s=>List.prefix_refl _|e::ev,s=>List.IsPrefix.trans Qvd (QcP (ev:=ev))
theorem pQ_ok{ev}(hw:∀a∈l,∀e∈a.es,e.1<a.n/\e.2.2<a.n):∀{k i:Nat}{s:List (List Nat)×List Ed},PI l s->PI l (pQ l ev k i s)|0,_,_,h=>h|k+1,i,s,h=>by unfold pQ;cases b:s.1[i]? with|none=>exact h|some t=>exact pQ_ok hw (Qew hw (h.inT t (Zaa b)) h)
theorem QjL{ev}:∀{k i:Nat}{s:List (List Nat)×List Ed},s.1<+:(pQ l ev k i s).1|0,_,_=>List.prefix_refl _|k+1,i,s=>by unfold pQ;cases a:s.1[i]? with|none=>exact List.prefix_refl _|some t=>exact List.IsPrefix.trans QcP QjL
theorem Qgb(d:∀a∈l,0<a.n):PI l ([List.replicate l.length 0],[]):=by refine⟨by simp,fun t b=>?_⟩;simp at b;subst b;refine⟨by simp,fun i a c=>?_⟩;grind
theorem QdY(b:∀a∈l,0<a.n)(hw:∀a∈l,∀e∈a.es,e.1<a.n/\e.2.2<a.n):PI l (Z0 l):=pQ_ok hw (Qgb b)
theorem QnS(b:∀a∈l,0<a.n)(hw:∀a∈l,∀e∈a.es,e.1<a.n/\e.2.2<a.n):(Z0 l).1.length<=box l:=Qdy (QdY b hw).nd (QdY b hw).inT
def auC(a:Aut):List AV:=[ZN a.al,.int .i64 (a.n:Int),ZN a.ms,egsN a.es]
abbrev auts(l:List Aut):AV:=.fsl (l.flatMap auC) l.length 4
theorem QaS(l:List Aut):noRefs (l.flatMap auC)=true:=Qa6 (fun x=>by simp only[auC,noRefs,noRef,Qaa,Qag];rfl) l
theorem Qbs(l):noRef (auts l)=true:=by simp only[noRef];exact QaS l
theorem Qg8(l:List Aut):(l.flatMap auC).length=l.length*4:=Qbg (k:=4) (fun _=>rfl) l
theorem Qex(h:l[i]?=some x):(l.flatMap auC).drop (i*4)=ZN x.al::.int .i64 (x.n:Int)::ZN x.ms::egsN x.es::(l.drop (i+1)).flatMap auC:=Qbi (f:=auC) (k:=4) (fun _=>rfl) h
theorem check95(l)(h:∀a∈l,WfJ a)(m:l.length<=12):Ps 159 [auts l] (.int .i64 0):=by
 refine Zcv 64 (Ok TP.s159) rfl (by rw[noRefs,Qbs];rfl) rfl ?_;have g1:¬(12:Int)<(l.length:Int):=by omega
 have c:=Qbs l;unfold TP.s159;refine Zc7 g1 ?_;refine Qas 100 (fun i:Nat=>[(9,auts l),(10,.int .i64 l.length),(11,.int .i64 i)]) (fun _=>[]) (fun i=>i<=l.length) (fun i=>l.length-i) 0 0 140 (fun _:Unit=>[]) (fun _=>[]) (fun _=>True) ?_ (Zaj _) ?_ ?_;·exact⟨[],rfl,ZcA,ZcD,ZcC (Zcs c) au21⟩
 ·rintro i hi;by_cases b:i<l.length
  ·obtain⟨x,k⟩:=Qak b;have d:=h x (Zaa k);have f:=Qex k;have g:4<=((l.flatMap auC).drop (i*4)).length:=by rw[f];simp
   have hc:=check112 x d.wf (by have:=WfA.el1 d.wf;omega);refine Zc7 (Zc9 b f g) ?_;refine cp hc ?_;refine Zc6 ?_;exact⟨i+1,by omega,by omega,[],rfl,ZcA,ZcD,ZcC (Zcs c) au21⟩
  refine Zc7 b ?_;exact⟨(),⟨[],rfl,au0,au22,au21⟩⟩
 rintro _ _;refine Zc6 ?_;exact⟨.inr trivial,_,rfl,rfl⟩
theorem QtZ(h:l[i]?=some x):evA (l.take (i+1))=mrg (fun a b=>a||b) (evA (l.take i)) x.al:=by unfold evA;rw[take_succ' h,Zba];rfl
theorem QfD(l):evA l=uUp (l.map fun a=>(0,a)):=by unfold evA uUp;rw[List.foldl_map];rfl
theorem QjM(h:∀a∈l,WfI a):(evA l).Pairwise (·<·):=by rw[QfD];refine Qf5 fun x c=>?_;obtain⟨a,b,rfl⟩:=Zaq.1 c;exact h a b
theorem Qve(h:∀a∈l,WfI a):(evA l).length<=5:=by rw[QfD];refine Qkr fun x c=>?_;obtain⟨a,b,rfl⟩:=Zaq.1 c;exact h a b
theorem QpN(h:∀a∈l,WfJ a):(evA l).Pairwise (·<·)/\∀e,e∈evA l↔∃a∈l,e∈a.al:=by
 have:=Qhl (l:=l.map fun a=>(0,a)) (out:=[]) (by simp) (fun x c=>by obtain⟨a,b,rfl⟩:=Zaq.1 c;exact(h a b).wf.al);rw[QfD];refine⟨this.1,fun e=>(this.2 e).trans ?_⟩;constructor
 ·rintro(h|⟨y,d,he⟩);·cases h
  obtain⟨a,b,rfl⟩:=Zaq.1 d;exact⟨a,b,he⟩
 rintro⟨a,b,c⟩;exact .inr ⟨_,Zaq.2 ⟨a,b,rfl⟩,c⟩
theorem QpO(h:∀a∈l,WfJ a):(evA l).length<=32:=by refine Qa1 32 _ (by rw[ZaN];exact(QpN h).1.imp fun h=>by omega) fun x c=>?_;obtain⟨a,b,he⟩:=((QpN h).2 x).1 c;exact(h a b).wf.al5 x he
theorem events187(l)(h:∀a∈l,WfJ a)(p:l.length<=12):Ps 204 [auts l] (ZN (evA l)):=by
 refine Zcu 64 (Ok TP.s204) rfl (by rw[noRefs,Qbs];rfl) (Qab _) ?_;have d:=Qbs l;unfold TP.s204;refine Zc6 ?_;refine Qas 100 (fun i:Nat=>[(3,ZN (evA (l.take i))),(6,auts l),(7,.int .i64 l.length),(8,.int .i64 i)]) (fun _=>[]) (fun i=>i<=l.length) (fun i=>l.length-i) 0 0 140 (fun _:Unit=>[(3,ZN (evA l))]) (fun _=>[]) (fun _=>True) ?_ (Zaj _) ?_ ?_;·exact⟨[],rfl,ZcA,ZcD,ZcC Rn.nilK (ZcC (Zcs d) au21)⟩
 ·rintro i hi;by_cases c:i<l.length
  ·obtain⟨x,g⟩:=Qak c;have k:=h x (Zaa g);have f:=Qex g;have m:4<=((l.flatMap auC).drop (i*4)).length:=by rw[f];simp
   have b:(evA (l.take i)).length<=1000000:=by have:=QpO (l:=l.take i) fun y o=>h y (ZaX o);omega
   have n:=union84 (evA (l.take i)) x.al b (by have:=Qg5 k.wf;omega);rw[<-QtZ g]at n;refine Zc7 (Zc9 c f m) ?_;refine cp n ?_;refine Zc6 ?_;exact⟨i+1,by omega,by omega,[],rfl,ZcA,ZcD,ZcC (Zcs (Qab _)) (ZcC (Zcs d) au21)⟩
  have e:i=l.length:=by omega
  subst e;refine Zc7 (Zc8 c @Zan) ?_;exact⟨(),⟨[],rfl,au0,au22,au21⟩⟩
 rintro _ _;refine Zc6 ?_;exact⟨.inr trivial,_,rfl,Zcs (Qab _)⟩
theorem has189(l)(t:Nat)(b:l.Pairwise (·<·))(a:l.length<=1000000):Ps 206 [ZN l,.int .i64 (t:Int)] (.bool (l.contains t)):=by refine Zcv 64 (Ok TP.s206) rfl (by(try simp only[noRefs,Qaa,noRef,noRefs,Zae,Zad])<;>rfl) rfl ?_;have h:=find57 l t (b.imp fun h=>Nat.le_of_lt h) a;unfold TP.s206;refine Zc6 ?_;refine cp h ?_;refine Zc6 ?_;exact⟨.inr trivial,_,rfl,rfl⟩
theorem _root_.Go.AM.Zc1{p q A:Prop}(a:A)(k:q)(h:A->p=q:=by intro a;conv=>lhs;simp(disch:=first|omega|exact PairsOK.mk rfl|(simp only[lenW]<;>omega))only[a,Zan,Qac,Qad,Qae,wW,wV,simprocAttr]):p:=h a▸k
theorem _root_.Go.AM.Zc4{p q:Prop}(k:q)(h:p=q:=by conv=>lhs;simp(disch:=first|omega|exact PairsOK.mk rfl|(simp only[lenW]<;>omega))only[Qac,Qad,Qae,wW,wV,simprocAttr]):p:=h▸k
theorem _root_.Go.AM.Zc5{p q A:Prop}(a:A)(k:q)(h:A->p=q:=by intro a;conv=>lhs;simp(disch:=first|omega|exact PairsOK.mk rfl|(simp only[lenW]<;>omega))only[a,Qac,Qad,Qae,wW,wV,simprocAttr]):p:=h a▸k
theorem Qax(h:∀x,noRef (f x)=true)(l:List α):noRefs (l.map f)=true:=by induction l with|nil=>rfl|cons x l a=>simp only[ZaL,noRefs,h,a];rfl
def pE(e:Ed):Nat×Nat:=(e.1,e.2.1)
def vE(es:List Ed)(p:Nat×Nat):AV:=.int .i64 (((ZA es p.1 p.2).getD 0:Nat):Int)
abbrev emV(a:Aut):AV:=fmapG kP (vE a.es) (a.es.map pE)
theorem Qbv(a):noRef (emV a)=true:=by rw[emV,fmapG,noRef,Qax (fun _=>rfl),Qax (fun _=>rfl)];rfl
theorem Qac{x}:(AV.fmap x y).cells=[.fmap x y]:=rfl
theorem Qad{x}:(AV.fmap x y).one=true:=rfl
theorem Qae{x}:(AV.fmap x y).boxable=true:=rfl
abbrev macV(l:List Aut):AV:=.agg [auts l,ZN (evA l),.fsl (l.map emV) l.length 1]
theorem Qdi(l):noRef (macV l)=true:=by rw[macV,noRef,noRefs,noRefs,noRefs,Qbs,Qab,noRef,Qax Qbv];rfl
theorem Qgc{e}{s}:ZA (e::es) s v=if e.1=s/\e.2.1=v then some e.2.2 else ZA es s v:=by unfold ZA;rw[List.find?_cons];by_cases h1:e.1=s<;>by_cases a:e.2.1=v<;>simp[h1,a,beq_eq_false_iff_ne.2]
theorem Qc8:∀{es:List Ed},es.Pairwise (fun x y=>x.1<y.1\/(x.1=y.1/\x.2.1<y.2.1))->∀{e:Ed},e∈es->ZA es e.1 e.2.1=some e.2.2
 |x::es,h,e,he=>by
  rw[ZaB]at h;rw[Qgc];rcases Zav.1 he with rfl|he;·rw[if_pos ⟨rfl,rfl⟩]
  have :=h.1 e he;rw[if_neg (by omega)];exact Qc8 h.2 he
theorem QjN:∀{es:List Ed}{s v:Nat},(s,v)∉es.map pE->ZA es s v=none|[],s,v,_=>rfl|x::es,s,v,h=>by rw[ZaL,Zav,not_or]at h;rw[Qgc,if_neg fun a=>h.1 (by unfold pE;rw[a.1,a.2])];exact QjN h.2
theorem QcN{s t}(h:ZA es s v=some t):(s,v)∈es.map pE:=by refine Decidable.byContradiction fun a=>?_;rw[QjN a]at h;cases h
theorem QnT(h:es.Pairwise (fun x y=>x.1<y.1\/(x.1=y.1/\x.2.1<y.2.1))){j:Nat}{e:Ed}(he:es[j]?=some e):(e.1,e.2.1)∉(es.take j).map pE:=by
 intro hm;obtain⟨y,d,b⟩:=Zaq.1 hm;obtain⟨k,hk⟩:=List.mem_iff_getElem?.1 d;have a:k<j:=by
  rcases ZbE k j with h|h;·exact h
  rw[ZaG (by rw[Zap];omega)]at hk;cases hk
 rw[List.getElem?_take_of_lt a]at hk;obtain⟨c,g⟩:=Zaf.1 hk;obtain⟨i,f⟩:=Zaf.1 he;have:=Za0.1 h k j c i a;rw[g,f]at this;unfold pE at b;simp only[Zal]at b;omega
theorem Qsy(h:es.Pairwise (fun x y=>x.1<y.1\/(x.1=y.1/\x.2.1<y.2.1))){e:Ed}(he:e∈es):updG (vE es) (e.1,e.2.1) (.int .i64 (e.2.2:Int))=vE es:=by
 funext p;unfold updG;split;·rename_i hp;subst hp;unfold vE;rw[Qc8 h he];rfl
 rfl
theorem _root_.Go.AM.au26{p:Prop}(h:p:=by repeat(first|exact ZcB|(refine ZcC ?_ ?_;·(first|exact Zcr|exact Rn.x1 rfl rfl|exact Rn.x2 rfl rfl|exact Rn.x3 rfl rfl|exact Rn.x4 rfl rfl|exact Rn.x5 rfl|exact Rn.x6 rfl|exact Rn.x7 rfl|(refine ZcN ?_ ?_;(first|rfl|(rw[ZaF];rfl));(first|rfl|(simp only[noRef,noRefs,SD.Qaa,SD.Qab,SD.Qaf,SD.Qag,SD.Qah,SD.Qai,SD.Qaj,SD.Qam,SD.Qan,SD.Qar,SE.QaQ,SE.Qal,SE.Qao,SE.Qap,SE.Qaq,SE.Qay,SO.QaD,SO.QaG,SO.QaP,SO.QaS,SO.QaT,SO.Qaz,SO.Qbf,SO.Qbv,SO.Qdu,SU.Qa2,SU.Qa3,SU.QaX,SU.QbA,SU.Qbc,Zad,Zae,Zai];done)))|(refine Rn.fn ?_ ?_<;>(repeat'(first|exact ZcJ|refine ZcK ?_ ?_|exact Zcs rfl|exact Rn.x6 rfl|exact Rn.x2 rfl rfl|exact Rn.x5 rfl|exact Rn.x1 rfl rfl))))))):p:=h
theorem open96(l)(h:∀a∈l,WfJ a)(w:l.length<=12):Ps 160 [auts l] (macV l):=by
 refine Zcu 64 (Ok TP.s160) rfl (by rw[noRefs,Qbs];rfl) (Qdi l) ?_;have p:=events187 l h w;have b:=Qbs l;have hlen:(l.map emV).length=l.length:=Zax ..;unfold TP.s160;refine Zc4 ?_;refine cp p ?_;refine Zc4 ?_;refine Qas 120 (fun i:Nat=>[(2,.ptr 51 0 0),(3,.ptr 52 0 0),(13,auts l),(14,.int .i64 l.length),(15,.int .i64 i)]) (fun i=>[(51,.cells 0 [.nilsl,.nilsl,.nilsl]),(52,.cells 0 [auts l,ZN (evA l),.sl 76 0 0 i 1]),(76,.cells 0 ((l.take i).map emV))]) (fun i=>i<=l.length) (fun i=>l.length-i) 0 0 300 (fun _:Unit=>[(2,.ptr 51 0 0),(3,.ptr 52 0 0)]) (fun _=>[(51,.cells 0 [.nilsl,.nilsl,.nilsl]),(52,.cells 0 [auts l,ZN (evA l),.fsl (l.map emV) l.length 1])]) (fun _=>True) ⟨[(51,.blk 64 0),(52,.blk 69 0),(76,.nil)],rfl,au0,?_,au26⟩ (Zaj _) ?_ ?_;·exact ZcE rfl rfl gg (Zct rfl) (ZcE rfl rfl gg (ZcK (Zcs b) (ZcK (Zcs (Qab _)) (ZcK (Rn.x4 rfl rfl) ZcJ))) (ZcF rfl rfl ZcD))
 ·rintro i hi;by_cases f:i<l.length
  ·obtain⟨x,u⟩:=Qak f;have c:=h x (Zaa u);have k:=Qex u;have q:4<=((l.flatMap auC).drop (i*4)).length:=by rw[k];simp
   have m:=take_succ' u;have t:(l.take i).length=i:=by rw[Zap];omega
   have s:((l.take i).map emV).length=i:=by rw[Zax,t]
   have z:=WfA.el1 c.wf;refine Zc5 (Zc9 f k q) ?_;refine Qas 220 (fun j:Nat=>[(2,.ptr 51 0 0),(3,.ptr 52 0 0),(13,auts l),(14,.int .i64 l.length),(15,.int .i64 i),(6,.map 77 0),(21,egsN x.es),(22,.int .i64 x.es.length),(23,.int .i64 j)]) (fun j=>[(51,.cells 0 [.nilsl,.nilsl,.nilsl]),(52,.cells 0 [auts l,ZN (evA l),.sl 76 0 0 i 1]),(76,.cells 0 ((l.take i).map emV)),(77,.map 0 (mapG kP (vE x.es) ((x.es.take j).map pE)))]) (fun j=>j<=x.es.length) (fun j=>x.es.length-j) 0 2 280 (fun _:Unit=>[(2,.ptr 51 0 0),(3,.ptr 52 0 0),(13,auts l),(14,.int .i64 l.length),(15,.int .i64 i),(6,emV x)]) (fun _=>[(51,.cells 0 [.nilsl,.nilsl,.nilsl]),(52,.cells 0 [auts l,ZN (evA l),.sl 76 0 0 i 1]),(76,.cells 0 ((l.take i).map emV))]) (fun _=>True) ⟨[(51,.blk 51 0),(52,.blk 52 0),(76,.blk 76 0),(77,.blk 125 0)],rfl,au0,?_,au26⟩ (Zaj _) ?_ ?_;·exact ZcE rfl rfl gg (Zct rfl) (ZcE rfl rfl gg (ZcK (Zcs b) (ZcK (Zcs (Qab _)) (ZcK (Rn.x1 rfl rfl) ZcJ))) (ZcE rfl rfl gg (Zct (Qax Qbv _)) (ZcG rfl rfl gg (ZcX fun _ _=>⟨rfl,rfl⟩) ZcD)))
   ·rintro j A;by_cases d:j<x.es.length
    ·obtain⟨e,he⟩:=Qak d;have g:=QaR he;have n:3<=((x.es.flatMap edC).drop (j*3)).length:=by rw[g];simp
     have o:=QnT c.wf.es he;have v:=Qsy c.wf.es (Zaa he);refine Zc5 (Zc9 d g n) ?_;refine Qcn (c:=kP) (f:=vE x.es) (x:=(e.1,e.2.1)) (l:=(x.es.take j).map pE) (g:=0) gg QfC o (by omega) ?_;rw[v];refine Zc4 ?_;refine⟨j+1,by omega,by omega,?_⟩;rw[take_succ' he,ZaJ];refine⟨[(51,.blk 51 0),(52,.blk 52 0),(76,.blk 76 0),(77,.blk 77 0)],rfl,au0,?_,au26⟩;exact ZcE rfl rfl gg (Zct rfl) (ZcE rfl rfl gg (ZcK (Zcs b) (ZcK (Zcs (Qab _)) (ZcK (Rn.x1 rfl rfl) ZcJ))) (ZcE rfl rfl gg (Zct (Qax Qbv _)) (ZcG rfl rfl gg (ZcX fun _ _=>⟨rfl,rfl⟩) ZcD)))
    have e:j=x.es.length:=by omega
    subst e;refine Zc1 d ?_;refine⟨(),[(51,.blk 51 0),(52,.blk 52 0),(76,.blk 76 0)],rfl,ZcA,?_,?_⟩;·exact ZcE rfl rfl gg (Zct rfl) (ZcE rfl rfl gg (ZcK (Zcs b) (ZcK (Zcs (Qab _)) (ZcK (Rn.x1 rfl rfl) ZcJ))) (ZcE rfl rfl gg (Zct (Qax Qbv _)) ZcD))
    exact ZcC (Rn.x2 rfl rfl) (ZcC (Rn.x2 rfl rfl) (ZcC (Zcs b) (ZcC (Zcs rfl) (ZcC (Zcs rfl) (ZcC (Rn.fzM (b:=77) (g:=0) gg rfl rfl fun _ _=>⟨rfl,rfl⟩) ZcB)))))
   rintro _ _;have y:=Qbv x;refine Zc5 s ?_;refine⟨i+1,by omega,by omega,?_⟩;rw[m,ZaJ];refine⟨[(51,.blk 51 0),(52,.blk 52 0),(76,.blk 76 1)],rfl,au0,?_,au26⟩;exact ZcE rfl rfl gg (Zct rfl) (ZcE rfl rfl gg (ZcK (Zcs b) (ZcK (Zcs (Qab _)) (ZcK (Rn.x1 rfl rfl) ZcJ))) (ZcE rfl rfl gg (Zct (SU.Qav (Qax Qbv _) (Qax Qbv [x]))) ZcD))
  have e:i=l.length:=by omega
  subst e;refine Zc1 f ?_;refine⟨(),?_⟩;refine⟨[(51,.blk 51 0),(52,.blk 52 0)],rfl,au0,?_,au26⟩;exact ZcE rfl rfl gg (Zct rfl) (ZcE rfl rfl gg (ZcK (Zcs b) (ZcK (Zcs (Qab _)) (ZcK (ZcL rfl rfl rfl rfl (by simp) (Zct (Qax Qbv _))) ZcJ))) ZcD)
 rintro _ _;refine Zc4 ?_;refine⟨.inr trivial,_,rfl,?_⟩;exact Zcs (Qdi l)
theorem Qep(l):noRefs [auts l,ZN (evA l),.fsl (l.map emV) l.length 1]=true:=by have:=Qdi l;rwa[macV,noRef]at this
theorem Qsz(n)(x):(List.replicate n [AV.int .i64 x]).flatten=ZI (List.replicate n x):=by induction n with|zero=>rfl|succ n a=>rw[Za7,Zbw,a];rfl
theorem QwR(n):nz (List.replicate n 0)=List.replicate n 0:=by simp[nz]
theorem initial97(l)(h:∀a∈l,WfJ a)(p:0<l.length)(q:l.length<=12):Ps 161 [macV l] (.tup [ZN (List.replicate l.length 0),.bool true]):=by
 refine Zcu 64 (Ok TP.s161) rfl (by rw[noRefs,Qdi];rfl) (by rw[noRef,noRefs,Qab];rfl) ?_;have o:=Qbs l;have b:=Qep l;have k:(l.length:Int)<=140737488355328:=by omega
 have g:(8:Int)*l.length<=140737488355328:=by omega
 unfold TP.s161;refine Zc4 ?_;refine Qas 100 (fun i:Nat=>[(1,.ptr 51 0 0),(7,auts l),(8,.int .i64 l.length),(9,.int .i64 i)]) (fun _=>[(51,.cells 0 [auts l,ZN (evA l),.fsl (l.map emV) l.length 1])]) (fun i=>i<=l.length) (fun i=>l.length-i) 0 0 140 (fun _:Unit=>[(1,.ptr 51 0 0)]) (fun _=>[(51,.cells 0 [auts l,ZN (evA l),.fsl (l.map emV) l.length 1])]) (fun _=>True) ⟨[(51,.blk 64 0)],rfl,au0,?_,au26⟩ (Zaj _) ?_ ?_;·exact ZcE rfl rfl gg (Zct b) ZcD
 ·rintro i hi;by_cases c:i<l.length
  ·obtain⟨x,n⟩:=Qak c;have m:=h x (Zaa n);have d:=Qex n;have f:4<=((l.flatMap auC).drop (i*4)).length:=by rw[d];simp
   have hp:¬(x.n:Int)=0:=by have:=m.pos;omega
   simp(disch:=first|omega|exact PairsOK.mk rfl|(simp only[lenW]<;>omega))only[c,d,f,hp,Qac,Qad,Qae,wW,wV,simprocAttr];refine⟨i+1,by omega,by omega,?_⟩;refine⟨[(51,.blk 51 0)],rfl,au0,?_,au26⟩;exact ZcE rfl rfl gg (Zct b) ZcD
  refine Zc5 c ?_;refine⟨(),?_⟩;refine⟨[(51,.blk 51 0)],rfl,au0,?_,au26⟩;exact ZcE rfl rfl gg (Zct b) ZcD
 rintro _ _;refine Zc7 (Zdc k g @Qsz @Qac @Qad @Qae) ?_;refine⟨.inr trivial,_,rfl,?_⟩;refine Rn.tup (ZcK ?_ (Zct rfl));have e:ZN (List.replicate l.length 0)=.fsl (ZI (List.replicate l.length 0)) l.length 1:=by rw[ZN,QwR,Zbv]
 rw[e];exact ZcM (b:=143) rfl (by simp[ZI]) (Zct (Qaa _))
theorem _root_.Go.AM.au27{p:Prop}(h:p:=by repeat'(first|exact ZcD|(refine Zct ?_;first|rfl|(simp only[noRef,noRefs,SD.Qaa,SD.Qab,SD.Qaf,SD.Qag,SD.Qah,SD.Qai,SD.Qaj,SD.Qam,SD.Qan,SD.Qar,SE.QaQ,SE.Qal,SE.Qao,SE.Qap,SE.Qaq,SE.Qay,SO.QaD,SO.QaG,SO.QaP,SO.QaS,SO.QaT,SO.Qaz,SO.Qbf,SO.Qbv,SO.Qdu,SU.Qa2,SU.Qa3,SU.QaX,SU.QbA,SU.Qbc,Zad,Zae,Zai];done))|exact ZcR rfl|exact ZcJ|exact(True.intro:RnM _ _ _ [] [])|refine ZcK ?_ ?_|(refine Zcs ?_;first|rfl|(simp only[noRef,noRefs,SD.Qaa,SD.Qab,SD.Qaf,SD.Qag,SD.Qah,SD.Qai,SD.Qaj,SD.Qam,SD.Qan,SD.Qar,SE.QaQ,SE.Qal,SE.Qao,SE.Qap,SE.Qaq,SE.Qay,SO.QaD,SO.QaG,SO.QaP,SO.QaS,SO.QaT,SO.Qaz,SO.Qbf,SO.Qbv,SO.Qdu,SU.Qa2,SU.Qa3,SU.QaX,SU.QbA,SU.Qbc,Zad,Zae,Zai];done))|exact Rn.x1 rfl rfl|exact Rn.x2 rfl rfl|exact Rn.x3 rfl rfl|exact Rn.x4 rfl rfl|exact Rn.x5 rfl|exact Rn.x6 rfl|exact Rn.x7 rfl|refine ZcF rfl rfl ?_|refine ZcE rfl rfl rfl ?_ ?_|refine ZcG rfl rfl rfl ?_ ?_|refine ZcH rfl rfl ?_ ?_|refine ZcI rfl rfl ?_ ?_)):p:=h
theorem marked99(l)(t)(h:∀a∈l,WfJ a)(z:l.length<=12)(w:t.length=l.length):Ps 163 [macV l,ZN t] (.bool (mkdT l t)):=by
 refine Zcu 64 (Ok TP.s163) rfl (by rw[noRefs,Qdi,noRefs,Qab];rfl) rfl ?_;have v:=Qbs l;have s:=Qep l;unfold TP.s163;refine Zc4 ?_;refine Qas 100 (fun i:Nat=>[(1,ZN t),(8,auts l),(9,.int .i64 l.length),(10,.int .i64 i)]) (fun _=>[]) (fun i=>i<=l.length/\mkdT l t=mkdT (l.drop i) (t.drop i)) (fun i=>l.length-i) 0 0 140 (fun _:Unit=>[]) (fun _=>[]) (fun _=>mkdT l t=true) ⟨[],rfl,au0,au27,au26⟩ ⟨Zaj _,rfl⟩ ?_ ?_
 ·rintro i⟨hi,hm⟩;by_cases b:i<l.length
  ·obtain⟨x,n⟩:=Qak b;obtain⟨y,o⟩:=Qak (l:=t) (i:=i) (by omega);have d:=h x (Zaa n);have g:=Qex n;have k:4<=((l.flatMap auC).drop (i*4)).length:=by rw[g];simp
   have f:i<t.length:=by omega
   have c:mkdT (l.drop i) (t.drop i)=(x.ms.contains y&&mkdT (l.drop (i+1)) (t.drop (i+1))):=by obtain⟨h1,q⟩:=Zaf.1 n;obtain⟨u,p⟩:=Zaf.1 o;rw[Zbm h1,Zbm u,q,p];rfl
   have hc:=has189 x.ms y d.wf.ms (by have:=Qa1 x.n x.ms d.wf.nd d.wf.msn;have:=d.n10;omega);cases m:x.ms.contains y;·rw[m]at hc c;refine Zc5 (Zdb b f g k (QaI o)) ?_;refine cp hc ?_;refine Zc4 ?_;refine⟨.inr trivial,_,rfl,?_⟩;rw[hm,c];exact Zcs rfl
   rw[m,Zai]at c;rw[m]at hc;refine Zc5 (Zdb b f g k (QaI o)) ?_;refine cp hc ?_;refine Zc4 ?_;exact⟨i+1,by omega,⟨by omega,by rw[hm,c]⟩,⟨[],rfl,au0,au27,au26⟩⟩
  have e:i=l.length:=by omega
  subst e;refine Zc5 b ?_;refine⟨(),by rw[hm,List.drop_eq_nil_of_le (Zar _)];rfl,?_⟩;exact⟨[],rfl,au0,au27,au26⟩
 rintro _ hm;refine Zc4 ?_;refine⟨.inr trivial,_,rfl,?_⟩;rw[hm];exact Zcs rfl
def stV:Option (List Nat)->AV|some n=>.tup [ZN n,.bool true]|none=>.tup [.nilsl,.bool false]
theorem QsA(o):noRef (stV o)=true:=by cases o with|none=>rfl|some n=>rw[stV,noRef,noRefs,Qab];rfl
theorem QnU{e}(h:stp l t e k=none):∀m,stp l t e (k+m)=none|0=>h|m+1=>by have:=QnU h m;show stp l t e (k+m+1)=none;unfold stp;rw[this]
theorem QwS{l}{x:Nat}:(ZI (nz l)).set i (.int .i64 (x:Int))=ZI (nz (l.set i x)):=by simp[ZI,nz,List.map_set]
theorem Qvf(h:l[i]?=some x):((l.map emV).drop i).head?=some (emV x):=by rw[ZbC,ZaA,h];rfl
theorem step100(l)(t)(e:Nat)(h:∀a∈l,WfJ a)(h0:0<l.length)(hl:l.length<=12)(ht:t.length=l.length):Ps 164 [macV l,ZN t,.int .i64 (e:Int)] (stV (stepT l t e)):=by
 refine Zcu 64 (Ok TP.s164) rfl (by rw[noRefs,Qdi,noRefs,Qab];rfl) (QsA _) ?_;have hno:=Qbs l;have hnm:=Qep l;have hml:(l.map emV).length=l.length:=Zax ..;have hcl:=clone56 t (by omega);unfold TP.s164;refine Zc4 ?_;refine ch (ZcU (b:=83) (by rw[noRefs,Qab];rfl) hcl (by repeat(first|exact Fresh.e|exact Zcw (by assumption) (by omega)|refine Zcx ?_ (by omega) (by omega))) rfl) ?_;refine Zc4 ?_;refine Qas 120 (fun s:Nat×List Nat=>[(1,ZN t),(2,.int .i64 (e:Int)),(3,.ptr 51 0 0),(8,.sl 60 0 0 t.length 1),(16,auts l),(17,.int .i64 l.length),(18,.int .i64 s.1)]) (fun s=>[(51,.cells 0 [auts l,ZN (evA l),.fsl (l.map emV) l.length 1]),(60,.cells 0 (ZI (nz s.2)))]) (fun s=>s.1<=l.length/\s.2.length=t.length/\stp l t e s.1=some s.2) (fun s=>l.length-s.1) (0,t) 0 200 (fun n:List Nat=>[(8,.sl 60 0 0 t.length 1)]) (fun n=>[(60,.cells 0 (ZI (nz n)))]) (fun n=>n.length=t.length/\stepT l t e=some n) ?_ ⟨Zaj _,rfl,rfl⟩ ?_ ?_;·refine⟨[(51,.blk 64 0),(60,.blk 83 0)],rfl,au0,?_,au26⟩;exact ZcE rfl rfl gg (Zct hnm) (ZcE rfl rfl gg (Zct (Qaa _)) ZcD)
 ·rintro⟨i,n⟩⟨hi,hn,hs⟩;dsimp only at hi hn hs⊢;by_cases hlt:i<l.length
  ·obtain⟨x,hx⟩:=Qak hlt;obtain⟨y,hy⟩:=Qak (l:=t) (i:=i) (by omega);have hyd:t.getD i 0=y:=by rw[Zah,hy];rfl
   have hwi:=h x (Zaa hx);have hdr:=Qex hx;have hdl:4<=((l.flatMap auC).drop (i*4)).length:=by rw[hdr];simp
   have hlt2:i<t.length:=by omega
   have hin:i+1<=n.length:=by omega
   have hc:=has189 x.al e hwi.wf.al (by have:=Qg5 hwi.wf;omega);have hstep:stp l t e (i+1)=if e∈x.al then(match ZA x.es y e with|some to=>some (n.set i to)|none=>none)else some n:=by unfold stp;rw[hs,hx,hyd];try rfl
   by_cases hq:e∈x.al
   ·rw[List.contains_iff_mem.2 hq]at hc;rw[if_pos hq]at hstep
    refine Zc5 (Zda hlt hlt2 hdr hdl) ?_;refine cp hc ?_;refine Zc5 (Zdb hlt hlt2 (Qvf hx) (QaI hy) hml) ?_;cases hst:ZA x.es y e with|none=>
     rw[hst]at hstep;have hk:(y,e)∉x.es.map pE:=fun hm=>by obtain⟨d,hd,e2⟩:=Zaq.1 hm;have h3:=Qc8 hwi.wf.es hd;unfold pE at e2;simp only[Zal]at e2;rw[e2.1,e2.2,hst]at h3;cases h3
     have hfin:stepT l t e=none:=by have:=QnU hstep (l.length-(i+1));rwa[show i+1+(l.length-(i+1))=l.length by omega]at this
     refine Qgj (c:=kP) (f:=vE x.es) (x:=(y,e)) (l:=x.es.map pE) QfC hk ?_;refine Zc4 ?_;refine⟨.inr trivial,_,rfl,?_⟩;rw[hfin];exact Zcs rfl|some to=>
     rw[hst]at hstep;have hv:vE x.es (y,e)=.int .i64 (to:Int):=by unfold vE;rw[hst];rfl
     refine QeZ (c:=kP) (f:=vE x.es) (x:=(y,e)) (l:=x.es.map pE) QfC (QcN hst) ?_;rw[hv];refine Zc7 (Zdc hlt2 hin @QwS @Qac @Qad @Qae) ?_;refine⟨(i+1,n.set i to),by dsimp only;omega,⟨by dsimp only;omega,by rw[List.length_set];exact hn,hstep⟩,?_⟩;exact bPVJ1
   ·rw[show x.al.contains e=false by rw[ZaI];exact fun hh=>hq (List.contains_iff_mem.1 hh)]at hc;rw[if_neg hq]at hstep;refine Zc5 (Zda hlt hlt2 hdr hdl) ?_;refine cp hc ?_;refine Zc4 ?_;refine⟨(i+1,n),by dsimp only;omega,⟨by dsimp only;omega,hn,hstep⟩,?_⟩;exact bPVJ1
  ·have e2:i=l.length:=by omega
   subst e2;refine Zc5 hlt ?_;refine⟨n,⟨hn,hs⟩,?_⟩;refine⟨[(60,.blk 60 0)],rfl,au0,?_,au26⟩;exact ZcE rfl rfl gg (Zct (Qaa _)) ZcD
 rintro n⟨hn,hs⟩;refine Zc4 ?_;refine⟨.inr trivial,_,rfl,?_⟩;rw[hs];refine Rn.tup (ZcK ?_ (Zct rfl));rw[<-hn];exact ZcM gg (by simp[ZI]) (Zct (Qaa _))
end Go.AM.SO
namespace Go.AM.TK
open Go.Proofs
set_option maxHeartbeats 4000000
noncomputable section
def cf:YA.Cf:={}
noncomputable def ft:FT2:=YA.tre Tryz.prog cf 20 [77,78,115,147,162,169,205,216,259,279]
theorem ft_ok:ft.OK Tryz.prog:=YA.QgH _ _ (YA.QfR (by kernel_rfl))
end
end Go.AM.TK
namespace Go.AM.SO
open Go.Proofs Go.AM.SD
variable{x:(Nat×List (Nat×Nat))⊕(List (Nat×Int)×Int)}{c:Cel}{A B T:List (List Nat)}{s:List (List Nat)×List Ed}{cap:List AV}{l:List Aut}{n t:List Nat}{K i k:Nat}
noncomputable section
def keyT(t:List Nat):List UInt8:=t.flatMap fun x=>[UInt8.ofNat (48+x),32]
def keyB(k:Nat)(t:List Nat):Bool:=callR ansB noOrc TK.ft.get (exR ansB noOrc TK.ft.get 1000) (.c .pure) k [ZN t] .e 64 (fun u _ _=>eqAV (.str (keyT t)) u)
theorem QjO(h:keyB k t=true):Ps k [ZN t] (.str (keyT t)):=Qb6 (t:=TK.ft) TK.ft_ok QdK (d:=1000) (eqAV _) (fun u h=>(QdJ _ _ h).symm) h
def allK(k n:Nat):List Nat->Bool:=@Nat.rec (fun _=>List Nat->Bool) (fun t=>keyB k t) (fun _ a t=>ifB (a (t++[0])) (ifB (a (t++[1])) (a (t++[2])) false) false) n
theorem QfE:∀{t u:List Nat},allK k t.length u=true->(∀x∈t,x<3)->keyB k (u++t)=true
 |[],u,h,_=>by rw[Zas];exact h|x::t,u,h,a=>by
  have e:allK k (x::t).length u=ifB (allK k t.length (u++[0])) (ifB (allK k t.length (u++[1])) (allK k t.length (u++[2])) false) false:=rfl;rw[e]at h;simp only[QaL]at h;have d:=a x (by simp);have b:allK k t.length (u++[x])=true:=by grind
  have:=QfE b fun y c=>a y (by simp[c]);simp_all
theorem Qvg:allK 162 1 []=true:=by kernel_rfl
theorem Qvh:allK 162 2 []=true:=by kernel_rfl
theorem Qvi:allK 162 3 []=true:=by kernel_rfl
theorem key98(c:0<t.length)(b:t.length<=3)(a:∀x∈t,x<3):Ps 162 [ZN t] (.str (keyT t)):=by refine QjO (QfE (u:=[]) ?_ a);grind[Qvg,Qvh,Qvi]
theorem QnV:∀{s t:List Nat},s.length=t.length->(∀x∈s,x<10)->(∀x∈t,x<10)->keyT s=keyT t->s=t
 |[],[],_,_,_,_=>rfl|x::s,y::t,d,b,c,h=>by
  have g:keyT (x::s)=UInt8.ofNat (48+x)::32::keyT s:=rfl;have f:keyT (y::t)=UInt8.ofNat (48+y)::32::keyT t:=rfl;rw[g,f]at h;simp only[List.cons.injEq,true_and]at h;have k:=b x (by simp);have i:=c y (by simp);have h1:x=y:=by have:=congrArg UInt8.toNat h.1;grind[UInt8.toNat_ofNat']
  subst h1;rw[QnV (by simpa using d) (fun z a=>b z (by simp[a])) (fun z a=>c z (by simp[a])) h.2]
end
open Go.AM.SE
abbrev ixT(T:List (List Nat))(n:List Nat):Nat:=T.findIdx (·==n)
theorem Qhp(h:A<+:B)(a:n∈A):ixT A n=ixT B n:=by obtain⟨C,rfl⟩:=h;grind
theorem Qks(a:n∉A):ixT A n=A.length:=by grind
theorem Qvj(a:n∉A):ixT A n=ixT (A++[n]) n:=by grind
theorem Qkt(hn:n∈A):A[ixT A n]?=some n:=by grind
theorem QjP(a:n∈A):ixT A n<A.length:=Zbt ⟨n,a,by simp⟩
theorem QjQ(a:A.Nodup)(h:A[i]?=some n):ixT A n=i:=by grind[Qkt,List.getElem?_inj]
def rowE(l:List Aut)(ev:List Nat)(T:List (List Nat))(j:Nat)(t:List Nat):List Ed:=ev.filterMap fun e=>(stepT l t e).map fun n=>(j,e,ixT T n)
theorem QqJ{ev}{j}(h:A<+:B)(hc:∀e∈ev,∀n,stepT l t e=some n->n∈A):rowE l ev A j t=rowE l ev B j t:=by unfold rowE;refine a fun e he=>?_;cases b:stepT l t e with|none=>rfl|some n=>simp only[ZbK,Qhp h (hc e he n b)]where a{α β:Type}{f g:α->Option β}:∀{l:List α},(∀x∈l,f x=g x)->l.filterMap f=l.filterMap g|[],_=>rfl|x::l,h=>by rw[ZbJ,ZbJ,h x (by simp),a (l:=l) fun y c=>h y (by simp[c])]
theorem QlW{l}{i}{t}:∀{ev:List Nat}{s:List (List Nat)×List Ed},(pRow l ev i t s).2=s.2++rowE l ev (pRow l ev i t s).1 i t/\∀e∈ev,∀n,stepT l t e=some n->n∈(pRow l ev i t s).1|[],s=>by simp_all[pRow,rowE]|e::ev,s=>by have h:=QlW (l:=l) (i:=i) (t:=t) (ev:=ev) (s:=pEv l i t s e);have hp:=QcP (l:=l) (i:=i) (t:=t) (ev:=ev) (s:=pEv l i t s e);have h1:pRow l (e::ev) i t s=pRow l ev i t (pEv l i t s e):=rfl;rw[h1];obtain⟨d,i2⟩:=h;cases p:stepT l t e with
 |none=>
  have b:pEv l i t s e=s:=by grind[pEv]
  rw[b]at d i2 hp⊢;refine⟨?_,fun g c n k=>?_⟩;·simp_all[rowE]
  grind|some n=>
  have b:pEv l i t s e=(if n∈s.1 then s.1 else s.1++[n],s.2++[(i,e,ixT s.1 n)]):=by grind[pEv]
  rw[b]at d i2 hp⊢;have a:n∈(if n∈s.1 then s.1 else s.1++[n]):=by grind
  have m:ixT s.1 n=ixT (if n∈s.1 then s.1 else s.1++[n]) n:=by grind
  have f:=Qhp hp a;refine⟨?_,fun g c o k=>?_⟩;·generalize pRow l ev i t (if n∈s.1 then s.1 else s.1++[n],s.2++[(i,e,ixT s.1 n)])=R at*;simp_all[rowE]
  grind
structure PE(l:List Aut)(ev:List Nat)(i:Nat)(s:List (List Nat)×List Ed):Prop where
 ed:s.2=(List.range i).flatMap fun j=>rowE l ev s.1 j (s.1.getD j [])cl:∀j t,j<i->s.1[j]?=some t->∀e∈ev,∀n,stepT l t e=some n->n∈s.1
 le:i<=s.1.length
theorem QiN(h:A<+:B){j}(a:j<A.length):B.getD j []=A.getD j []:=by obtain⟨C,rfl⟩:=h;grind
theorem Qhq(h:A<+:B){j}(a:j<A.length):B[j]?=A[j]?:=by obtain⟨C,rfl⟩:=h;grind
theorem flatMap_congr'{α β:Type}{f g:α->List β}:∀{l:List α},(∀x∈l,f x=g x)->l.flatMap f=l.flatMap g|[],_=>rfl|x::l,h=>by rw[Zaz,Zaz,h x (by simp),flatMap_congr' (l:=l) fun y a=>h y (by simp[a])]
theorem PE.row{ev}(h:PE l ev i s)(f:s.1[i]?=some t):PE l ev (i+1) (pRow l ev i t s):=by
 have hp:=QcP (l:=l) (i:=i) (t:=t) (ev:=ev) (s:=s);obtain⟨h1,g⟩:=QlW (l:=l) (i:=i) (t:=t) (ev:=ev) (s:=s);have hi:i<s.1.length:=by grind
 refine⟨?_,fun j u a hu e he n b=>?_,ZaC hi hp.length_le⟩
 ·rw[h1,ZaK,Zao,Zaz,Zb6,Zas];have d:(pRow l ev i t s).1.getD i []=t:=by rw[QiN hp hi,Zah,f];rfl
  rw[d];congr 1;rw[h.ed];refine flatMap_congr' fun j a=>?_;have c:=Zau.1 a;obtain⟨u,hu⟩:=Qak (l:=s.1) (i:=j) (by omega);rw[QiN hp (by omega)];refine QqJ hp fun e he n b=>?_;rw[Zah,hu]at b;exact h.cl j u c hu e he n b
 rcases Nat.lt_succ_iff_lt_or_eq.1 a with a|rfl;·rw[Qhq hp (by omega)]at hu;exact hp.subset (h.cl j u a hu e he n b)
 grind[Qhq]
theorem QpP{ev}(hw:∀a∈l,∀e∈a.es,e.1<a.n/\e.2.2<a.n):∀{k i:Nat}{s:List (List Nat)×List Ed},PI l s->box l<k+i->PE l ev i s->PE l ev (pQ l ev k i s).1.length (pQ l ev k i s)|0,i,s,h,hk,he=>by have h1:=Qdy h.nd h.inT;have c:=he.le;omega|k+1,i,s,h,hk,he=>by unfold pQ;cases b:s.1[i]? with
 |none=>
  have c:=he.le;have:i=s.1.length:=by grind
  rwa[this]at he|some t=>exact QpP hw (Qew hw (h.inT t (Zaa b)) h) (by omega) (he.row b)
theorem Qg9(c:∀a∈l,0<a.n)(hw:∀a∈l,∀e∈a.es,e.1<a.n/\e.2.2<a.n):PE l (evA l) (Z0 l).1.length (Z0 l):=QpP hw (Qgb c) (by omega) ⟨rfl,fun j t b=>absurd b (Zay _),Zaj _⟩
theorem sync_pre{l}:[List.replicate l.length 0]<+:(Z0 l).1:=QjL (s:=([List.replicate l.length 0],[]))
def keyC(t:List Nat):AV:=.str (keyT t)
def ixV(T:List (List Nat))(t:List Nat):AV:=.int .i64 ((ixT T t:Nat):Int)
abbrev tuV(T:List (List Nat)):AV:=.fsl (T.map ZN) T.length 1
theorem Qa8(T):noRef (tuV T)=true:=by rw[tuV,noRef];exact Qax Qab _
theorem InT.ltJ(h:∀a∈l,WfJ a)(d:InT l t){x}(f:x∈t):x<10:=by obtain⟨i,hi,b⟩:=Qec f;obtain⟨a,c⟩:=Qak (l:=l) (i:=i) (by rw[<-d.1];exact b);have h1:=d.2 i a c;rw[Zah,hi]at h1;have g:=(h a (Zaa c)).n10;simp only[Option.getD_some]at h1;omega
theorem InT.lt(h:∀a∈l,WfI a)(d:InT l t){x}(f:x∈t):x<3:=by obtain⟨i,hi,b⟩:=Qec f;obtain⟨a,c⟩:=Qak (l:=l) (i:=i) (by rw[<-d.1];exact b);have h1:=d.2 i a c;rw[Zah,hi]at h1;have g:=(h a (Zaa c)).n3;simp only[Option.getD_some]at h1;omega
theorem Qha(h:∀a∈l,WfJ a){x}(f:InT l x)(g:∀t∈T,InT l t):KeyG false [.s] keyC x T:=by
 have key:∀y,InT l y->keyEq false [.s] (keyC x) (keyC y)=some (decide (x=y)):=by
  intro y b;have e:keyEq false [.s] (keyC x) (keyC y)=some (decide (keyT x=keyT y)):=QgZ;rw[e];congr 1;refine decide_eq_decide.2 ⟨fun c=>QnV (by rw[f.1,b.1]) (fun z d=>?_) (fun z d=>?_) c,fun c=>by rw[c]⟩;·have:=f.ltJ h d;omega
  have:=b.ltJ h d;omega
 refine⟨?_,fun y b=>key y (g y b)⟩;unfold keyOK;rw[key x f]
theorem QpQ(b:n∉T):mapG keyC (updG (ixV T) n (.int .i64 ((T.length:Nat):Int))) (T++[n])=mapG keyC (ixV (T++[n])) (T++[n]):=by
 refine QjK fun x a=>?_;unfold updG;split;·rename_i e;subst e;unfold ixV;rw[<-Qvj b,Qks b]
 rename_i e;unfold ixV;rw[Qhp (List.prefix_append T [n]) (by
  rcases ZaE.1 a with a|a;·exact a
  simp at a;exact absurd a e)]
def marks(l:List Aut)(T:List (List Nat))(i:Nat):List Nat:=(List.range i).filter fun j=>mkdT l (T.getD j [])
theorem QqK(a:T[i]?=some t):marks l T (i+1)=if mkdT l t=true then marks l T i++[i]else marks l T i:=by
 have e:T.getD i []=t:=by rw[Zah,a];rfl
 unfold marks;rw[ZaK,Zbj];by_cases hm:mkdT l t=true;·rw[if_pos hm,List.filter_cons_of_pos (by rw[e];exact hm),List.filter_nil]
 rw[if_neg hm,List.filter_cons_of_neg (by rw[e];exact hm),List.filter_nil,Zas]
theorem QlX(h:A<+:B)(hi:i<=A.length):marks l B i=marks l A i:=by unfold marks;refine ZbA fun j a=>?_;rw[QiN h (by have:=Zau.1 a;omega)]
theorem QlY{l}{T}{i}:(marks l T i).length<=i:=by have:=Za4 (fun j=>mkdT l (T.getD j [])) (List.range i);rwa[ZbH]at this
theorem Qvk{l}{i e}{t}{s}:(pEv l i t s e).2.length<=s.2.length+1:=by unfold pEv;cases stepT l t e with|none=>exact Nat.le_succ _|some n=>simp
theorem Qe0{l}{i}{t}:∀{ev:List Nat}{s:List (List Nat)×List Ed},(pRow l ev i t s).2.length<=s.2.length+ev.length|[],s=>Zar _|e::ev,s=>by have h1:=Qe0 (l:=l) (i:=i) (t:=t) (ev:=ev) (s:=pEv l i t s e);have a:=@Qvk l i e t s;show(pRow l ev i t (pEv l i t s e)).2.length<=_;rw[ZaD];omega
theorem QlZ{ev:List Nat}{j e}(h:ev[j]?=some e):pRow l (ev.take (j+1)) i t s=pEv l i t (pRow l (ev.take j) i t s) e:=by unfold pRow;rw[take_succ' h,Zba];rfl
theorem Qe1(h:T[i]?=some t):(T.map ZN)[i]?=some (ZN t):=by rw[ZaA,h];rfl
theorem Qvl{ev}(h:s.1[i]?=none):pQ l ev k i s=s:=by cases k with|zero=>rfl|succ k=>unfold pQ;rw[h]
theorem Qgk{ev}:(pRow l (ev.take k) i t s).1<+:(pRow l ev i t s).1:=by
 have e:pRow l ev i t s=pRow l (ev.drop k) i t (pRow l (ev.take k) i t s):=by unfold pRow;rw[<-Zba,Za9]
 rw[e];exact QcP
def synV(l:List Aut):AV:=if(Z0 l).1.length<=4096 then .tup [aV (syncA l),tuV (Z0 l).1,.int .i64 0]else .tup [.agg [.nilsl,.int .i64 0,.nilsl,.nilsl],.nilsl,.int .i64 3]
theorem sync28J(l)(h:∀a∈l,WfJ a)(h0:0<l.length)(hl:l.length<=12)(G:∀t,InT l t->Ps 162 [ZN t] (.str (keyT t))):Ps 100 [auts l] (synV l):=by
 have hno:=Qbs l;have c:=Qep l;have R:noRef (.tup [aV (syncA l),tuV (Z0 l).1,.int .i64 0])=true:=by rw[noRef,noRefs,noRefs,Qa8,noRef,noRefs,noRefs,noRefs,noRefs,Qab,Qab,Qaj];rfl
 have hnr:noRef (synV l)=true:=by
  unfold synV;split;·exact R
  rfl
 have U:(Z0 l).1.length<=4096->synV l=.tup [aV (syncA l),tuV (Z0 l).1,.int .i64 0]:=fun h=>if_pos h;have J:¬(Z0 l).1.length<=4096->synV l=.tup [.agg [.nilsl,.int .i64 0,.nilsl,.nilsl],.nilsl,.int .i64 3]:=fun h=>if_neg h;generalize synV l=V at*;refine Zcu 64 (Ok TP.s100) rfl (by rw[noRefs,hno];rfl) hnr ?_;have hw:∀a∈l,∀e∈a.es,e.1<a.n/\e.2.2<a.n:=fun a ha=>(h a ha).wf.esn;have hpos:∀a∈l,0<a.n:=fun a ha=>(h a ha).pos;have hc:=check95 l h (by omega);have ho:=open96 l h (by omega);have hi:=initial97 l h h0 (by omega);have S:=Qgb (l:=l) hpos;have Q:InT l (List.replicate l.length 0):=S.inT _ (by simp);have hk0:=G _ Q;have hev5:=QpO h;have hml:(l.map emV).length=l.length:=Zax ..;unfold TP.s100;refine Zc4 ?_;refine cp hc ?_;refine Zc4 ?_;refine cp ho ?_;refine Zc4 ?_;refine cp hi ?_;refine Zc4 ?_;refine cp hk0 ?_;refine Zc4 ?_;refine Qcn (c:=keyC) (f:=fun _=>.nilsl) (x:=List.replicate l.length 0) (l:=[]) (g:=0) gg (Qha h Q fun t O=>by cases O) (by simp) (by omega) ?_;have hm0:mapG keyC (updG (fun _=>.nilsl) (List.replicate l.length 0) (.int .i64 0)) ([]++[List.replicate l.length 0])=mapG keyC (ixV [List.replicate l.length 0]) [List.replicate l.length 0]:=by
  refine QjK fun x hx=>?_;have hx:x=List.replicate l.length 0:=by simpa using hx
  subst hx;unfold updG ixV;rw[if_pos rfl];simp[ixT]
 rw[hm0];refine Zc4 ?_;refine Qas 320 (fun q:Nat×(List (List Nat)×List Ed)=>[(2,.ptr 51 0 0),(6,.ptr 52 0 0),(3,.sl 60 0 0 q.2.1.length 1),(9,.map 53 0),(10,.int .i64 (q.1))]) (fun q=>[(51,.cells 0 [ZN (evA l),.int .i64 0,.sl 70 0 0 (marks l q.2.1 q.1).length 1,.sl 71 0 0 q.2.2.length 3]),(52,.cells 0 [auts l,ZN (evA l),.fsl (l.map emV) l.length 1]),(53,.map 0 (mapG keyC (ixV q.2.1) q.2.1)),(60,.cells 0 (q.2.1.map ZN)),(70,.cells 0 (ZI (nz (marks l q.2.1 q.1)))),(71,.cells 0 (q.2.2.flatMap edC))]) (fun q=>q.1<=q.2.1.length/\PI l q.2/\q.2.2.length<=q.1*32/\q.2.1.length<=4096/\pQ l (evA l) (box l+1-q.1) q.1 q.2=Z0 l) (fun q=>box l+1-q.1) (0,([List.replicate l.length 0],[])) 0 900 (fun _:Unit=>[(2,.ptr 51 0 0),(3,tuV (Z0 l).1)]) (fun _=>[(51,.cells 0 [ZN (evA l),.int .i64 0,ZN (marks l (Z0 l).1 (Z0 l).1.length),egsN (Z0 l).2])]) (fun _=>(Z0 l).1.length<=4096) ?_ ⟨Zaj _,S,Zaj _,by show[List.replicate l.length 0].length<=4096;simp,rfl⟩ ?_ ?_;·refine⟨[(51,.blk 64 0),(52,.blk 74 0),(53,.blk 92 0),(60,.blk 90 0),(70,.nil),(71,.nil)],rfl,au0,?_,au26⟩;exact ZcE rfl rfl gg (ZcK (Zcs (Qab _)) (ZcK (Zcs rfl) (ZcK (Rn.x4 rfl rfl) (ZcK (Rn.x4 rfl rfl) ZcJ)))) (ZcE rfl rfl gg (Zct c) (ZcG rfl rfl gg (ZcX fun _ _=>⟨rfl,rfl⟩) (ZcE rfl rfl gg (RnL.eq (by simp) (Qax Qab _)) (ZcF rfl rfl (ZcF rfl rfl ZcD)))))
 ·rintro⟨i,s⟩⟨hi,hp,hel,N,hq⟩;dsimp only at hi hp hel N hq⊢;have hsb:=Qdy hp.nd hp.inT;have hsml:(s.1.map ZN).length=s.1.length:=Zax ..;by_cases d:i<s.1.length
  ·obtain⟨t,O⟩:=Qak d;have w:=hp.inT t (Zaa O);have M:=marked99 l t h (by omega) w.1;have z:=QqK (l:=l) O;have hml5:=@QlY l s.1 i;have L:=QcP (l:=l) (i:=i) (t:=t) (ev:=evA l) (s:=s);have hpo:=Qew (i:=i) (ev:=evA l) hw w hp;have hpn:=Qe0 (l:=l) (i:=i) (t:=t) (ev:=evA l) (s:=s);have P:pQ l (evA l) (box l+1-(i+1)) (i+1) (pRow l (evA l) i t s)=Z0 l:=by rw[<-hq,show box l+1-i=(box l+1-(i+1))+1 by omega];simp only[pQ,O]
   cases hmb:mkdT l t
   ·rw[hmb]at M z;rw[if_neg (by simp)]at z;refine Zc5 (Zc8 d (Qe1 O)) ?_;refine cp M ?_;refine Zc4 ?_;have hmk:marks l s.1 (i+1)=marks l s.1 i:=z;refine Qas 420 (fun j:Nat=>[(2,.ptr 51 0 0),(6,.ptr 52 0 0),(3,.sl 60 0 0 (pRow l ((evA l).take j) i t s).1.length 1),(9,.map 53 0),(10,.int .i64 (i)),(61,ZN (evA l)),(62,.int .i64 (evA l).length),(63,.int .i64 j)]) (fun j=>[(51,.cells 0 [ZN (evA l),.int .i64 0,.sl 70 0 0 (marks l s.1 (i+1)).length 1,.sl 71 0 0 (pRow l ((evA l).take j) i t s).2.length 3]),(52,.cells 0 [auts l,ZN (evA l),.fsl (l.map emV) l.length 1]),(53,.map 0 (mapG keyC (ixV (pRow l ((evA l).take j) i t s).1) (pRow l ((evA l).take j) i t s).1)),(60,.cells 0 ((pRow l ((evA l).take j) i t s).1.map ZN)),(70,.cells 0 (ZI (nz (marks l s.1 (i+1))))),(71,.cells 0 ((pRow l ((evA l).take j) i t s).2.flatMap edC))]) (fun j=>j<=(evA l).length/\(pRow l ((evA l).take j) i t s).1.length<=4096) (fun j=>(evA l).length-j) 0 2 700 (fun _:Unit=>[(2,.ptr 51 0 0),(6,.ptr 52 0 0),(3,.sl 60 0 0 (pRow l (evA l) i t s).1.length 1),(9,.map 53 0),(10,.int .i64 (i))]) (fun _=>[(51,.cells 0 [ZN (evA l),.int .i64 0,.sl 70 0 0 (marks l s.1 (i+1)).length 1,.sl 71 0 0 (pRow l (evA l) i t s).2.length 3]),(52,.cells 0 [auts l,ZN (evA l),.fsl (l.map emV) l.length 1]),(53,.map 0 (mapG keyC (ixV (pRow l (evA l) i t s).1) (pRow l (evA l) i t s).1)),(60,.cells 0 ((pRow l (evA l) i t s).1.map ZN)),(70,.cells 0 (ZI (nz (marks l s.1 (i+1))))),(71,.cells 0 ((pRow l (evA l) i t s).2.flatMap edC))]) (fun _=>(pRow l (evA l) i t s).1.length<=4096) ?_ ⟨Zaj _,N⟩ ?_ ?_;·show Rec _ _ [(51,.cells 0 [ZN (evA l),.int .i64 0,.sl 70 0 0 (marks l s.1 (i+1)).length 1,.sl 71 0 0 s.2.length 3]),(52,.cells 0 [auts l,ZN (evA l),.fsl (l.map emV) l.length 1]),(53,.map 0 (mapG keyC (ixV s.1) s.1)),(60,.cells 0 (s.1.map ZN)),(70,.cells 0 (ZI (nz (marks l s.1 (i+1))))),(71,.cells 0 (s.2.flatMap edC))] _ _;rw[hmk];refine⟨[(51,.blk 51 0),(52,.blk 52 0),(53,.blk 53 0),(60,.blk 60 0),(70,.blk 70 0),(71,.blk 71 0)],rfl,au0,?_,au26⟩;exact ZcE rfl rfl gg (ZcK (Zcs (Qab _)) (ZcK (Zcs rfl) (ZcK (Rn.x1 rfl rfl) (ZcK (Rn.x1 rfl rfl) ZcJ)))) (ZcE rfl rfl gg (Zct c) (ZcG rfl rfl gg (ZcX fun _ _=>⟨rfl,rfl⟩) (ZcE rfl rfl gg (Zct (Qax Qab _)) (ZcE rfl rfl gg (Zct (Qaa _)) (ZcE rfl rfl gg (Zct (Qag _)) ZcD)))))
    ·exact b0IYg
    exact bbFcJ
   rw[hmb]at M z;rw[if_pos rfl]at z;refine Zc5 (Zc8 d (Qe1 O)) ?_;refine cp M ?_;refine Zc4 ?_;have hmk:marks l s.1 (i+1)=marks l s.1 i++[i]:=z;refine Qas 420 (fun j:Nat=>[(2,.ptr 51 0 0),(6,.ptr 52 0 0),(3,.sl 60 0 0 (pRow l ((evA l).take j) i t s).1.length 1),(9,.map 53 0),(10,.int .i64 (i)),(61,ZN (evA l)),(62,.int .i64 (evA l).length),(63,.int .i64 j)]) (fun j=>[(51,.cells 0 [ZN (evA l),.int .i64 0,.sl 70 0 0 (marks l s.1 (i+1)).length 1,.sl 71 0 0 (pRow l ((evA l).take j) i t s).2.length 3]),(52,.cells 0 [auts l,ZN (evA l),.fsl (l.map emV) l.length 1]),(53,.map 0 (mapG keyC (ixV (pRow l ((evA l).take j) i t s).1) (pRow l ((evA l).take j) i t s).1)),(60,.cells 0 ((pRow l ((evA l).take j) i t s).1.map ZN)),(70,.cells 0 (ZI (nz (marks l s.1 (i+1))))),(71,.cells 0 ((pRow l ((evA l).take j) i t s).2.flatMap edC))]) (fun j=>j<=(evA l).length/\(pRow l ((evA l).take j) i t s).1.length<=4096) (fun j=>(evA l).length-j) 0 2 700 (fun _:Unit=>[(2,.ptr 51 0 0),(6,.ptr 52 0 0),(3,.sl 60 0 0 (pRow l (evA l) i t s).1.length 1),(9,.map 53 0),(10,.int .i64 (i))]) (fun _=>[(51,.cells 0 [ZN (evA l),.int .i64 0,.sl 70 0 0 (marks l s.1 (i+1)).length 1,.sl 71 0 0 (pRow l (evA l) i t s).2.length 3]),(52,.cells 0 [auts l,ZN (evA l),.fsl (l.map emV) l.length 1]),(53,.map 0 (mapG keyC (ixV (pRow l (evA l) i t s).1) (pRow l (evA l) i t s).1)),(60,.cells 0 ((pRow l (evA l) i t s).1.map ZN)),(70,.cells 0 (ZI (nz (marks l s.1 (i+1))))),(71,.cells 0 ((pRow l (evA l) i t s).2.flatMap edC))]) (fun _=>(pRow l (evA l) i t s).1.length<=4096) ?_ ⟨Zaj _,N⟩ ?_ ?_;·show Rec _ _ [(51,.cells 0 [ZN (evA l),.int .i64 0,.sl 70 0 0 (marks l s.1 (i+1)).length 1,.sl 71 0 0 s.2.length 3]),(52,.cells 0 [auts l,ZN (evA l),.fsl (l.map emV) l.length 1]),(53,.map 0 (mapG keyC (ixV s.1) s.1)),(60,.cells 0 (s.1.map ZN)),(70,.cells 0 (ZI (nz (marks l s.1 (i+1))))),(71,.cells 0 (s.2.flatMap edC))] _ _;rw[hmk,Zag,QaM,QaB];refine⟨[(51,.blk 51 0),(52,.blk 52 0),(53,.blk 53 0),(60,.blk 60 0),(70,.blk 70 1),(71,.blk 71 0)],rfl,au0,?_,au26⟩;exact ZcE rfl rfl gg (ZcK (Zcs (Qab _)) (ZcK (Zcs rfl) (ZcK (Rn.x1 rfl rfl) (ZcK (Rn.x1 rfl rfl) ZcJ)))) (ZcE rfl rfl gg (Zct c) (ZcG rfl rfl gg (ZcX fun _ _=>⟨rfl,rfl⟩) (ZcE rfl rfl gg (Zct (Qax Qab _)) (ZcE rfl rfl gg (Zct (SU.Qav (Qaa _) rfl)) (ZcE rfl rfl gg (Zct (Qag _)) ZcD)))))
   ·exact b0IYg
   exact bbFcJ
  have hfin:s=Z0 l:=by rw[<-hq,Qvl (ZaG (by omega))]
  have e2:i=s.1.length:=by omega
  subst e2;rw[<-hfin];refine Zc5 d ?_;refine⟨(),N,[(51,.blk 51 0)],rfl,ZcA,?_,?_⟩;·exact ZcE rfl rfl gg (ZcK (Zcs (Qab _)) (ZcK (Zcs rfl) (ZcK (ZcL rfl rfl rfl rfl (by simp[ZI]) (Zct (Qaa _))) (ZcK (ZcL rfl rfl rfl rfl (Qbg (k:=3) (fun _=>rfl) _) (Zct (Qag _))) ZcJ)))) ZcD
  exact ZcC (Rn.x2 rfl rfl) (ZcC (Rn.fz (b:=60) (g:=0) gg rfl rfl (by simp) (Zct (Qax Qab _))) ZcB)
 rintro _ hE4;rw[U hE4];refine Zc4 ?_;refine⟨.inr trivial,_,rfl,?_⟩;exact Zcs R
theorem sync28(l)(h:∀a∈l,WfI a)(i:0<l.length)(g:l.length<=5)(d:∀t,InT l t->Ps 162 [ZN t] (.str (keyT t))):Ps 100 [auts l] (.tup [aV (syncA l),tuV (Z0 l).1,.int .i64 0]):=by have hw:∀a∈l,∀e∈a.es,e.1<a.n/\e.2.2<a.n:=fun a b=>(h a b).wf.esn;have c:∀a∈l,0<a.n:=fun a b=>(h a b).pos;have f:box l<=243:=ZaC (Qsx (fun a b=>(h a b).n3) (by omega)) (Nat.pow_le_pow_right (n:=3) (by omega) g);have:=sync28J l (fun a b=>(h a b).j) i (by omega) d;unfold synV at this;rwa[if_pos (ZaC (QnS c hw) (by omega))]at this
abbrev auL(l:List (Nat×Aut)):List Aut:=l.map (·.2)
theorem QsB{x}:List.flatMap auC (List.map (fun x:Nat×Aut=>x.2) [x])=[ZN x.2.al,.int .i64 (x.2.n:Int),ZN x.2.ms,egsN x.2.es]:=rfl
theorem Qbl{l}:(auL l).length=l.length:=Zax ..
theorem automata101{ch}(l)(k:l.length<=1000):Ps 101 [its ch l] (auts (auL l)):=by
 refine Zcu 64 (Ok TP.s101) rfl (by rw[noRefs,SU.QaJ];rfl) (Qbs _) ?_;have h:=@SU.QaJ ch l;unfold TP.s101;refine Zc4 ?_;refine Qas 100 (fun i:Nat=>[(3,.sl 60 0 0 i 4),(6,its ch l),(7,.int .i64 l.length),(8,.int .i64 i)]) (fun i=>[(60,.cells 0 ((auL (l.take i)).flatMap auC))]) (fun i=>i<=l.length) (fun i=>l.length-i) 0 0 160 (fun _:Unit=>[(3,auts (auL l))]) (fun _=>[]) (fun _=>True) ?_ (Zaj _) ?_ ?_;·refine⟨[(60,.nil)],rfl,au0,?_,au26⟩;exact ZcF rfl rfl ZcD
 ·rintro i hi;by_cases a:i<l.length
  ·exact b1P8e
  have e:i=l.length:=by omega
  subst e;refine Zc1 a ?_;exact⟨(),[],rfl,ZcA,ZcD,ZcC (ZcL (b:=60) (g:=0) gg rfl rfl Qbl (by rw[Qg8,Qbl]) (Zct (QaS _))) ZcB⟩
 rintro _ _;refine Zc4 ?_;exact⟨.inr trivial,_,rfl,Zcs (Qbs _)⟩
theorem QsC(l):noRef (.tup [aV (syncA l),tuV (Z0 l).1,.int .i64 0])=true:=by rw[noRef,noRefs,noRefs,Qa8,noRef,noRefs,noRefs,noRefs,noRefs,Qab,Qab,Qaj];rfl
theorem Qbt(h:WfCel c):∀a∈auL c.cs,WfI a:=fun a b=>by obtain⟨x,d,rfl⟩:=Zaq.1 b;exact h.ca x d
theorem Qt0(h:WfCel c)(t)(a:InT (auL c.cs) t):Ps 162 [ZN t] (.str (keyT t)):=by have g:=h.c0;have f:=h.c3;have b:=a.1;rw[Qbl]at b;exact key98 (by omega) (by omega) fun x d=>a.lt (Qbt h) d
theorem Qvm(c)(h:WfCel c):Ps 100 [auts (auL c.cs)] (.tup [aV (syncA (auL c.cs)),tuV (Z0 (auL c.cs)).1,.int .i64 0]):=by have a:=h.c0;have b:=h.c3;exact sync28 (auL c.cs) (Qbt h) (by rw[Qbl];omega) (by rw[Qbl];omega) (Qt0 h)
theorem plant17(c)(h:WfCel c):Ps 45 [celV c] (.tup [aV (syncA (auL c.cs)),tuV (Z0 (auL c.cs)).1,.int .i64 0]):=by have d:=Qbh c;refine Zcu 64 (Ok TP.s45) rfl (by rw[noRefs,SU.QaY];rfl) (QsC _) ?_;have f:=h.c3;have hc:=check21 c h;have a:=automata101 (ch:=99) c.cs (by omega);have b:=Qvm c h;unfold TP.s45;refine Zc4 ?_;refine cp hc ?_;refine Zc4 ?_;refine cp a ?_;refine Zc4 ?_;refine cp b ?_;refine Zc4 ?_;exact⟨.inr trivial,_,rfl,Zcs (QsC _)⟩
theorem Qhr(h:T[i]?=some t):((T.map ZN).drop i).head?=some (ZN t):=by rw[ZbC,Qe1 h]
theorem index195(q:(Nat×Nat)->Bool)(l:List (Nat×Nat))(s:l.length<=1000000)(hc:noRefs cap=true)(hk:∀x∈l,Ps K (.agg [.int .i64 (x.1:Int),.int .i64 (x.2:Int)]::cap) (.bool (q x))):Ps 283 [los l,.fn K [] cap] (.int .i64 (idxQ q l)):=by
 refine Zcv 64 (Ok TQ.s283) rfl (by rw[noRefs,noRefs,QbR hc,(SU.Qcs _)];rfl) rfl ?_;have c:=QbR (K:=K) hc;have n:=SU.Qg3 l;unfold TQ.s283;refine Zc4 ?_;refine QaC 100 (fun i:Nat=>[(0,los l),(1,.fn K [] cap),(7,.int .i64 l.length),(8,.int .i64 i)]) (fun _=>[]) (fun i=>i<=l.length/\∀(j:Nat)y,j<i->l[j]?=some y->q y=false) (fun i=>l.length-i) 0 ?_ ⟨Zaj _,fun j y k=>absurd k (Zay _)⟩ ?_;·exact⟨[],rfl,ZcA,ZcD,ZcC (Zcs (SU.Qcs _)) (ZcC (Zcs c) (ZcC (Zcs rfl) (ZcC (Zcs rfl) ZcB)))⟩
 rintro i⟨hi,m⟩;by_cases a:i<l.length
 ·obtain⟨x,b⟩:=Qak a;have h:=hk x (Zaa b);have d:=Qko b;have f:2<=(List.drop (i*2) (l.flatMap loC)).length:=by rw[ZaR,n];omega
  cases g:q x
  ·rw[g]at h;refine Zc7 (Zdd a d f @Zbs @Qac @Qad @Qae) ?_;refine⟨_,by simpa using h,?_⟩;refine Zc4 ?_;refine⟨i+1,by omega,⟨by omega,fun j y k o=>?_⟩,?_⟩
   ·by_cases e:j=i;·subst e;rw[b]at o;cases o;exact g
    exact m j y (by omega) o
   exact⟨[],rfl,ZcA,ZcD,ZcC (Zcs (SU.Qcs _)) (ZcC (Zcs c) (ZcC (Zcs rfl) (ZcC (Zcs rfl) ZcB)))⟩
  exact bQgSf
 exact bLYPF
theorem index48(q:Ed->Bool)(l:List Ed)(s:l.length<=1000000)(hc:noRefs cap=true)(hk:∀x∈l,Ps K (.agg [.int .i64 (x.1:Int),.int .i64 (x.2.1:Int),.int .i64 (x.2.2:Int)]::cap) (.bool (q x))):Ps 236 [egsN l,.fn K [] cap] (.int .i64 (idxQ q l)):=by
 refine Zcv 64 (Ok TQ.s236) rfl (by rw[noRefs,noRefs,QbR hc,(Qaj _)];rfl) rfl ?_;have c:=QbR (K:=K) hc;have n:=(Qbg (k:=3) (fun _=>rfl) l:(l.flatMap edC).length=l.length*3);unfold TQ.s236;refine Zc4 ?_;refine QaC 100 (fun i:Nat=>[(0,egsN l),(1,.fn K [] cap),(7,.int .i64 l.length),(8,.int .i64 i)]) (fun _=>[]) (fun i=>i<=l.length/\∀(j:Nat)y,j<i->l[j]?=some y->q y=false) (fun i=>l.length-i) 0 ?_ ⟨Zaj _,fun j y k=>absurd k (Zay _)⟩ ?_;·exact⟨[],rfl,ZcA,ZcD,ZcC (Zcs (Qaj _)) (ZcC (Zcs c) (ZcC (Zcs rfl) (ZcC (Zcs rfl) ZcB)))⟩
 rintro i⟨hi,m⟩;by_cases a:i<l.length
 ·obtain⟨x,b⟩:=Qak a;have h:=hk x (Zaa b);have d:=QaR b;have f:3<=(List.drop (i*3) (l.flatMap edC)).length:=by rw[ZaR,n];omega
  cases g:q x
  ·rw[g]at h;refine Zc7 (Zdd a d f @Zbs @Qac @Qad @Qae) ?_;refine⟨_,by simpa using h,?_⟩;refine Zc4 ?_;refine⟨i+1,by omega,⟨by omega,fun j y k o=>?_⟩,?_⟩
   ·by_cases e:j=i;·subst e;rw[b]at o;cases o;exact g
    exact m j y (by omega) o
   exact⟨[],rfl,ZcA,ZcD,ZcC (Zcs (Qaj _)) (ZcC (Zcs c) (ZcC (Zcs rfl) (ZcC (Zcs rfl) ZcB)))⟩
  exact bQgSf
 exact bLYPF
theorem contains115(q:Nat×Nat->Bool)(l:List (Nat×Nat))(c:l.length<=1000000)(hc:noRefs cap=true)(hk:∀x∈l,Ps K (.agg [.int .i64 (x.1:Int),.int .i64 (x.2:Int)]::cap) (.bool (q x))):Ps 261 [los l,.fn K [] cap] (.bool (l.any q)):=by refine Zcv 64 (Ok TQ.s261) rfl (by rw[noRefs,noRefs,QbR hc,SU.Qcs];rfl) rfl ?_;have h:=index195 q l c hc hk;have d:=QbR (K:=K) hc;have b:=@QpJ _ q l;generalize idxQ q l=a at*;unfold TQ.s261;refine Zc4 ?_;refine cp h ?_;refine Zc5 b ?_;exact⟨.inr trivial,_,rfl,rfl⟩
theorem other234(t)(c s y:Nat)(a:t[c]?=some y):Ps 262 [.agg [.int .i64 (c:Int),.int .i64 (s:Int)],.fptr [ZN t]] (.bool (!decide (y=s))):=by refine Zcv 64 (Ok TQ.s262) rfl (by simp only[noRefs,noRef,Qaa];rfl) rfl ?_;have hc:c<t.length:=(Zaf.1 a).1;have b:decide ((y:Int)=(s:Int))=decide (y=s):=decide_eq_decide.2 (by omega);unfold TQ.s262;refine Zc5 (Zc9 (QaI a) hc b) ?_;exact⟨.inr trivial,_,rfl,rfl⟩
def exQ(t:List Nat)(x:Nat×List (Nat×Nat)):Bool:=!x.2.any fun l=>!decide (t.getD l.1 0=l.2)
theorem excl233(t:List Nat)(x:Nat×List (Nat×Nat))(g:x.2.length<=1000)(d:∀l∈x.2,l.1<t.length):Ps 260 [ZN t,.fptr (exC x)] (.bool (exQ t x)):=by
 have a:noRefs (exC x)=true:=by simp only[exC,noRefs,noRef,SU.QbA];rfl
 refine Zcv 64 (Ok TQ.s260) rfl (by rw[noRefs,noRefs,Qab,noRef,a];rfl) rfl ?_;have f:=contains115 (K:=262) (cap:=[.fptr [ZN t]]) (fun l=>!decide (t.getD l.1 0=l.2)) x.2 (by omega) (by simp only[noRefs,noRef,Qaa];rfl) fun l hm=>by obtain⟨y,c⟩:=Qak (d l hm);have:=other234 t l.1 l.2 y c;rwa[show t.getD l.1 0=y by rw[Zah,c];rfl]
 show wS _ _ _ _ _ (argT 0 [ZN t,.fptr [.str [101,UInt8.ofNat (48+x.1)],los x.2]]) _ _;unfold exQ;generalize x.2.any (fun l=>!decide (t.getD l.1 0=l.2))=b at*;unfold TQ.s260;refine Zc4 ?_;refine SU.chc (ZcQ (ZcT (Zcy _) (ZcT (FrzTo.fn ZcS (ZcT (ZcP (g:=0) (cs:=[ZN t]) gg (Zcz _)) ZcS)) ZcS)) f rfl) ?_;refine Zc4 ?_;exact⟨.inr trivial,_,rfl,rfl⟩
def koV(t:List Nat)(l:List (Nat×Int)):Int:=(l.map fun x=>x.2*(t.getD x.1 0:Int)).foldl (·+·) 0
theorem QnW{l:List (Nat×Int)}{x}(h:l[i]?=some x):koV t (l.take (i+1))=koV t (l.take i)+x.2*(t.getD x.1 0:Int):=by unfold koV;rw[take_succ' h,ZaJ,Zba];rfl
theorem Ql0{a b}(h:-4<a/\a<4)(c:0<=b/\b<3):-12<=a*b/\a*b<=12:=by
 obtain rfl|rfl|rfl:b=0\/b=1\/b=2:=by omega
 ·omega
 ·omega
 omega
theorem Ql1(b:∀x∈t,x<3){l:List (Nat×Int)}(c:∀x∈l,-4<x.2/\x.2<4):∀i,i<=l.length->-12*(i:Int)<=koV t (l.take i)/\koV t (l.take i)<=12*(i:Int)
 |0,_=>by simp[koV]|i+1,hi=>by
  obtain⟨x,a⟩:=Qak (l:=l) (i:=i) (by omega);rw[QnW a];have h1:=Ql1 b c i (by omega);have d:(0:Int)<=(t.getD x.1 0:Int)/\(t.getD x.1 0:Int)<3:=by
   refine⟨by omega,?_⟩;rcases ZbE x.1 t.length with h|h;·have :=b (t.getD x.1 0) (by rw[Zah,Zak h];exact List.getElem_mem h);omega
   rw[Zah,ZaG h];decide
  have f:=Ql0 (c x (Zaa a)) d;omega
theorem value236(t:List Nat)(k:List (Nat×Int)×Int)(hk:k.1.length<=1000)(p:∀x∈t,x<3)(hc:∀x∈k.1,x.1<t.length/\-4<x.2/\x.2<4):Ps 264 [.agg (coC k),ZN t] (.int .i64 (koV t k.1)):=by
 have m:noRefs (coC k)=true:=by simp only[coC,noRefs,noRef,SU.Qa3];rfl
 refine Zcv 64 (Ok TQ.s264) rfl (by rw[noRefs,noRefs,Qab,noRef,m];rfl) rfl ?_;have q:=SU.Qdr k.1;have l:=Ql1 p fun x c=>(hc x c).2;show wS _ _ _ _ _ (argT 0 [.agg [.str [107],tes k.1,.int .i64 k.2],ZN t]) _ _;unfold TQ.s264;refine Zc4 ?_;refine Qas 100 (fun i:Nat=>[(1,ZN t),(5,.int .i64 (koV t (k.1.take i))),(9,tes k.1),(10,.int .i64 k.1.length),(11,.int .i64 i)]) (fun _=>[]) (fun i=>i<=k.1.length) (fun i=>k.1.length-i) 0 0 160 (fun _:Unit=>[(5,.int .i64 (koV t k.1))]) (fun _=>[]) (fun _=>True) ?_ (Zaj _) ?_ ?_;·exact⟨[],rfl,ZcA,ZcD,ZcC (Zcs (Qab _)) (ZcC (Zcs rfl) (ZcC (Zcs (SU.QcO _)) au20))⟩
 ·rintro i hi;by_cases a:i<k.1.length
  ·obtain⟨x,c⟩:=Qak a;obtain⟨h1,v⟩:=hc x (Zaa c);obtain⟨y,h⟩:=Qak h1;have s:=p y (Zaa h);have o:t.getD x.1 0=y:=by rw[Zah,h];rfl
   have d:=SU.QdU c;have g:2<=((k.1.flatMap teC).drop (i*2)).length:=by rw[d];simp
   have b:=QnW (t:=t) c;rw[o]at b;have hp:=Ql0 v (b:=(y:Int)) ⟨by omega,by omega⟩;have u:=l i hi;have n:wr .i64 (x.2*(y:Int))=x.2*(y:Int):=QgE (by omega) (by omega);have f:wr .i64 (koV t (k.1.take i)+x.2*(y:Int))=koV t (k.1.take i)+x.2*(y:Int):=QgE (by omega) (by omega);refine Zc5 (Zdd a d g h1 (QaI h) n f) ?_;refine⟨i+1,by omega,by omega,?_⟩;rw[b];exact⟨[],rfl,ZcA,ZcD,ZcC (Zcs (Qab _)) (ZcC (Zcs rfl) (ZcC (Zcs (SU.QcO _)) au20))⟩
  have e:i=k.1.length:=by omega
  subst e;refine Zc1 a ?_;exact⟨(),⟨[],rfl,au0,au27,au20⟩⟩
 rintro _ _;refine Zc4 ?_;exact⟨.inr trivial,_,rfl,rfl⟩
def koQ(t:List Nat)(k:List (Nat×Int)×Int):Bool:=decide (k.2<koV t k.1)
theorem excd235(t:List Nat)(k:List (Nat×Int)×Int)(hk:k.1.length<=1000)(c:∀x∈t,x<3)(hc:∀x∈k.1,x.1<t.length/\-4<x.2/\x.2<4):Ps 263 [ZN t,.fptr (coC k)] (.bool (koQ t k)):=by
 have a:noRefs (coC k)=true:=by simp only[coC,noRefs,noRef,SU.Qa3];rfl
 refine Zcv 64 (Ok TQ.s263) rfl (by rw[noRefs,noRefs,Qab,noRef,a];rfl) rfl ?_;have b:=value236 t k hk c hc;show wS _ _ _ _ _ (argT 0 [ZN t,.fptr [.str [107],tes k.1,.int .i64 k.2]]) _ _;unfold koQ;unfold TQ.s263;refine Zc4 ?_;refine cp b ?_;refine Zc4 ?_;exact⟨.inr trivial,_,rfl,rfl⟩
def cdF:(Nat×List (Nat×Nat))⊕(List (Nat×Int)×Int)->AV|.inl x=>.fn 260 [] [.fptr (exC x)]|.inr k=>.fn 263 [] [.fptr (coC k)]
def cdQ(t:List Nat):(Nat×List (Nat×Nat))⊕(List (Nat×Int)×Int)->Bool|.inl x=>exQ t x|.inr k=>koQ t k
def cdA(xs:List (Nat×List (Nat×Nat)))(ks:List (List (Nat×Int)×Int)):List ((Nat×List (Nat×Nat))⊕(List (Nat×Int)×Int)):=xs.map .inl++ks.map .inr
abbrev cdL(l:List ((Nat×List (Nat×Nat))⊕(List (Nat×Int)×Int))):AV:=.fsl (l.map cdF) l.length 1
theorem QbS(x):noRef (cdF x)=true:=by cases x with|inl x=>simp only[cdF,exC,noRef,noRefs,SU.QbA];rfl|inr k=>simp only[cdF,coC,noRef,noRefs,SU.Qa3];rfl
theorem Qdj(l):noRef (cdL l)=true:=by rw[cdL,noRef];exact Qax QbS _
theorem Qvn{l:List ((Nat×List (Nat×Nat))⊕(List (Nat×Int)×Int))}(h:l[i]?=some x):((l.map cdF).drop i).head?=some (cdF x):=by rw[ZbC,ZaA,h];rfl
theorem index203(q:((Nat×List (Nat×Nat))⊕(List (Nat×Int)×Int))->Bool)(l)(s:l.length<=1000000)(hc:noRefs cap=true)(hk:∀x∈l,Ps K (cdF x::cap) (.bool (q x))):Ps 218 [cdL l,.fn K [] cap] (.int .i64 (idxQ q l)):=by
 refine Zcv 64 (Ok TQ.s218) rfl (by rw[noRefs,noRefs,QbR hc,(Qdj _)];rfl) rfl ?_;have c:=QbR (K:=K) hc;have n:=(show(l.map cdF).length=l.length*1 by simp);unfold TQ.s218;refine Zc4 ?_;refine QaC 100 (fun i:Nat=>[(0,cdL l),(1,.fn K [] cap),(7,.int .i64 l.length),(8,.int .i64 i)]) (fun _=>[]) (fun i=>i<=l.length/\∀(j:Nat)y,j<i->l[j]?=some y->q y=false) (fun i=>l.length-i) 0 ?_ ⟨Zaj _,fun j y k=>absurd k (Zay _)⟩ ?_;·exact⟨[],rfl,ZcA,ZcD,ZcC (Zcs (Qdj _)) (ZcC (Zcs c) (ZcC (Zcs rfl) (ZcC (Zcs rfl) ZcB)))⟩
 rintro i⟨hi,m⟩;by_cases a:i<l.length
 ·obtain⟨x,b⟩:=Qak a;have h:=hk x (Zaa b);have d:=Qvn b;have f:1<=(List.drop (i*1) (l.map cdF)).length:=by rw[ZaR,n];omega
  cases g:q x
  ·rw[g]at h;refine Zc7 (Zdd a d f @Zbs @Qac @Qad @Qae) ?_;refine⟨_,by simpa using h,?_⟩;refine Zc4 ?_;refine⟨i+1,by omega,⟨by omega,fun j y k o=>?_⟩,?_⟩
   ·by_cases e:j=i;·subst e;rw[b]at o;cases o;exact g
    exact m j y (by omega) o
   exact⟨[],rfl,ZcA,ZcD,ZcC (Zcs (Qdj _)) (ZcC (Zcs c) (ZcC (Zcs rfl) (ZcC (Zcs rfl) ZcB)))⟩
  exact bQgSf
 exact bLYPF
structure TOk(S:List Nat)(t:List Nat)(xs:List (Nat×List (Nat×Nat)))(ks:List (List (Nat×Int)×Int)):Prop where
 ln:t.length=S.length
 l3:t.length<=1000
 t3:∀k∈ks,∀x∈t,x<3
 lt:∀(i:Nat)x n,t[i]?=some x->S[i]?=some n->x<n
 xl:∀x∈xs,x.2.length<=1000/\∀l∈x.2,l.1<t.length
 kl:∀k∈ks,k.1.length<=1000/\∀x∈k.1,x.1<t.length/\-4<x.2/\x.2<4
 xn:xs.length<=1000
 kn:ks.length<=1000
variable{S t:List Nat}{xs:List (Nat×List (Nat×Nat))}{ks:List (List (Nat×Int)×Int)}
theorem call204(h:TOk S t xs ks)(a:x∈cdA xs ks):Ps 219 [cdF x,.fptr [ZN t]] (.bool (cdQ t x)):=by
 refine Zcv 64 (Ok TQ.s219) rfl (by rw[noRefs,QbS,noRefs];simp only[noRefs,noRef,Qaa];rfl) rfl ?_;unfold cdA at a;rcases ZaE.1 a with a|a;·obtain⟨y,b,rfl⟩:=Zaq.1 a;have hc:=excl233 t y (h.xl y b).1 (h.xl y b).2;simp(disch:=first|omega|exact PairsOK.mk rfl|(simp only[lenW]<;>omega))only[TQ.s219,cdF,Qac,Qad,Qae,wW,wV,simprocAttr];refine⟨_,by simpa using hc,?_⟩;refine Zc4 ?_;exact⟨.inr trivial,_,rfl,rfl⟩
 obtain⟨y,b,rfl⟩:=Zaq.1 a;have hc:=excd235 t y (h.kl y b).1 (h.t3 y b) (h.kl y b).2;simp(disch:=first|omega|exact PairsOK.mk rfl|(simp only[lenW]<;>omega))only[TQ.s219,cdF,Qac,Qad,Qae,wW,wV,simprocAttr];refine⟨_,by simpa using hc,?_⟩;refine Zc4 ?_;exact⟨.inr trivial,_,rfl,rfl⟩
theorem Qey:(cdA xs ks).length=xs.length+ks.length:=by simp[cdA]
theorem violated158(h:TOk S t xs ks):Ps 171 [cdL (cdA xs ks),ZN t] (.int .i64 (idxQ (cdQ t) (cdA xs ks))):=by have a:=Qdj (cdA xs ks);refine Zcv 64 (Ok TQ.s171) rfl (by rw[noRefs,a,noRefs,Qab];rfl) rfl ?_;have b:=index203 (K:=219) (cap:=[.fptr [ZN t]]) (cdQ t) (cdA xs ks) (by rw[Qey];have:=h.xn;have:=h.kn;omega) (by simp only[noRefs,noRef,Qaa];rfl) fun x c=>call204 h c;generalize cdA xs ks=l at*;unfold TQ.s171;refine Zc4 ?_;refine SU.chc (ZcQ (ZcT (Zcy _) (ZcT (FrzTo.fn ZcS (ZcT (ZcP (g:=0) (cs:=[ZN t]) gg (Zcz _)) ZcS)) ZcS)) b rfl) ?_;refine Zc4 ?_;exact⟨.inr trivial,_,rfl,rfl⟩
theorem mk205(x):Ps 220 [.agg (exC x)] (cdF (.inl x)):=by
 have a:noRefs (exC x)=true:=by simp only[exC,noRefs,noRef,SU.QbA];rfl
 refine Zcu 64 (Ok TQ.s220) rfl (by rw[noRefs,noRef,a];rfl) (QbS _) ?_;show wS _ _ _ _ _ (argT 0 [.agg [.str [101,UInt8.ofNat (48+x.1)],los x.2]]) _ _;unfold TQ.s220;exact bOMkH
theorem mk206(k):Ps 221 [.agg (coC k)] (cdF (.inr k)):=by
 have a:noRefs (coC k)=true:=by simp only[coC,noRefs,noRef,SU.Qa3];rfl
 refine Zcu 64 (Ok TQ.s221) rfl (by rw[noRefs,noRef,a];rfl) (QbS _) ?_;show wS _ _ _ _ _ (argT 0 [.agg [.str [107],tes k.1,.int .i64 k.2]]) _ _;unfold TQ.s221;exact bOMkH
theorem Ql2(x):(cdF x).cells=[cdF x]:=by cases x<;>rfl
theorem QpR(x):(cdF x).one=true:=by cases x<;>rfl
theorem QpS(x):(cdF x).boxable=true:=by cases x<;>rfl
theorem conds159(m:xs.length<=1000)(hk:ks.length<=1000):Ps 172 [cdV S xs ks] (cdL (cdA xs ks)):=by
 have b:=@Qce S xs ks;refine Zcu 64 (Ok TQ.s172) rfl (by rw[noRefs,noRef,b];rfl) (Qdj _) ?_;have o:=SU.QeX xs;have n:=Qg4 ks;show wS _ _ _ _ _ (argT 0 [.agg [ZN S,exs xs,cos ks]]) _ _;unfold TQ.s172;refine Zc4 ?_;refine Qas 100 (fun i:Nat=>[(1,.ptr 51 0 0),(3,.sl 60 0 0 i 1),(9,exs xs),(10,.int .i64 xs.length),(11,.int .i64 i)]) (fun i=>[(51,.cells 0 [ZN S,exs xs,cos ks]),(60,.cells 0 ((cdA (xs.take i) []).map cdF))]) (fun i=>i<=xs.length) (fun i=>xs.length-i) 0 0 160 (fun _:Unit=>[(1,.ptr 51 0 0),(3,.sl 60 0 0 xs.length 1)]) (fun _=>[(51,.cells 0 [ZN S,exs xs,cos ks]),(60,.cells 0 ((cdA xs []).map cdF))]) (fun _=>True) ⟨[(51,.blk 64 0),(60,.nil)],rfl,au0,?_,au20⟩ (Zaj _) ?_ ?_;·exact ZcE rfl rfl gg (Zct b) (ZcF rfl rfl ZcD)
 ·rintro i hi;by_cases a:i<xs.length
  ·obtain⟨x,m⟩:=Qak a;have d:=Qkp m;have g:2<=((xs.flatMap exC).drop (i*2)).length:=by rw[d];simp
   have h:((cdA (xs.take i) []).map cdF).length=i:=by rw[Zax,Qey,Zap];simp;omega
   have hm:=mk205 x;have hc:=Ql2 (.inl x);have ho:=QpR (.inl x);have l:=QpS (.inl x);have f:(cdA (xs.take (i+1)) []).map cdF=(cdA (xs.take i) []).map cdF++[cdF (.inl x)]:=by rw[take_succ' m];simp[cdA]
   have c:=QbS (.inl x);generalize cdF (.inl x)=F at*;refine Zc5 (Zc9 a d g) ?_;refine cp hm ?_;refine Zc5 (Zdb hc ho l h c) ?_;refine⟨i+1,by omega,by omega,?_⟩;rw[f];refine⟨[(51,.blk 51 0),(60,.blk 60 1)],rfl,au0,?_,au20⟩;exact ZcE rfl rfl gg (Zct b) (ZcE rfl rfl gg (Zct (SU.Qav (Qax QbS _) (by rw[noRefs,c];rfl))) ZcD)
  have e:i=xs.length:=by omega
  subst e;refine Zc1 a ?_;refine⟨(),?_⟩;refine⟨[(51,.blk 51 0),(60,.blk 60 0)],rfl,au0,?_,au20⟩;exact ZcE rfl rfl gg (Zct b) (ZcE rfl rfl gg (Zct (Qax QbS _)) ZcD)
 rintro _ _;refine Zc4 ?_;refine Qas 200 (fun i:Nat=>[(3,.sl 60 0 0 (xs.length+i) 1),(22,cos ks),(23,.int .i64 ks.length),(24,.int .i64 i)]) (fun i=>[(60,.cells 0 ((cdA xs (ks.take i)).map cdF))]) (fun i=>i<=ks.length) (fun i=>ks.length-i) 0 2 260 (fun _:Unit=>[(3,cdL (cdA xs ks))]) (fun _=>[]) (fun _=>True) ⟨[(60,.blk 60 0)],rfl,au0,?_,au20⟩ (Zaj _) ?_ ?_;·exact ZcE rfl rfl gg (Zct (Qax QbS _)) ZcD
 ·rintro i hi;by_cases a:i<ks.length
  ·obtain⟨k,hk⟩:=Qak a;have d:=Qkq hk;have g:3<=((ks.flatMap coC).drop (i*3)).length:=by rw[d];simp
   have h:((cdA xs (ks.take i)).map cdF).length=xs.length+i:=by rw[Zax,Qey,Zap];omega
   have hm:=mk206 k;have hc:=Ql2 (.inr k);have ho:=QpR (.inr k);have l:=QpS (.inr k);have f:(cdA xs (ks.take (i+1))).map cdF=(cdA xs (ks.take i)).map cdF++[cdF (.inr k)]:=by rw[take_succ' hk];simp[cdA]
   have c:=QbS (.inr k);generalize cdF (.inr k)=F at*;refine Zc5 (Zc9 a d g) ?_;refine cp hm ?_;refine Zc5 (Zdb hc ho l h c) ?_;refine⟨i+1,by omega,by omega,?_⟩;rw[f];refine⟨[(60,.blk 60 1)],rfl,au0,?_,au20⟩;exact ZcE rfl rfl gg (Zct (SU.Qav (Qax QbS _) (by rw[noRefs,c];rfl))) ZcD
  have e:i=ks.length:=by omega
  subst e;refine Zc1 a ?_;exact⟨(),[],rfl,ZcA,ZcD,ZcC (ZcL (b:=60) (g:=0) gg rfl rfl Qey (by rw[Zax,Qey];simp) (Zct (Qax QbS _))) ZcB⟩
 rintro _ _;refine Zc4 ?_;exact⟨.inr trivial,_,rfl,Zcs (Qdj _)⟩
end Go.AM.SO
namespace Go.AM.SO
open Go.Proofs Go.AM.SD Go.AM.SE
variable{S t:List Nat}{xs:List (Nat×List (Nat×Nat))}{ks:List (List (Nat×Int)×Int)}
variable{c:Cel}
theorem checkT202(h:TOk S t xs ks):Ps 217 [cdV S xs ks,ZN t] (.int .i64 0):=by
 have a:=@Qce S xs ks;refine Zcv 64 (Ok TQ.s217) rfl (by rw[noRefs,noRef,a,noRefs,Qab];rfl) rfl ?_;have l:=h.l3;have c:(t.length=S.length)=True:=eq_true h.ln;have f:((t.length:Int)=(S.length:Int))=True:=eq_true (by rw[h.ln]);show wS _ _ _ _ _ (argT 0 [.agg [ZN S,exs xs,cos ks],ZN t]) _ _;unfold TQ.s217;refine Zc5 (Zc8 c f) ?_;refine Qas 100 (fun i:Nat=>[(2,.ptr 51 0 0),(13,ZN t),(14,.int .i64 t.length),(15,.int .i64 i)]) (fun _=>[(51,.cells 0 [ZN S,exs xs,cos ks])]) (fun i=>i<=t.length) (fun i=>t.length-i) 0 0 160 (fun _:Unit=>[]) (fun _=>[]) (fun _=>True) ?_ (Zaj _) ?_ ?_;·refine⟨[(51,.blk 64 0)],rfl,au0,?_,au20⟩;exact ZcE rfl rfl gg (Zct a) ZcD
 ·rintro i hi;by_cases b:i<t.length
  ·obtain⟨x,g⟩:=Qak b;obtain⟨n,k⟩:=Qak (l:=S) (i:=i) (by rw[<-h.ln];exact b);have d:i<S.length:=by rw[<-h.ln];exact b
   have m:=h.lt i x n g k;have g1:¬(x:Int)<0:=by omega
   have g2:¬(n:Int)<=(x:Int):=by omega
   refine Zc5 (Zdc b d (QaI g) (QaI k) g1 g2) ?_;refine⟨i+1,by omega,by omega,?_⟩;refine⟨[(51,.blk 51 0)],rfl,au0,?_,au20⟩;exact ZcE rfl rfl gg (Zct a) ZcD
  refine Zc5 b ?_;exact⟨(),⟨[],rfl,au0,au27,au20⟩⟩
 rintro _ _;refine Zc4 ?_;exact⟨.inr trivial,_,rfl,rfl⟩
theorem QsD(h:WfCel c)(m:InT (auL c.cs) t):TOk (szs c) t c.xs c.ks:=by
 have f:t.length=c.cs.length:=by rw[m.1,Qbl]
 have s:=h.c3;have a:=h.x2;have hk:=h.k1;refine⟨by rw[f,h.slen],by omega,fun _ _ x a=>m.lt (Qbt h) a,fun i x n hi d=>?_,fun x a=>⟨by have:=h.xlen a;omega,fun l o=>?_⟩,fun k hk=>⟨by have:=h.klen hk;omega,fun x a=>?_⟩,by omega,by omega⟩
 ·have g:i<c.cs.length:=by rw[<-f];exact(Zaf.1 hi).1
  obtain⟨y,b⟩:=Qak g;have h1:=m.2 i y.2 (by rw[ZaA,b];rfl);rw[Zah,hi]at h1;unfold szs at d;rw[ZaA,b]at d;simp only[ZbK,Zab]at d;subst d;simpa using h1
 ·obtain⟨y,b,_⟩:=(h.xl x a).2.2 l o;rw[f];exact(Zaf.1 b).1
 obtain⟨h1,_,q,p⟩:=(h.kl k hk).2.2.1 x a;exact⟨by rw[f];exact h1,q,p⟩
theorem checkT157(c)(h:WfCel c)(d:InT (auL c.cs) t):Ps 170 [cdV (szs c) c.xs c.ks,ZN t] (.int .i64 0):=by have a:=@Qce (szs c) c.xs c.ks;refine Zcv 64 (Ok TQ.s170) rfl (by rw[noRefs,noRef,a,noRefs,Qab];rfl) rfl ?_;have h1:=conds32 c h;have b:=checkT202 (QsD h d);show wS _ _ _ _ _ (argT 0 [.agg [ZN (szs c),exs c.xs,cos c.ks],ZN t]) _ _;unfold TQ.s170;refine Zc4 ?_;refine cp h1 ?_;refine Zc4 ?_;refine cp b ?_;refine Zc4 ?_;exact⟨.inr trivial,_,rfl,rfl⟩
theorem QiO{α}{q}{A:List α}:-1<=idxQ q A/\(0<=idxQ q A->idxQ q A<A.length):=by
 unfold idxQ;by_cases a:A.any q=true;·rw[if_pos a];have:A.findIdx q<A.length:=Zbt (by simpa using a);exact⟨by omega,fun _=>by omega⟩
 rw[if_neg a];exact⟨by omega,fun h=>by omega⟩
def vioV(t:List Nat)(xs:List (Nat×List (Nat×Nat)))(ks:List (List (Nat×Int)×Int)):Int×Int×Bool:=if idxQ (cdQ t) (cdA xs ks)<0 then(0,0,false)else if idxQ (cdQ t) (cdA xs ks)<xs.length then(1,idxQ (cdQ t) (cdA xs ks),true)else(2,idxQ (cdQ t) (cdA xs ks)-xs.length,true)
theorem violated73(c)(h:WfCel c)(g:InT (auL c.cs) t):Ps 116 [cdV (szs c) c.xs c.ks,ZN t] (.tup [.int .i64 (vioV t c.xs c.ks).1,.int .i64 (vioV t c.xs c.ks).2.1,.bool (vioV t c.xs c.ks).2.2,.int .i64 0]):=by
 have b:=@Qce (szs c) c.xs c.ks;refine Zcv 64 (Ok TQ.s116) rfl (by rw[noRefs,noRef,b,noRefs,Qab];rfl) rfl ?_;have h1:=checkT157 c h g;have ho:=QsD h g;have i:=conds159 (S:=szs c) ho.xn ho.kn;have m:=violated158 ho;have hle:=@QiO _ (cdQ t) (cdA c.xs c.ks);have k:=h.x2;have l:=h.k1;rw[Qey]at hle;unfold vioV;generalize idxQ (cdQ t) (cdA c.xs c.ks)=a at*;show wS _ _ _ _ _ (argT 0 [.agg [ZN (szs c),exs c.xs,cos c.ks],ZN t]) _ _;unfold TQ.s116;refine Zc4 ?_;refine cp h1 ?_;refine Zc4 ?_;refine cp i ?_;refine Zc4 ?_;refine cp m ?_;by_cases d:a<0;·refine Zc5 d ?_;exact⟨.inr trivial,_,rfl,rfl⟩
 by_cases f:a<c.xs.length;·refine Zc5 (Zc8 d f) ?_;exact⟨.inr trivial,_,rfl,rfl⟩
 have hw:wr .i64 (a-(c.xs.length:Int))=a-(c.xs.length:Int):=QgE (by omega) (by omega);refine Zc5 (Zc9 d f hw) ?_;exact⟨.inr trivial,_,rfl,rfl⟩
end Go.AM.SO
namespace Go.AM.TR
open Go.Proofs
set_option maxHeartbeats 4000000
noncomputable section
def cf:YA.Cf:={most:=.pure,always:=[100,101].map fun k=>(k,.heap)}
def s113:SFn:=by
 refine(?f:YA.Yt Tryz.prog cf 113 [[0,2,3],[8,9,10],[5],[12,13,14,15,11,16,17,18,19,20,21,22],[23],[1,4,5,24,25],[2,3,24,27,28,29,30,31,32,33,34,35,36,26,37,38,39,40,41,42,43],[44],[1,4,5,45,46],[2,3,1,5,45,47,48,49,50,51,52,53,54,55],[56,57,58],[],[62,63,64,65],[6,7,66,67,68,69,70,71,72],[73],[4,59,60,61,74]] [(9,[(4,6)])]) ?s ?h;case h=>exact YA.rr
 exact fun s _=>s
def s173:SFn:=by
 refine(?f:YA.Yt Tryz.prog cf 173 [[2,11,12,13,14,15,16,10,17,18,6],[5],[],[22,23,24],[25,26,27,28],[8,9,29,30,31],[37,38]]) ?s ?h;case h=>exact YA.rr
 exact fun s _=>s
end
end Go.AM.TR
namespace Go.AM
variable{P:Program}
variable{v:AV}{h:Heap}{ds:List AV}{w:World}
theorem HRel.give{ok}{c:Ctx ok}(H:HRel c h w){b g len sz}(F:h.get b=some (.cells g ds))(Q:noRefs ds=true)(T:ds.length=len*sz)(G:Nat.blt b 1099511627775=true):∃c2,Evo c w c2 w/\HRel c2 (h.set b (.dead g)) w/\(∀v,VRel c w (.sl b g 0 len sz) v->VRel c2 w (.fsl ds len sz) v)/\∀x v,noRef x=true->VRel c w x v->VRel c2 w x v:=by
 have l:b<1099511627775:=by simp_all
 have a:Live h b g:=⟨_,F,rfl,fun _=>by simp⟩;let c2:Ctx ok:={c with F:=fun k=>c.F k\/∃base,c.ρ b g=some (.loc k base),O:=fun k=>c.O k/\¬∃base,c.ρ b g=some (.loc k base)};have d:∀k,(h.set b (.dead g)).get k=if k=b then some (.dead g)else h.get k:=fun k=>by
  by_cases e:k=b;·subst e;rw[QaA l,if_pos rfl]
  simp_all[QaH]
 have t:∀k y,Live (h.set b (.dead g)) k y->k≠b/\Live h k y:=by
  rintro k y⟨x,hk,hg,B⟩;rw[d]at hk;split at hk;·grind
  rename_i e;exact⟨e,x,hk,hg,B⟩
 have E:=Evo.refl c w;have E2:Evo c w c2 w:=⟨E.os,E.tape,E.output,E.size,E.shape,E.keep,E.rho,fun k hk=>.inl (E.frz k hk),fun k hk=>by
  rcases hk with hk|⟨base,hk⟩;·simp_all
  exact .inr (.inl (H.owned a hk)),fun k hk=>E.own k hk.1,E.base⟩;refine⟨c2,E2,⟨fun k hk y=>?_,fun k x hk y p=>?_,fun k x hk=>?_,fun k y L U u base i l1 J p1 X=>H.inj k y L U u base i (t _ _ l1).2 (t _ _ J).2 p1 X,fun k f hO=>?_,fun k f=>?_,fun k hO=>H.inO k hO.1⟩,fun v V=>?_,fun x v O Y=>Zcp (c:=c) (c':=c2) (fun _ h=>.inl h) _ _ O Y⟩
 ·rw[d]at hk;split at hk;·cases hk
  exact H.fresh k hk y
 ·rw[d]at hk;split at hk;·rename_i e;subst e;cases hk;exact H.later k _ F y p
  exact H.later k x hk y p
 ·rw[d]at hk;split at hk;·cases hk;trivial
  rename_i e;refine Zco (c:=c) (c':=c2) (w:=w) (w':=w) ⟨fun _ _ _ h=>h,fun _ h=>.inl h,fun _ _ _ h=>h,fun _ C _ I h=>⟨C,I,h,rfl⟩⟩ (fun u base B hp=>?_) (H.blk k x hk);have n:Live h k x.gen:=⟨x,hk,rfl,B⟩;exact⟨⟨H.owned n hp,fun⟨i,z⟩=>e (H.inj _ _ _ _ _ _ _ n a hp z)⟩,rfl⟩
 ·rcases f with f|f;·exact H.disj k f hO.1
  grind
 ·rcases f with f|⟨base,f⟩;·exact H.inF k f
  exact H.inO k (H.owned a f)
 simp only[VRel]at V;rcases V with⟨hp,rfl,_,rfl⟩|⟨u,base,o,cap,C,e,I,hp,rfl,M,Z,s⟩;·simp_all[VRel]
 obtain⟨C',e',N,hO,q,P,R,m⟩:=H.here F hp;rw[Z]at q;cases q;have f:c2.F u:=.inr ⟨base,hp⟩;by_cases S:cap=0
 ·have A:len=0:=by omega
  subst A;have:ds=[]:=Zb2 (by rw[T];simp);subst this;simp only[VRel];simp_all
 obtain⟨rfl,hbd⟩:=s.resolve_left S;have K:=VPre.noRef2 (c:=c) (c':=c2) (fun _ h=>.inl h) Q m;simp only[VRel];grind
theorem HSpec.give1{f b g len sz}(S:PSpec P f [.fsl ds len sz] v)(k:h.get b=some (.cells g ds))(o:noRefs ds=true)(n:ds.length=len*sz)(d:Nat.blt b 1099511627775=true):HSpec P f [.sl b g 0 len sz] h v (h.set b (.dead g)):=by
 have m:=S;obtain⟨_,_,q,hc,_⟩:=S;refine⟨hc,fun c w a H s=>?_⟩;obtain⟨c2,E2,H2,V2,_⟩:=H.give k o n d;have i:VRels c2 w [.fsl ds len sz] a.toList:=by grind[VRels]
 refine((m.pure H2 i).2).mono ?_;rintro e t⟨l,p,rfl,E,H',V⟩;exact⟨l,p,rfl,E2.trans E,H',V⟩
end Go.AM
namespace Go.AM
variable{P:Program}
variable{C:Claims}{h:Heap}{u:List (Nat×Nat)}{fs:List Fr}{af dead:List Nat}{ag:List Opd}{ops:List SOper}{N:NM}{n z:Nat}{p:Nat×Nat}{x:Opd}{d:Option Nat}{Q:QC}{s:SOper}{T T0:Tmps}{K:Tmps->Heap->Nat->Prop}
def tight(i:Nat)(f:FP):Prop:=f.all=false/\∀b,b∈f.R\/b∈f.W->b∈[i]
def wpRS(P:Program)(z:Nat):Nat->List SOper->Tmps->Heap->(Tmps->Heap->Nat->Prop)->Prop|n,[],T,h,K=>K T h n|n,s::r,T,h,K=>∃v h1 f,StepV P n s T h v h1 f/\(n=z->tight n f)/\wpRS P z (n+1) r (putD T s.dst v) h1 K
theorem Ql3:∀{r:List SOper}{n:Nat}{T:Tmps}{h:Heap}{K:Tmps->Heap->Nat->Prop},z<n->wpR P n r T h K->wpRS P z n r T h K|[],n,T,h,K,_,hk=>hk|s::r,n,T,h,K,c,⟨v,h1,f,a,b⟩=>⟨v,h1,f,a,fun e=>by omega,Ql3 (by omega) b⟩
theorem Qvo:∀(k:Nat)(r:List SOper)(n:Nat)(T:Tmps)(h:Heap),r[k]?=some s->wpR P n (r.take k) T h (fun T1 h1 d=>∃v a f,StepV P d s T1 h1 v a f/\tight d f/\wpR P (d+1) (r.drop (k+1)) (putD T1 s.dst v) a K)->wpRS P (n+k) n r T h K:=by intro k;induction k with
 |zero=>intro r n T h e hw;cases r with|nil=>cases e|cons t r=>rw[Zbi,Zab]at e;subst e;rw[Zb5]at hw;simp only[wpR]at hw;obtain⟨v,a,f,b,c,g⟩:=hw;rw[Zbp,Za5]at g;exact⟨v,a,f,b,fun _=>c,Ql3 (by omega) g⟩
 |succ k i=>intro r n T h e hw;cases r with|nil=>cases e|cons t r=>rw[Zbc]at hw;simp only[wpR]at hw;obtain⟨v,h1,f,b,c⟩:=hw;refine⟨v,h1,f,b,fun e=>by omega,?_⟩;rw[show n+(k+1)=n+1+k by omega];exact i r (n+1) _ _ (by simpa using e) c
theorem QnX:∀{r:List SOper}{n:Nat}{T:Tmps}{h:Heap}{K:Tmps->Heap->Nat->Prop},wpRS P z n r T h K->∃T' h' n',K T' h' n'/\∀d,(∀s∈r,s.dst≠some d)->lk T' d=lk T d|[],n,T,h,K,hk=>⟨T,h,n,hk,fun _ _=>rfl⟩|s::r,n,T,h,K,⟨v,h1,f,c,_,a⟩=>by obtain⟨T',h',n',hk,he⟩:=QnX a;refine⟨T',h',n',hk,fun d b=>?_⟩;simp_all[QbJ]
def touch3(z i:Nat)(ax:Opd->Option (List Nat))(s:SOp):Option (List Nat):=bif Nat.beq i z then some [i]else touch2 i ax s
def touchesN(z:Nat)(C:Claims)(n:Nat)(T:Tmps):List SOper->Abs->List (Option (List Nat))|[],_=>[]|s::r,A=>touch3 z n (absO T A) s.op::touchesN z C (n+1) T r (match s.dst with|some d=>(d,absH C d (s.op.absV n (absO T A)))::A|none=>A)
theorem QnY:∀{r:List SOper}{n:Nat}{A:Abs}{T:Tmps}{h:Heap}{K:Tmps->Heap->Nat->Prop}(hA:AbsOK T0 A T)(K':List FP->Tmps->Heap->Nat->Prop)(l:∀T h n,K T h n->∀d bs,clm C d=some bs->Pts (lk T d) bs)(a:ssa C r=true),(∀fs T h n',fs.length=r.length->(∀(j:Nat)i,(touchesN z C n T0 r A).getD j none=some i->(fs.getD j ⟨false,[],[]⟩).all=false/\∀b,b∈(fs.getD j ⟨false,[],[]⟩).R\/b∈(fs.getD j ⟨false,[],[]⟩).W->b∈i)->K T h n'->K' fs T h n')->wpRS P z n r T h K->wpRF P n r T h K'
 |[],n,A,T,h,K,hA,K',l,a,p,hw=>p [] T h n rfl (fun j i c=>by simp_all) hw|s::r,n,A,T,h,K,hA,K',l,a,p,hw=>by
  obtain⟨v,h1,f,t,B,u⟩:=hw;simp only[ssa,Zac]at a;obtain⟨g,m⟩:=a;refine⟨v,h1,f,t,?_⟩;have q:AbsOK T0 (match s.dst with|some d=>(d,absH C d (s.op.absV n (absO T0 A)))::A|none=>A) (putD T s.dst v):=by cases e:s.dst with|none=>exact hA|some d=>
   refine AbsOK.up hA fun bs k=>?_;unfold absH at k;split at k
   ·rename_i x hc;cases k;obtain⟨T',E,n',hk,he⟩:=QnX u;have w:=l T' E n' hk d _ hc;rw[he d ?_,QbJ,if_pos e]at w;·exact w
    intro F o;rw[e]at g;simp only[hc,Option.isNone_some,Bool.false_or,ZaH]at g;have:=g F o;intro G;simp_all
   exact Qej hA.opd k t
  refine QnY q (fun fs T h n=>K' (f::fs) T h n) l m (fun fs T h n' y hf hk=>?_) u;refine p (f::fs) T h n' (by simp[y]) (fun j i c=>?_) hk;cases j with
  |zero=>simp only[touchesN,List.getD_cons_zero]at c⊢;unfold touch3 at c;cases e:Nat.beq n z with|true=>rw[e]at c;simp only[cond_true,Zab]at c;subst c;exact B (by simpa using e)|false=>rw[e]at c;exact QeV hA.opd c t
  |succ j=>simp only[touchesN,List.getD_cons_succ]at c⊢;exact hf j i c
def NewAt(P:Program)(N:NM)(x:Opd)(ag:List Opd)(d:Option Nat)(r:List SOper)(n:Nat)(T:Tmps)(h:Heap)(Q:QC):Prop:=∃f a len sz,ev T x=.fn f [] []/\NSpec P f (evs T ag) a len sz/\noRefs a=true/\n<lim/\h.get n=none/\wR P N r [] [] (n+1) (putD T d (.sl n 0 0 len sz)) (h.set n (.cells 0 a)) Q
theorem QqL(C)(k)(hk:ops[k]?=some ⟨d,.call .heap x ag,af,none⟩)(i:ssa C ops=true)(hp:pairsOK (touchesN (n+k) C n T ops []) (p::u)=true)(hw:wR P N (ops.take k) [] [] n T h fun e T h n=>NewAt P N x ag d (ops.drop (k+1)) n T h fun e T h n=>Clms T C/\wX P N .normal fs n (rm T dead) h Q):wS P N (.region ops (p::u) dead) fs n T h Q:=by
 have rm0:∀T:Tmps,rm T []=T:=by intro T;induction T with|nil=>rfl|cons p T m=>obtain⟨j,v⟩:=p;simp[rm,m]
 refine QnY (C:=C) (z:=n+k) (K:=fun T h n=>Clms T C/\wX P N .normal fs n (rm T dead) h Q) AbsOK.nil _ (fun T h n hk d w hc=>hk.1.get d w hc) i (fun M T h U V hf hk=>⟨?_,hk.2⟩) ?_
 ·rw[ZaH];intro q B;have:=ZaH.1 hp q B;split at this
  ·rename_i a b E o;obtain⟨f1,f2⟩:=hf _ _ E;obtain⟨g1,g2⟩:=hf _ _ o;have R:∀x y,x∈a->y∈b->x≠y:=by grind
   have S:∀xs g:List Nat,(∀x∈xs,∀y∈g,x≠y)->disj xs g=true:=by intro xs g t;unfold disj;grind
   grind[FP.apart]
  cases this
 refine Qvo k ops n T h hk ?_;have l:wpR P n (ops.take k) T h fun T h n=>NewAt P N x ag d (ops.drop (k+1)) n (rm T []) h fun e T h n=>Clms T C/\wX P N .normal fs n (rm T dead) h Q:=hw;simp only[rm0]at l;have mono:∀{r:List SOper}{n:Nat}{T:Tmps}{h:Heap}{K K':Tmps->Heap->Nat->Prop},(∀T h n,K T h n->K' T h n)->wpR P n r T h K->wpR P n r T h K':=by intro r;induction r with|nil=>intro n T h K K' hi hw;exact hi _ _ _ hw|cons s r m=>intro n T h K K' hi hw;obtain⟨v,h1,f,z,G⟩:=hw;exact⟨v,h1,f,z,m hi G⟩
 refine mono (fun T1 h1 c t=>?_) l;obtain⟨f,g,len,sz,O,H,J,L,I,F⟩:=t;refine⟨.sl c 0 0 len sz,h1.set c (.cells 0 g),⟨false,[c],[c]⟩,?_,⟨rfl,fun b o=>?_⟩,?_⟩;·refine⟨.call .heap f (evs T1 ag),h1,?_,.inr (.inr (.inl ⟨evs T1 ag,[],.inl ⟨rfl,rfl⟩,.inl ⟨g,len,sz,H,.inr ⟨J,rfl⟩,L,I,rfl,rfl,rfl⟩⟩))⟩;simp_all[aop,aCall,HM.run]
 ·simpa using o
 have A:wpR P (c+1) (ops.drop (k+1)) (putD T1 d (.sl c 0 0 len sz)) (h1.set c (.cells 0 g)) fun T h n=>Clms (rm T []) C/\wX P N .normal fs n (rm (rm T []) dead) h Q:=F;simp_all
end Go.AM
namespace Go.AM.SO
open Go.Proofs Go.AM.SD Go.AM.SE
variable{c:Cel}{x:Ed}{T:List (List Nat)}{l:List Aut}{t:List Nat}{a:Nat}{f:Nat->List Ed}{α:Type}{q:α->Bool}
theorem short25(p)(h:POk p)(c:p.xn<=9223372036854775807):Ps 9 [plnV p] (.bool (decide (p.xn<=4))):=by refine Zcv 64 (Ok s9) rfl (by simp only[noRefs,noRef,SU.Qem];rfl) rfl ?_;have hlen:=SU.Qkl h;have b:=SU.Qkm h;have a:(plnC p)[147]?=some (.fsl (u8s p.X) p.xn 4):=SU.Qfz h (k:=0);show wS _ _ _ _ _ (argT 0 [.agg (plnC p)]) _ _;generalize plnC p=C at*;have e:decide ((p.xn:Int)<=4)=decide (p.xn<=4):=decide_eq_decide.2 (by omega);unfold s9;refine Zc7 (Zda hlen b a e) ?_;exact⟨.inr trivial,_,rfl,rfl⟩
theorem QsE{l}{ev}:∀{k i:Nat}{s:List (List Nat)×List Ed},(pQ l ev k i s).2.length<=s.2.length+k*ev.length|0,_,s=>by simp[pQ]|k+1,i,s=>by unfold pQ;cases s.1[i]? with|none=>dsimp only;omega|some t=>have h1:=QsE (l:=l) (ev:=ev) (k:=k) (i:=i+1) (s:=pRow l ev i t s);have a:=Qe0 (l:=l) (i:=i) (t:=t) (ev:=ev) (s:=s);have b:(k+1)*ev.length=k*ev.length+ev.length:=Zbn ..;dsimp only;omega
theorem QgY(x):autB x x=true:=by simp[autB]
theorem QiP(h:∀a∈l,WfI a)(f:l.length<=5):AOk (syncA l)/\(Z0 l).1.length<=243/\∀t∈(Z0 l).1,t.length<=5:=by
 have hw:∀a∈l,∀e∈a.es,e.1<a.n/\e.2.2<a.n:=fun a c=>(h a c).wf.esn;have b:∀a∈l,0<a.n:=fun a c=>(h a c).pos;have d:box l<=243:=ZaC (Qsx (fun a c=>(h a c).n3) (by omega)) (Nat.pow_le_pow_right (n:=3) (by omega) f);have k:=QnS b hw;have i:=Qve h;have he:(Z0 l).2.length<=244*5:=by refine ZaC QsE ?_;have:=Nat.mul_le_mul (show box l+1<=244 by omega) i;simpa using this
 refine⟨⟨by show(evA l).length<=_;omega,?_,by show(Z0 l).2.length<=_;omega⟩,by omega,fun t g=>?_⟩;·have :=@QlY l (Z0 l).1 (Z0 l).1.length;show(marks l (Z0 l).1 (Z0 l).1.length).length<=_;omega
 have :=((QdY b hw).inT t g).1;omega
theorem Qvp:allK 115 1 []=true:=by kernel_rfl
theorem Qvq:allK 115 2 []=true:=by kernel_rfl
theorem Qvr:allK 115 3 []=true:=by kernel_rfl
theorem key72(h:WfCel c)(a:InT (auL c.cs) t):Ps 115 [ZN t] (.str (keyT t)):=by have f:=h.c0;have g:=h.c3;have d:=a.1;rw[Qbl]at d;refine QjO (QfE (u:=[]) ?_ fun x b=>a.lt (Qbt h) b);grind[Qvp,Qvq,Qvr]
def allA(c:Cel):List Aut:=auL c.cs++auL c.rs
theorem Qb9(h:WfCel c):∀a∈allA c,WfI a:=fun a b=>by
 unfold allA at b;rcases ZaE.1 b with b|b;·exact Qbt h a b
 obtain⟨x,d,rfl⟩:=Zaq.1 b;exact h.ra x d
theorem Qck:(allA c).length=c.cs.length+c.rs.length:=by simp[allA]
theorem Qt1:allK 162 3 [0]=true:=by kernel_rfl
theorem Qt2:allK 162 3 [1]=true:=by kernel_rfl
theorem Qt3:allK 162 3 [2]=true:=by kernel_rfl
theorem QsF:allK 162 3 [0,0]=true:=by kernel_rfl
theorem QsG:allK 162 3 [0,1]=true:=by kernel_rfl
theorem QsH:allK 162 3 [0,2]=true:=by kernel_rfl
theorem QsI:allK 162 3 [1,0]=true:=by kernel_rfl
theorem QsJ:allK 162 3 [1,1]=true:=by kernel_rfl
theorem QsK:allK 162 3 [1,2]=true:=by kernel_rfl
theorem QsL:allK 162 3 [2,0]=true:=by kernel_rfl
theorem QsM:allK 162 3 [2,1]=true:=by kernel_rfl
theorem QsN:allK 162 3 [2,2]=true:=by kernel_rfl
theorem key98w4(h:a<3):allK 162 3 [a]=true:=by
 obtain rfl|rfl|rfl:a=0\/a=1\/a=2:=by omega
 ·exact Qt1
 ·exact Qt2
 exact Qt3
theorem key98w5{b}(h:a<3)(c:b<3):allK 162 3 [a,b]=true:=by
 obtain rfl|rfl|rfl:a=0\/a=1\/a=2:=by omega
 ·obtain rfl|rfl|rfl:b=0\/b=1\/b=2:=by omega
  ·exact QsF
  ·exact QsG
  exact QsH
 ·obtain rfl|rfl|rfl:b=0\/b=1\/b=2:=by omega
  ·exact QsI
  ·exact QsJ
  exact QsK
 obtain rfl|rfl|rfl:b=0\/b=1\/b=2:=by omega
 ·exact QsL
 ·exact QsM
 exact QsN
theorem Qvs(h:WfCel c)(t)(l:InT (allA c) t):Ps 162 [ZN t] (.str (keyT t)):=by
 have o:=h.c0;have n:=h.c3;have m:=h.r2;have k:=l.1;have g:∀x∈t,x<3:=fun x g=>l.lt (Qb9 h) g;rw[Qck]at k;by_cases i:t.length<=3;·grind[key98]
 match t,k,g,i with|[_,_,_],_,_,i=>exact absurd (by simp) i|[a,b,d,e],k,g,_=>exact QjO (QfE (t:=[b,d,e]) (u:=[a]) (key98w4 (g a (by simp))) fun x h=>g x (by simp_all))|[a,b,d,e,f],k,g,_=>exact QjO (QfE (t:=[d,e,f]) (u:=[a,b]) (key98w5 (g a (by simp)) (g b (by simp))) fun x h=>g x (by simp_all))|[],_,_,i=>exact absurd (by simp) i|[_],_,_,i=>exact absurd (by simp) i|[_,_],_,_,i=>exact absurd (by simp) i|_::_::_::_::_::_::_,k,_,_=>simp at k;omega
theorem auto69H{ch}(l)(k:l.length<=1000):HSpec Tryz.prog 101 [its ch l] .e (.sl 60 0 0 l.length 4) (hp [(60,.cells 0 ((auL l).flatMap auC))]):=by
 refine ZcV 100 (Ok TP.s101) rfl ?_;have h:=@SU.QaJ ch l;unfold TP.s101;refine Zc4 ?_;refine Qas 100 (fun i:Nat=>[(3,.sl 60 0 0 i 4),(6,its ch l),(7,.int .i64 l.length),(8,.int .i64 i)]) (fun i=>[(60,.cells 0 ((auL (l.take i)).flatMap auC))]) (fun i=>i<=l.length) (fun i=>l.length-i) 0 0 160 (fun _:Unit=>[(3,.sl 60 0 0 l.length 4)]) (fun _=>[(60,.cells 0 ((auL l).flatMap auC))]) (fun _=>True) ?_ (Zaj _) ?_ ?_;·refine⟨[(60,.nil)],rfl,au0,?_,au26⟩;exact ZcF rfl rfl ZcD
 ·rintro i hi;by_cases a:i<l.length
  ·exact b1P8e
  have e:i=l.length:=by omega
  subst e;refine Zc1 a ?_;refine⟨(),?_⟩;refine⟨[(60,.blk 60 0)],rfl,au0,?_,au26⟩;exact ZcE rfl rfl gg (Zct (QaS _)) ZcD
 rintro _ _;refine Zc4 ?_;refine⟨.inr trivial,_,rfl,?_⟩;refine⟨[(60,.blk 60 0)],rfl,au0,?_,au26⟩;exact ZcE rfl rfl gg (Zct (QaS _)) ZcD
theorem Qt4(c)(h:WfCel c):Ps 100 [auts (allA c)] (.tup [aV (syncA (allA c)),tuV (Z0 (allA c)).1,.int .i64 0]):=by have d:=h.c0;have b:=h.c3;have a:=h.r2;exact sync28 (allA c) (Qb9 h) (by rw[Qck];omega) (by rw[Qck];omega) (Qvs h)
abbrev stG(c:Cel)(p q:Aut)(P T:List (List Nat)):List AV:=[evsV c.ev,its 99 c.cs,its 114 c.rs,exs c.xs,cos c.ks,ZN p.al,.int .i64 (p.n:Int),ZN p.ms,egsN p.es,tuV P,ZN q.al,.int .i64 (q.n:Int),ZN q.ms,egsN q.es,tuV T,ZN (szs c),exs c.xs,cos c.ks,fmapG keyC (ixV P) P]
def stC(c:Cel):List AV:=stG c (syncA (auL c.cs)) (syncA (allA c)) (Z0 (auL c.cs)).1 (Z0 (allA c)).1
abbrev stP(c:Cel)(p q:Aut)(P T:List (List Nat)):List AV:=[evsV c.ev,its 99 c.cs,its 114 c.rs,exs c.xs,cos c.ks,ZN p.al,.int .i64 (p.n:Int),ZN p.ms,egsN p.es,tuV P,ZN q.al,.int .i64 (q.n:Int),ZN q.ms,egsN q.es,tuV T,ZN (szs c),exs c.xs,cos c.ks]
theorem Qgd(c)(p q)(P T):noRefs (stP c p q P T)=true:=by have h1:=SU.QaY c;rw[celV,noRef]at h1;simp only[noRefs,Zac,Zad]at h1;obtain⟨a,a2,a3,a4,a5⟩:=h1;simp only[noRefs,a,a2,a3,a4,a5,Qab,Qaj,Qa8];rfl
theorem Qfc(c)(p q)(P T):noRefs (stG c p q P T)=true:=by have h1:=SU.QaY c;rw[celV,noRef]at h1;simp only[noRefs,Zac,Zad]at h1;obtain⟨a,a2,a3,a4,a5⟩:=h1;simp only[noRefs,a,a2,a3,a4,a5,Qab,Qaj,Qa8];rw[show noRef (fmapG keyC (ixV P) P)=true by rw[fmapG,noRef,Qax (fun _=>rfl),Qax (fun _=>rfl)];rfl];rfl
theorem open70(c)(h:WfCel c):Ps 113 [celV c] (.tup [.fptr (stC c),.int .i64 0]):=by
 have C:=Qbh c;have v:noRef (.tup [.fptr (stC c),.int .i64 0])=true:=by rw[noRef,noRefs,noRef,stC,Qfc];rfl
 refine Zcu 64 (Ok TR.s113) rfl (by rw[noRefs,SU.QaY];rfl) v ?_;have K:=h.c3;have A:=h.r2;have J:=plant17 c h;have hA:=auto69H (ch:=99) c.cs (by omega);have H:=automata101 (ch:=114) c.rs (by omega);have z:=Qt4 c h;have G:=conds85 c h;have b:=QdY (fun a m=>(Qbt h a m).pos) fun a m=>(Qbt h a m).wf.esn;have E:=QiP (Qbt h) (by rw[Qbl];omega);have k:=Qa8 (Z0 (auL c.cs)).1;have n:((auL c.cs).flatMap auC).length=c.cs.length*4:=by rw[Qg8,Qbl]
 have o:((auL c.rs).flatMap auC).length=c.rs.length*4:=by rw[Qg8,Qbl]
 have w:(auL c.rs).length=c.rs.length:=Qbl;have g:((auL c.rs).flatMap auC).all AV.one=true:=Qc7 (fun _=>rfl) _;have u:Ps 100 [.fsl ((auL c.cs).flatMap auC++(auL c.rs).flatMap auC) (c.cs.length+c.rs.length) 4] (.tup [aV (syncA (allA c)),tuV (Z0 (allA c)).1,.int .i64 0]):=by rw[<-Zao,<-Qck];exact z
 clear z;rw[stC];generalize syncA (auL c.cs)=p at*;generalize syncA (allA c)=q at*;generalize(Z0 (auL c.cs))=F at*;generalize(Z0 (allA c)).1=T at*;obtain⟨P,es⟩:=F;dsimp only at*;unfold TR.s113;refine Zc4 ?_;refine cp J ?_;refine Zc4 ?_;refine QqL [] 4 (x:=.f 101) (ag:=[.t 30]) (d:=some 31) rfl rfl rfl ?_;refine Zc4 ?_;refine⟨101,(auL c.cs).flatMap auC,c.cs.length,4,rfl,⟨hA.1,by show noRefs [its 99 c.cs]=true;rw[noRefs,SU.QaJ];rfl,60,0,0,_,_,rfl,Zaj _,gg,hA⟩,QaS _,by decide,gg,?_⟩;refine Zc4 ?_;refine ch (PSpec.toH H _) ?_;refine Zc5 (Zda n o w g) ?_;refine ch (HSpec.give1 (g:=1) u gg (SU.Qav (QaS _) (QaS _)) (by rw[Zag,n,o];omega) rfl) ?_;refine Zc4 ?_;refine⟨trivial,?_⟩;refine cp G ?_;refine Zc4 ?_;refine Qas 200 (fun i:Nat=>[(4,.ptr 52 0 0),(59,tuV P),(60,.int .i64 P.length),(61,.int .i64 i)]) (fun i=>[(52,.cells 0 [evsV c.ev,its 99 c.cs,its 114 c.rs,exs c.xs,cos c.ks,ZN p.al,.int .i64 (p.n:Int),ZN p.ms,egsN p.es,tuV P,ZN q.al,.int .i64 (q.n:Int),ZN q.ms,egsN q.es,tuV T,ZN (szs c),exs c.xs,cos c.ks,.map 53 0]),(53,.map 0 (mapG keyC (ixV P) (P.take i)))]) (fun i=>i<=P.length) (fun i=>P.length-i) 0 0 260 (fun _:Unit=>[(4,.ptr 52 0 0)]) (fun _=>[(52,.cells 0 [evsV c.ev,its 99 c.cs,its 114 c.rs,exs c.xs,cos c.ks,ZN p.al,.int .i64 (p.n:Int),ZN p.ms,egsN p.es,tuV P,ZN q.al,.int .i64 (q.n:Int),ZN q.ms,egsN q.es,tuV T,ZN (szs c),exs c.xs,cos c.ks,fmapG keyC (ixV P) P])]) (fun _=>True) ?_ (Zaj _) ?_ ?_;·refine⟨[(52,.blk 69 0),(53,.blk 116 0)],rfl,RO.set rfl (RO.set rfl ZcA),?_,ZcC (Rn.x2 rfl rfl) (ZcC (Zcs k) au26)⟩;exact ZcE rfl rfl gg (RnL.append (xs:=stP c p q P T) (ys:=stP c p q P T) (Zct (Qgd c p q P T)) (RnL.one (Rn.x3 rfl rfl))) (ZcG rfl rfl gg (ZcX fun _ _=>⟨rfl,rfl⟩) ZcD)
 ·rintro i hi;by_cases d:i<P.length
  ·obtain⟨t,l⟩:=Qak d;have f:=b.inT t (Zaa l);have hk:=key72 h f;have s:t∉P.take i:=fun hm=>by have A:ixT (P.take i) t=i:=(Qhp (List.take_prefix i P) hm).trans (QjQ b.nd l);have B:=QjP hm;rw[A,Zap]at B;omega
   have y:updG (ixV P) t (.int .i64 ((i:Nat):Int))=ixV P:=by
    funext x;unfold updG;split;·rename_i e;subst e;unfold ixV;rw[QjQ b.nd l]
    rfl
   refine Zc5 (Zc8 d (Qhr l)) ?_;refine cp hk ?_;refine Zc4 ?_;refine Qcn (c:=keyC) (f:=ixV P) (x:=t) (l:=P.take i) (g:=0) gg (Qha (fun a m=>(Qbt h a m).j) f fun x I=>b.inT x (ZaX I)) s (by omega) ?_;rw[y];refine Zc4 ?_;refine⟨i+1,by omega,by omega,?_⟩;rw[take_succ' l];refine⟨[(52,.blk 52 0),(53,.blk 53 0)],rfl,ZcA,?_,ZcC (Rn.x2 rfl rfl) (ZcC (Zcs k) au26)⟩;exact ZcE rfl rfl gg (RnL.append (xs:=stP c p q P T) (ys:=stP c p q P T) (Zct (Qgd c p q P T)) (RnL.one (Rn.x3 rfl rfl))) (ZcG rfl rfl gg (ZcX fun _ _=>⟨rfl,rfl⟩) ZcD)
  have e:i=P.length:=by omega
  subst e;refine Zc1 d ?_;refine⟨(),[(52,.blk 52 0)],rfl,ZcA,?_,ZcC (Rn.x2 rfl rfl) ZcB⟩;exact ZcE rfl rfl gg (RnL.append (xs:=stP c p q P T) (ys:=stP c p q P T) (Zct (Qgd c p q P T)) (RnL.one (Rn.fzM (b:=53) (g:=0) gg rfl rfl fun _ _=>⟨rfl,rfl⟩))) ZcD
 rintro _ _;refine Zc4 ?_;refine⟨.inr trivial,_,rfl,?_⟩;refine Rn.tup (ZcK ?_ (Zct rfl));exact Rn.frzp (b:=52) (g:=0) rfl (Zaj _) (fun L M _ e=>by simp[π0]at e) (by simp) (Zct (Qfc c p q P T))
structure WfB(a:Aut):Prop extends WfA a where
 a5:∀x∈a.al,x<5
 nb:a.n<=243
theorem WfB.el{a}(h:WfB a):a.es.length<=1220:=by have:=WfA.elK h.toWfA h.a5;have:=h.nb;omega
theorem check112B(a)(h:WfA a):Ps 66 [aV a] (.int .i64 0):=check112 a h (by have:=WfA.el1 h;omega)
theorem Qez{ev}{j}(h:x∈rowE l ev T j t):x.1=j/\x.2.1∈ev/\∃n,stepT l t x.2.1=some n/\x.2.2=ixT T n:=by unfold rowE at h;obtain⟨e,he,a⟩:=ZbW.1 h;cases b:stepT l t e with|none=>rw[b]at a;cases a|some n=>rw[b]at a;simp only[ZbK,Zab]at a;subst a;exact⟨rfl,he,n,b,rfl⟩
theorem Qic{l}{T}{j}{t}:∀{ev:List Nat},ev.Pairwise (·<·)->(rowE l ev T j t).Pairwise fun x y=>x.1<y.1\/(x.1=y.1/\x.2.1<y.2.1)|[],_=>by simp[rowE]|e::ev,h=>by rw[ZaB]at h;have a:=Qic (l:=l) (T:=T) (j:=j) (t:=t) h.2;unfold rowE at a⊢;rw[ZbJ];cases d:stepT l t e with|none=>exact a|some n=>simp only[ZbK];rw[ZaB];refine⟨fun y c=>?_,a⟩;obtain⟨h1,b,_⟩:=Qez (l:=l) (T:=T) (j:=j) (t:=t) (ev:=ev) (by unfold rowE;exact c);exact .inr ⟨h1.symm,h.1 _ b⟩
theorem Qid(hf:∀j,(f j).Pairwise (fun x y=>x.1<y.1\/(x.1=y.1/\x.2.1<y.2.1))/\∀x∈f j,x.1=j):∀i,((List.range i).flatMap f).Pairwise fun x y=>x.1<y.1\/(x.1=y.1/\x.2.1<y.2.1)|0=>by simp|i+1=>by rw[ZaK,Zao,Zaz,Zb6,Zas,Zbg];refine⟨Qid hf i,(hf i).1,fun x a y c=>?_⟩;obtain⟨j,b,a⟩:=Zby.1 a;have:=Zau.1 b;rw[(hf j).2 x a,(hf i).2 y c];exact .inl this
theorem QdZ(h:∀a∈l,WfI a)(w:l.length<=5):WfB (syncA l):=by
 have hw:∀a∈l,∀e∈a.es,e.1<a.n/\e.2.2<a.n:=fun a c=>(h a c).wf.esn;have f:∀a∈l,0<a.n:=fun a c=>(h a c).pos;have o:=Qg9 f hw;obtain⟨ho,b,_⟩:=QiP h w;have hin:∀e∈(Z0 l).2,e.2.1∈evA l/\e.1<(Z0 l).1.length/\e.2.2<(Z0 l).1.length:=fun e he=>by rw[o.ed]at he;obtain⟨j,i,he⟩:=Zby.1 he;have i:=Zau.1 i;obtain⟨h1,q,n,s,v⟩:=Qez he;obtain⟨t,u⟩:=Qak i;rw[Zah,u]at s;have hm:=o.cl j t i u _ q n s;exact⟨q,by omega,by rw[v];exact QjP hm⟩
 have p:∀x∈evA l,x<5:=fun x d=>by
  have g:x∈uUp (l.map fun a=>(0,a)):=by rw[<-QfD];exact d
  rw[Qhm fun y k=>by obtain⟨a,c,rfl⟩:=Zaq.1 k;exact h a c]at g;obtain⟨y,k,m⟩:=g;obtain⟨a,c,rfl⟩:=Zaq.1 k;exact(h a c).a5 x m
 refine⟨⟨QjM h,fun x d=>by have:=p x d;omega,ZaC b (by decide),?_,fun x d=>?_,?_,fun e he=>⟨(hin e he).2.1,(hin e he).2.2⟩,fun e he=>(hin e he).1⟩,p,b⟩;·exact List.pairwise_lt_range.filter _
 ·exact Zau.1 (ZaZ.1 d).1
 show(Z0 l).2.Pairwise _;rw[o.ed];exact Qid (fun j=>⟨Qic (QjM h),fun x d=>(Qez d).1⟩) _
theorem out199(a)(v:Nat)(h:WfA a)(b:v<=100000):Ps 223 [aV a,.int .i64 (v:Int)] (egsN (ZO a.es (fun _=>true) v)):=out58 a v h (by have:=WfA.el1 h;omega) (by omega)
theorem state207(a)(v)(h:WfA a)(b:v<a.n):Ps 222 [aV a,.int .i64 (v:Int)] (.int .i64 0):=by
 refine Zcv 64 (Ok TQ.s222) rfl (by(try simp only[noRefs,Qaa,Qam,Qag,noRef,noRefs,Zae,Zad])<;>rfl) rfl ?_;have hc:=check112B a h;have g1:¬(v:Int)<0:=by omega
 have g2:¬(a.n:Int)<=(v:Int):=by omega
 unfold TQ.s222;refine Zc4 ?_;refine cp hc ?_;refine Zc5 (Zc8 g1 g2) ?_;exact⟨.inr trivial,_,rfl,rfl⟩
def evO(a:Aut)(v:Nat):List Nat:=(ZO a.es (fun _=>true) v).map (·.2.1)
theorem enabled161(a)(v)(h:WfA a)(l:v<a.n):Ps 174 [aV a,.int .i64 (v:Int)] (.tup [ZN (evO a v),.int .i64 0]):=by
 have m:=h.n5;have b:noRef (.tup [ZN (evO a v),.int .i64 0])=true:=by rw[noRef,noRefs,Qab];rfl
 refine Zcu 64 (Ok TQ.s174) rfl (by(try simp only[noRefs,Qaa,Qam,Qag,noRef,noRefs,Zae,Zad])<;>rfl) b ?_;have hc:=state207 a v h l;have ho:=out199 a v h (by omega);have k:(ZO a.es (fun _=>true) v).length<=131072:=ZaC (Za4 ..) (WfA.el1 h);unfold evO at b⊢;generalize ZO a.es (fun _=>true) v=o at*;unfold TQ.s174;refine Zc4 ?_;refine cp hc ?_;refine Zc4 ?_;refine cp ho ?_;refine Zc4 ?_;refine Qas 120 (fun i:Nat=>[(7,.sl 60 0 0 i 1),(18,egsN o),(19,.int .i64 o.length),(20,.int .i64 i)]) (fun i=>[(60,.cells 0 (ZI (nz ((o.take i).map (·.2.1)))))]) (fun i=>i<=o.length) (fun i=>o.length-i) 0 0 180 (fun _:Unit=>[(7,ZN (o.map (·.2.1)))]) (fun _=>[]) (fun _=>True) ?_ (Zaj _) ?_ ?_;·refine⟨[(60,.nil)],rfl,au0,?_,au26⟩;exact ZcF rfl rfl ZcD
 ·rintro i hi;by_cases c:i<o.length
  ·obtain⟨e,he⟩:=Qak c;have d:=QaR he;have f:3<=((o.flatMap edC).drop (i*3)).length:=by rw[d];simp
   have g:(ZI (nz ((o.take i).map (·.2.1)))).length=i:=by simp[ZI];omega
   refine Zc5 (Zda c d f g) ?_;refine⟨i+1,by omega,by omega,?_⟩;rw[take_succ' he,ZaJ,QaM,QaB];refine⟨[(60,.blk 60 1)],rfl,au0,?_,au26⟩;exact ZcE rfl rfl gg (Zct (SU.Qav (Qaa _) rfl)) ZcD
  have e:i=o.length:=by omega
  subst e;refine Zc1 c ?_;exact⟨(),[],rfl,ZcA,ZcD,ZcC (ZcL (b:=60) (g:=0) gg rfl rfl (by simp) (by simp[ZI]) (Zct (Qaa _))) ZcB⟩
 rintro _ _;refine Zc4 ?_;exact⟨.inr trivial,_,rfl,Zcs b⟩
theorem ev262(x:Ed)(e:Nat):Ps 237 [.agg [.int .i64 (x.1:Int),.int .i64 (x.2.1:Int),.int .i64 (x.2.2:Int)],.fptr [.int .i64 (e:Int)]] (.bool (decide (x.2.1=e))):=by refine Zcv 64 (Ok TQ.s237) rfl rfl rfl ?_;have a:decide ((x.2.1:Int)=(e:Int))=decide (x.2.1=e):=decide_eq_decide.2 (by omega);unfold TQ.s237;refine Zc5 a ?_;exact⟨.inr trivial,_,rfl,rfl⟩
theorem QnZ:∀l:List α,l.find? q=l[l.findIdx q]?|[]=>rfl|x::l=>by rw[List.find?_cons,List.findIdx_cons];cases q x with|true=>rfl|false=>simpa using QnZ l
def nxI(a:Aut)(v e:Nat):Int:=match ZA a.es v e with|some t=>(t:Int)|none=>-1
theorem Qfd(es)(v e):ZA es v e=((ZO es (fun _=>true) v).find? fun x=>decide (x.2.1=e)).map (·.2.2):=by unfold ZA ZO;rw[List.find?_filter];congr 2;funext x;by_cases h:x.2.1=e<;>by_cases a:x.1=v<;>simp[h,a]
theorem next226(a)(v e:Nat)(h:WfA a)(p:v<a.n):Ps 183 [aV a,.int .i64 (v:Int),.int .i64 (e:Int)] (.int .i64 (nxI a v e)):=by
 have q:=h.n5;refine Zcv 64 (Ok TQ.s183) rfl (by(try simp only[noRefs,Qaa,Qam,Qag,noRef,noRefs,Zae,Zad])<;>rfl) rfl ?_;have ho:=out199 a v h (by omega);have g:(ZO a.es (fun _=>true) v).length<=131072:=ZaC (Za4 ..) (WfA.el1 h);have m:=index48 (K:=237) (cap:=[.fptr [.int .i64 (e:Int)]]) (fun x=>decide (x.2.1=e)) (ZO a.es (fun _=>true) v) (by omega) rfl fun x _=>ev262 x e;unfold nxI;rw[Qfd];generalize ZO a.es (fun _=>true) v=o at*;rw[QnZ];have s:=@QiO _ (fun x:Ed=>decide (x.2.1=e)) o;have l:idxQ (fun x:Ed=>decide (x.2.1=e)) o=-1/\o[o.findIdx fun x=>decide (x.2.1=e)]?=none\/∃y,idxQ (fun x:Ed=>decide (x.2.1=e)) o=((o.findIdx fun x=>decide (x.2.1=e):Nat):Int)/\o[o.findIdx fun x=>decide (x.2.1=e)]?=some y:=by
  unfold idxQ;by_cases c:o.any (fun x=>decide (x.2.1=e))=true;·rw[if_pos c];obtain⟨y,n⟩:=Qak (Zbt (p:=fun x:Ed=>decide (x.2.1=e)) (xs:=o) (by simpa using c));exact .inr ⟨y,rfl,n⟩
  rw[if_neg c];refine .inl ⟨rfl,ZaG (Nat.le_of_not_lt fun b=>c ?_)⟩;rw[Za8];exact⟨_,List.getElem_mem b,List.findIdx_getElem (w:=b)⟩
 generalize(o.findIdx fun x=>decide (x.2.1=e))=k at*;generalize idxQ (fun x:Ed=>decide (x.2.1=e)) o=i at*;unfold TQ.s183;refine Zc4 ?_;refine cp ho ?_;refine Zc4 ?_;refine SU.chc (ZcQ (ZcT (Zcy _) (ZcT (FrzTo.fn ZcS (ZcT (ZcP (g:=0) (cs:=[.int .i64 (e:Int)]) gg (Zcz _)) ZcS)) ZcS)) m rfl) ?_;rcases l with⟨rfl,hk⟩|⟨y,rfl,hk⟩;·refine Zc4 ?_;rw[hk];exact⟨.inr trivial,_,rfl,rfl⟩
 have f:k<o.length:=(Zaf.1 hk).1;have g1:¬(k:Int)<0:=by omega
 have d:=QaR hk;refine Zc5 (Zc9 g1 f d) ?_;rw[hk];exact⟨.inr trivial,_,rfl,rfl⟩
theorem step208(a)(v e)(h:WfA a)(c:v<a.n)(he:e∈a.al):Ps 224 [aV a,.int .i64 (v:Int),.int .i64 (e:Int)] (.tup [.int .i64 (((ZA a.es v e).getD 0:Nat):Int),.bool (ZA a.es v e).isSome,.int .i64 0]):=by refine Zcv 64 (Ok TQ.s224) rfl (by(try simp only[noRefs,Qaa,Qam,Qag,noRef,noRefs,Zae,Zad])<;>rfl) rfl ?_;have f:=QbZ h.al h.al5;have hc:=state207 a v h c;have d:=contains62 (nz a.al) (e:Int) (by simp;omega);have hm:decide ((e:Int)∈nz a.al)=true:=decide_eq_true (Zaq.2 ⟨e,he,rfl⟩);rw[hm,QbE]at d;have b:=next226 a v e h c;unfold nxI at b;unfold TQ.s224;refine Zc4 ?_;refine cp hc ?_;refine Zc4 ?_;refine cp d ?_;refine Zc4 ?_;refine cp b ?_;cases i:ZA a.es v e with|none=>refine Zc4 ?_;exact⟨.inr trivial,_,rfl,rfl⟩|some t=>
 have g:(0:Int)<=(t:Int):=by omega
 refine Zc5 g ?_;exact⟨.inr trivial,_,rfl,rfl⟩
end Go.AM.SO
theorem Go.AM.bsUnl{p:Prop}(h:p:=by
 refine RSpec.of_wS (n:=300) rfl gg rfl rfl rfl ?_;simp(disch:=first|omega|exact PairsOK.mk rfl|(simp only[lenW]<;>omega))only[upsT,f,g,Qhj,QiR,evC,Qac,Qad,Qae,wW,wV,simprocAttr];exact⟨rfl,fun x=>set3 rfl⟩):p:=h
theorem Go.AM.bzMHZ{p:Prop}(h:p:=by
 have h:(S.take i).flatten.length+(S.drop i).flatten.length=S.flatten.length:=by rw[<-Zag,<-Zb4,Za9]
 omega):p:=h
theorem Go.AM.bW6fv{p:Prop}(h:p:=by
 exact⟨.inr trivial,_,rfl,by rw[bx_at s (e:=4) (by unfold bxE;rw[if_neg (by omega)]) (by decide) t];rfl⟩):p:=h
theorem Go.AM.bWKUR{p:Prop}(h:p:=by
 refine Zc7 d ?_;refine⟨.inr trivial,_,rfl,?_⟩;rw[QsV fun j y g=>hc j y (by have:=(Zaf.1 g).1;omega) g];rfl):p:=h
theorem Go.AM.bPw95{p:Prop}(h:p:=by
 by_cases d:0<=k;·refine Zc7 d ?_;exact⟨.inr trivial,_,rfl,rfl⟩
 refine Zc7 d ?_;exact⟨.inr trivial,_,rfl,rfl⟩):p:=h
theorem Go.AM.bO0zj{p:Prop}(h:p:=by
 refine cp k ?_;by_cases n:gF (ctC c) v l i=0;·refine Zc7 n ?_;exact⟨i+1,by omega,⟨by omega,fe_up q n⟩,⟨[(50,.blk 50 0)],rfl,au0,au36,au35⟩⟩
 refine Zc7 n ?_;exact⟨.inr trivial,_,rfl,by rw[QfF a rfl n q,ckV,QsY n];rfl⟩):p:=h
theorem Go.AM.brXk0{p:Prop}(h:p:=by
 refine Zc5 (Zc9 a b c) ?_;refine cpcP hw ?_;refine Zc4 ?_;exact⟨i+1,by omega,by omega,⟨[],rfl,au0,au36,au35⟩⟩):p:=h
namespace Go.AM.SO
open Go.Proofs Go.AM.SD Go.AM.SE
variable{c:Cel}{k:IntKind}{s:List (List Nat)×List Ed}{cs:List AV}{A B l:List Aut}{t:List Nat}{Q:List Nat->Prop}{n:Nat}{β:Type}{R:Nat->List β}
theorem Qeh(c):noRef (.fptr (stC c))=true:=by rw[noRef,stC];exact Qfc _ _ _ _ _
theorem Qvt:(ZI (nz t)).take n=ZI (nz (t.take n)):=by simp[ZI,nz,List.map_take]
theorem Qt5{t}{n}:(ZI (nz t)).drop n=ZI (nz (t.drop n)):=by simp[ZI,nz,List.map_drop]
theorem QoR{len sz}{c}{b m}(h:0<b):aSliceC (some sz) (.fsl cs len sz) none (some (.int k b)) (some (.int c m))=if b<=m/\m<=len then some (.fsl (cs.take (b.toNat*sz)) b.toNat sz)else none:=by
 have e:¬((0:Int)=0/\b=0/\m=0):=by omega
 have a:(0:Int)<=b:=by omega
 simp only[aSliceC,if_true,aSlice,bnd,Int.le_refl,true_and,a,Int.toNat_zero,Zcf,Za5,Nat.sub_zero];rw[if_neg (by omega)]
theorem split71(c)(t)(l:0<c.cs.length)(h:c.cs.length<=t.length):Ps 114 [.fptr (stC c),ZN t] (.tup [ZN (t.take c.cs.length),ZN (t.drop c.cs.length)]):=by
 have a:noRef (.tup [ZN (t.take c.cs.length),ZN (t.drop c.cs.length)])=true:=by rw[noRef,noRefs,noRefs,Qab,Qab];rfl
 refine Zcu 64 (Ok TQ.s114) rfl (by rw[noRefs,Qeh,noRefs,Qab];rfl) a ?_;have i:=Qeh c;rw[stC]at i⊢;generalize syncA (auL c.cs)=p at*;generalize syncA (allA c)=q at*;generalize(Z0 (auL c.cs)).1=P at*;generalize(Z0 (allA c)).1=T at*;have hle:(c.cs.length:Int)<=(t.length:Int):=by omega
 have f:(0:Int)<(c.cs.length:Int):=by omega
 have d:(t.drop c.cs.length).take (t.length-c.cs.length)=t.drop c.cs.length:=ZaM (by rw[ZaR];exact Zar _);have b:min c.cs.length t.length=c.cs.length:=Nat.min_eq_left h;unfold TQ.s114;refine Zc5 (Zdb hle @QoR @Qvt @Qt5 d) ?_;refine⟨.inr trivial,_,rfl,?_⟩;have k:ZN (t.take c.cs.length)=.fsl (ZI (nz (t.take c.cs.length))) c.cs.length 1:=by rw[ZN,Zap,b]
 have g:ZN (t.drop c.cs.length)=.fsl (ZI (nz (t.drop c.cs.length))) (t.length-c.cs.length) 1:=by rw[ZN,ZaR]
 rw[k,g]at a⊢;exact Zcs a
def rfQ(c:Cel)(r:List Nat)(e:Nat)(i:Nat):Bool:=match c.rs[i]? with|some y=>y.2.al.contains e&&(ZA y.2.es (r.getD i 0) e).isNone|none=>false
def rfI(c:Cel)(r:List Nat)(e:Nat):Int:=idxQ (rfQ c r e) (List.range c.rs.length)
theorem refuser162(c)(hw:WfCel c)(r:List Nat)(e:Nat)(I:r.length=c.rs.length)(hrn:∀(i:Nat)y,c.rs[i]?=some y->r.getD i 0<y.2.n):Ps 175 [.fptr (stC c),ZN r,.int .i64 (e:Int)] (.int .i64 (rfI c r e)):=by
 refine Zcv 64 (Ok TQ.s175) rfl (by rw[noRefs,Qeh,noRefs,Qab];rfl) rfl ?_;have F:=hw.r2;rw[stC];generalize syncA (auL c.cs)=p at*;generalize syncA (allA c)=q at*;generalize(Z0 (auL c.cs)).1=P at*;generalize(Z0 (allA c)).1=T at*;have g:=@SU.QaJ 114 c.rs;unfold TQ.s175;refine Zc4 ?_;refine Qas 100 (fun i:Nat=>[(1,ZN r),(2,.int .i64 (e:Int)),(16,its 114 c.rs),(17,.int .i64 c.rs.length),(18,.int .i64 i)]) (fun _=>[]) (fun i=>i<=c.rs.length/\∀(j:Nat)y,j<i->(List.range c.rs.length)[j]?=some y->rfQ c r e y=false) (fun i=>c.rs.length-i) 0 0 200 (fun _:Unit=>[]) (fun _=>[]) (fun _=>∀x∈List.range c.rs.length,rfQ c r e x=false) ?_ ⟨Zaj _,fun j y E=>absurd E (Zay _)⟩ ?_ ?_;·exact⟨[],rfl,ZcA,ZcD,ZcC (Zcs (Qab _)) (ZcC (Zcs rfl) (ZcC (Zcs g) au26))⟩
 ·rintro i⟨hi,u⟩;by_cases b:i<c.rs.length
  ·obtain⟨x,k⟩:=Qak b;have f:=hw.ra x (Zaa k);have h:=SU.QdV (ch:=114) k;have z:5<=((c.rs.flatMap (itC 114)).drop (i*5)).length:=by rw[h];simp
   have w:i<r.length:=by omega
   obtain⟨v,C⟩:=Qak w;have o:r.getD i 0=v:=by rw[Zah,C];rfl
   have n:=hrn i x k;rw[o]at n;have d:(List.range c.rs.length)[i]?=some i:=by simp[b]
   have A:=has189 x.2.al e f.wf.al (by have:=Qg5 f.wf;omega);have a:rfQ c r e i=(x.2.al.contains e&&(ZA x.2.es v e).isNone):=by unfold rfQ;rw[k];dsimp only;rw[o]
   have m:∀q:rfQ c r e i=false,i+1<=c.rs.length/\∀(j:Nat)y,j<i+1->(List.range c.rs.length)[j]?=some y->rfQ c r e y=false:=fun q=>⟨by omega,fun j y E B=>by
    by_cases H:j=i;·subst H;rw[d]at B;cases B;exact q
    exact u j y (by omega) B⟩;cases s:x.2.al.contains e;·rw[s,ZbQ]at a;rw[s]at A;refine Zc5 (Zc9 b h z) ?_;refine cp A ?_;refine Zc4 ?_;refine⟨i+1,by omega,m a,?_⟩;exact⟨[],rfl,ZcA,ZcD,ZcC (Zcs (Qab _)) (ZcC (Zcs rfl) (ZcC (Zcs g) au26))⟩
   have G:=step208 x.2 v e f.wf n (List.contains_iff_mem.1 s);rw[s,Zai]at a;rw[s]at A;refine Zc5 (Zc9 b h z) ?_;refine cp A ?_;refine Zc5 (Zc8 w (QaI C)) ?_;refine cp G ?_;cases l:ZA x.2.es v e with|none=>rw[l]at a;refine Zc4 ?_;refine⟨.inr trivial,_,rfl,?_⟩;unfold rfI;rw[QfA d a u];rfl|some t=>rw[l]at a;refine Zc4 ?_;refine⟨i+1,by omega,m a,?_⟩;exact⟨[],rfl,ZcA,ZcD,ZcC (Zcs (Qab _)) (ZcC (Zcs rfl) (ZcC (Zcs g) au26))⟩
  refine Zc5 b ?_;refine⟨(),fun x k=>?_,⟨[],rfl,au0,au27,au26⟩⟩;have:=Zau.1 k;exact u x x (by omega) (by simp[this])
 rintro _ u;refine Zc4 ?_;refine⟨.inr trivial,_,rfl,?_⟩;unfold rfI;rw[Qef u];rfl
def rfF(c:Cel)(k:Nat)(r:List Nat):AV:=.fn 173 [] [.fptr [.fptr (stC c)],.fptr [.int .i64 (k:Int)],.fptr [ZN r]]
theorem Qhb(c)(k)(r):noRef (rfF c k r)=true:=by have:=Qeh c;rw[noRef]at this;simp only[rfF,noRef,noRefs,Qaa,this];rfl
theorem refused74(c)(k:Nat)(r):Ps 117 [.fptr (stC c),.int .i64 (k:Int),ZN r] (rfF c k r):=by
 have a:=Qeh c;refine Zcu 64 (Ok TQ.s117) rfl (by rw[noRefs,a,noRefs,noRefs,Qab];rfl) (Qhb _ _ _) ?_;unfold rfF;have f:(AV.fptr (stC c)).boxable=true:=rfl;have hc:(AV.fptr (stC c)).cells=[.fptr (stC c)]:=rfl;have ho:(AV.fptr (stC c)).one=true:=rfl;generalize AV.fptr (stC c)=S at*;unfold TQ.s117;refine Zc5 (Zc9 f hc ho) ?_;refine⟨.inr trivial,_,rfl,?_⟩;refine Rn.fn ZcJ (ZcK (Rn.frzp (b:=64) (g:=0) rfl (Zaj _) (fun b d _ e=>by simp[π0]at e) (by simp) (Zct ?_)) (ZcK (Rn.frzp (b:=65) (g:=0) rfl (Zaj _) (fun b d _ e=>by simp[π0]at e) (by simp) (Zct rfl)) (ZcK (Rn.frzp (b:=66) (g:=0) rfl (Zaj _) (fun b d _ e=>by simp[π0]at e) (by simp) (Zct ?_)) ZcJ)));·show noRefs [S]=true;rw[noRefs,a];rfl
 show noRefs [ZN r]=true;rw[noRefs,Qab];rfl
theorem Qvu{i e}(a:∀n,stepT l t e=some n->Q n)(h:∀x∈s.1,Q x):∀x∈(pEv l i t s e).1,Q x:=by grind[pEv]
theorem Qn0{l}{Q:List Nat->Prop}{i}{t}:∀{ev:List Nat}{s:List (List Nat)×List Ed},(∀e∈ev,∀n,stepT l t e=some n->Q n)->(∀x∈s.1,Q x)->∀x∈(pRow l ev i t s).1,Q x|[],s,_,h=>h|e::ev,s,b,h=>Qn0 (ev:=ev) (s:=pEv l i t s e) (fun c a=>b c (by simp[a])) (Qvu (fun n=>b e (by simp) n) h)
theorem QsO{ev}(a:∀t,Q t->∀e∈ev,∀n,stepT l t e=some n->Q n):∀{k i:Nat}{s:List (List Nat)×List Ed},(∀x∈s.1,Q x)->∀x∈(pQ l ev k i s).1,Q x|0,_,_,h=>h|k+1,i,s,h=>by unfold pQ;cases b:s.1[i]? with|none=>exact h|some t=>exact QsO a (Qn0 (a t (h t (Zaa b))) h)
theorem QjR{n}{e}(b:(A++B).length<=t.length)(h:stepT (A++B) t e=some n):stepT A (t.take A.length) e=some (n.take A.length):=by
 obtain⟨h1,g,c⟩:=(Qf9 b).1 h;rw[Zag]at b;refine(Qf9 (by grind)).2 ⟨by simp_all,fun i hi=>?_,fun i a hi d=>?_⟩;·grind
 have f:=c i a (by grind) (by grind);simp_all
theorem Qku(h:∀a∈l,WfI a){e}:e∈evA l↔∃a∈l,e∈a.al:=by
 rw[QfD,Qhm (fun y d=>by grind)];constructor;·grind
 rintro⟨a,b,c⟩;exact⟨_,Zaq.2 ⟨a,b,rfl⟩,c⟩
theorem QpT(h:WfCel c){e}(he:e∈evA (allA c)):e∈evA (auL c.cs):=by
 have hA:=Qbt h;obtain⟨a,b,d⟩:=(Qku (Qb9 h)).1 he;rcases ZaE.1 (show a∈auL c.cs++auL c.rs from b)with b|b;·grind[Qku]
 obtain⟨x,g,rfl⟩:=Zaq.1 b;obtain⟨y,i,f⟩:=h.rsub x g e d;exact(Qku hA).2 ⟨y.2,Zaq.2 ⟨y,i,rfl⟩,f⟩
theorem QpU(h:WfCel c):∀t∈(Z0 (allA c)).1,InT (allA c) t/\t.take c.cs.length∈(Z0 (auL c.cs)).1:=by
 have hA:=Qbt h;have b:=Qb9 h;have m:=Qg9 (fun a d=>(hA a d).pos) (fun a d=>(hA a d).wf.esn);have g:=Qgb (l:=allA c) (fun a d=>(b a d).pos);show∀t∈(pQ (allA c) (evA (allA c)) (box (allA c)+1) 0 ([List.replicate (allA c).length 0],[])).1,_;refine QsO (Q:=fun t=>InT (allA c) t/\t.take c.cs.length∈(Z0 (auL c.cs)).1) ?_ ?_;·rintro t⟨l,hp⟩e he n k;refine⟨Qga (fun a d=>(b a d).wf.esn) l k,?_⟩;have f:=QjR (A:=auL c.cs) (B:=auL c.rs) (Nat.le_of_eq l.1.symm) k;rw[Qbl]at f;exact m.cl _ _ (QjP hp) (Qkt hp) e (QpT h he) _ f
 intro x i;have i:x=List.replicate (allA c).length 0:=by simpa using i
 subst i;refine⟨g.inT _ (by simp),?_⟩;have:(List.replicate (allA c).length 0).take c.cs.length=List.replicate (auL c.cs).length 0:=by simp_all[Qck]
 rw[this];exact sync_pre.subset (by simp)
theorem QjS{j}:∀{n:Nat},j<n->(List.range n).flatMap (fun x=>if x=j then R x else[])=R j
 |0,h=>absurd h (Zay _)|n+1,h=>by
  rw[ZaK,Zao,Zaz,Zb6,Zas];by_cases e:n=j
  ·subst e;rw[if_pos rfl];have:∀{m:Nat},m<=n->(List.range m).flatMap (fun x=>if x=n then R x else[])=[]:=fun{m}hm=>by rw[List.flatMap_eq_nil_iff];grind
   grind
  rw[if_neg e,Zas,QjS (by omega)]
theorem QsP(h:∀a∈l,WfI a){j}(f:(Z0 l).1[j]?=some t):ZO (syncA l).es (fun _=>true) j=rowE l (evA l) (Z0 l).1 j t:=by
 have i:=Qg9 (fun a c=>(h a c).pos) (fun a c=>(h a c).wf.esn);have b:j<(Z0 l).1.length:=(Zaf.1 f).1;unfold ZO;show(Z0 l).2.filter _=_;rw[i.ed,List.filter_flatMap];have g:(Z0 l).1.getD j []=t:=by simp_all
 rw[<-g,<-QjS (R:=fun x=>rowE l (evA l) (Z0 l).1 x ((Z0 l).1.getD x [])) b];refine flatMap_congr' fun x k=>?_;by_cases e:x=j;·rw[if_pos e];refine ZbI.2 fun y d=>?_;have:=(Qez d).1;simp[this,e]
 rw[if_neg e];refine List.filter_eq_nil_iff.2 fun y d=>?_;have:=(Qez d).1;simp[this,e]
theorem Qt6(h:InT (A++B) t):InT A (t.take A.length):=by refine⟨by rw[Zap,h.1,Zag];omega,fun i a b=>?_⟩;have hi:i<A.length:=(Zaf.1 b).1;have:=h.2 i a (by grind);simp_all
theorem Qt7(h:InT (A++B) t):InT B (t.drop A.length):=by refine⟨by rw[ZaR,h.1,Zag];omega,fun i a b=>?_⟩;have:=h.2 (A.length+i) a (by grind);simp_all
end Go.AM.SO
namespace Go.AM
variable{P:Program}
variable{v:AV}{L:HL}{h h' h1 p:Heap}{o:LCode}{st:LSt}{args:List AV}{c dead i l:List Nat}{ops:List SOper}{N:NM}{N2 b f:Nat}{g:Opd}{d:Option Nat}{a body:SCode}{sf:SFn}{T:Tmps}
theorem RSpec.of_wS{N n}(f:(noLoop a&&noLoop body)=true)(k:h.get b=some (.loop 0 N T c (.s a) (.s body) .ready))(i:Nat.blt b 1099511627775=true)(hlen:args.length=c.length)(l:(c.all fun p=>Nat.blt p N)=true)(hw:wS P ⟨N,0⟩ a [] n (upsT T c args) h fun e T1 h1 g=>e=.normal/\h1.get b=some (.loop 0 N T c (.s a) (.s body) .ready)/\wS P ⟨N,0⟩ body [] g T1 (h1.set b (.loop 0 N T c (.s a) (.s body) .busy)) fun e T2 d _=>d.get b=some (.loop 0 N T c (.s a) (.s body) .busy)/\v=.bool e.isNormal/\∀x,(d.set b (.loop 0 N T c (.s a) (.s body) (stOf e))).get x=h'.get x):RSpec P b 0 args h v h':=by simp only[Zac]at f;refine RSpec.of_W k (by simpa[lim]using i) hlen (fun p hp=>by simp_all) ((wpC.toW1 f.1 hw).mono ?_);rintro e B⟨g,rfl,h1,d⟩;refine⟨rfl,N,T,c,.s a,.s body,h1,(wpC.toW1 f.2 d).mono ?_⟩;rintro e C⟨s,q,o,m⟩;grind
section
variable{k m n:Nat}{T:Tmps}{h:Heap}{Q:QC}{fs:List Fr}
theorem Ql4{n'}{first cap}{T' T2}{c}(t:Rec m T' L T h)(u:ev T' g=.fn f first cap)(s:(hp L).get b=none)(w:Nat.blt b 1099511627775=true)(q:HSpec P f (first++[.yld b 0]++cap) ((hp L).set b (.loop 0 k T' l (.s a) (.s body) .ready)) v p)(d:p.get b=some (.loop 0 N2 T2 i o c st))(hQ:leftQ (fun e B=>wX P ⟨k,m⟩ e fs n' B.T B.h Q) ⟨T',p.set b (.dead 0)⟩ st):wS P ⟨k,m⟩ (.rfunc g l k a body) fs n T h Q:=by show W2 P ⟨k,m⟩ (.rfunc g l k a body) (fun e B=>∃n,ct P ⟨k,m⟩ fs Q e B.T B.h n) ⟨T,h⟩;refine W2.recL t (W2.of_W (W.rfunc (las:=.s a) (lbody:=.s body) rfl rfl u s (by simpa[lim]using w) q d ?_));cases st with|ready=>exact⟨n',hQ⟩|busy=>exact hQ|done e=>exact⟨hQ.1,n',hQ.2⟩
theorem cy{g}(a:RSpec P b g args h v h1)(hk:wR P N ops dead fs (n+1) (putD T d v) h1 Q):wCall P N .heap (.yld b g) args d ops dead fs n T h Q:=⟨_,_,a,hk⟩
theorem W2.weakE{c}{Q}{L}(a:Sub L T)(he:∀b,h.get b=h'.get b)(hw:W2 P N c Q ⟨L,h'⟩):W2 P N c Q ⟨T,h⟩:=W2.weak a (W2.congr hw ⟨fun _=>rfl,he⟩)
def loopI(P:Program)(k m:Nat){α:Type}(env:α->Tmps)(H:α->Heap)(I:α->Prop)(μ:α->Nat)(a:α)(fs:List Fr)(Q:QC):QC:=fun e T h n=>match e with|.normal=>∃c,μ c<μ a/\I c/\Sub (env c) T/\∀b,h.get b=(H c).get b|e=>wX P ⟨k,m⟩ e fs n T h Q
section
variable{α:Type}{env:α->Tmps}{H:α->Heap}{I:α->Prop}{μ:α->Nat}{a:α}
theorem Qbp:loopI P k m env H I μ a fs Q .normal T h n=∃c,μ c<μ a/\I c/\Sub (env c) T/\∀b,h.get b=(H c).get b:=rfl
theorem QbI{i}:loopI P k m env H I μ a fs Q (.exit i) T h n=wX P ⟨k,m⟩ (.exit i) fs n T h Q:=rfl
theorem QbT:loopI P k m env H I μ a fs Q .ret T h n=wX P ⟨k,m⟩ .ret fs n T h Q:=rfl
theorem Qt8{b}(t)(env:α->Tmps)(H:α->Heap)(I:α->Prop)(μ)(a0)(p:Sub (env a0) T)(g:∀b,h.get b=(H a0).get b)(l:I a0)(round:∀a,I a->wS P ⟨k,m⟩ b [] t (env a) (H a) (loopI P k m env H I μ a fs Q)):wS P ⟨k,m⟩ (.loop b) fs n T h Q:=by show W2 P ⟨k,m⟩ (.loop b) (fun e B=>∃n,ct P ⟨k,m⟩ fs Q e B.T B.h n) ⟨T,h⟩;refine W2.loop (fun q B=>∃a,μ a=q/\I a/\Sub (env a) B.T/\∀b,B.h.get b=(H a).get b) (μ a0) ⟨a0,rfl,l,p,g⟩ ?_;rintro q B⟨a,rfl,hi,s,he⟩;refine W2.weakE s he ((wpC.toW (round a hi)).mono ?_);rintro e C⟨d,c⟩;cases e with|normal=>obtain⟨f,h1,u,o⟩:=c;exact⟨μ f,h1,f,rfl,u,o⟩|exit i=>exact⟨d,c⟩|ret=>exact⟨d,c⟩
end
end
theorem HSpec.of_I(m n)(a:okFn P f sf=true)(s:Nat.ble args.length sf.n=true)(hm:Fresh m h)(hw:wS P ⟨sf.n,m⟩ sf.body [] n (argT 0 args) h fun e T k _=>(e=.normal\/e=.ret)/\∃vs,resV T k sf.res=some vs/\resOf vs=v/\∀b,k.get b=h'.get b):HSpec P f args h v h':=by
 obtain⟨_,_,_,_,_,_,_,hc⟩:=Qcq a;refine⟨hc,fun c w d H o=>(Qdo (m:=m) (R:=fun vs k=>resOf vs=v/\∀b,k.get b=h'.get b) a (Zaw s) ((wpC.toW hw).mono fun e B⟨_,h1,vs,i,t⟩=>⟨h1,vs,i,t⟩) H o).mono ?_⟩;rintro e u⟨q,l,vs,k,rfl,E,H',V,rfl,hk⟩;refine⟨q,l,rfl,⟨E.os,E.tape,E.output,E.size,E.shape,E.keep,fun b g p hp=>?_,E.frz,E.frzNew,E.own,E.base⟩,Qcw hk H',V⟩;rcases ZbE b m with h1|h1;·exact E.rho b g p h1 hp
 rw[H.fresh b (hm b h1) g]at hp;cases hp
end Go.AM
namespace Go.AM.SO
open Go.Proofs Go.AM.SD Go.AM.SE
variable{a b:Blk}{c:Cel}{h:Heap}{i k:Nat}{y:Nat×Int}{α β:Type}{l:List α}{x:α}{p:α->Bool}{f:α->Option β}
def ylE(c:Cel)(r:List Nat)(e:Nat):Option (Nat×Int):=if 0<=rfI c r e then some (e,rfI c r e)else none
def yls(c:Cel)(k:Nat)(r:List Nat):List (Nat×Int):=(evO (syncA (auL c.cs)) k).filterMap (ylE c r)
theorem fm_at{y}(b:l[i]?=some x)(d:f x=some y):(l.filterMap f)[((l.take i).filterMap f).length]?=some y:=by
 have hi:i<l.length:=(Zaf.1 b).1;have e:l=l.take i++x::l.drop (i+1):=by have a:l[i]=x:=(Zaf.1 b).2;rw[<-a,List.getElem_cons_drop,Za9]
 have c:l.filterMap f=(l.take i).filterMap f++y::(l.drop (i+1)).filterMap f:=by
  conv=>lhs;rw[e]
  rw[List.filterMap_append,ZbJ,d]
 rw[c,Zbk (Zar _),ZbO,Zbi]
theorem Qvv(a:l[i]?=some x):((l.take (i+1)).filterMap f).length=((l.take i).filterMap f).length+(match f x with|some _=>1|none=>0):=by rw[take_succ' a,List.filterMap_append,Zag,ZbJ];cases f x<;>rfl
theorem Qvw{c}{r}{e}:-1<=rfI c r e/\rfI c r e<=c.rs.length:=by have:=@QiO _ (rfQ c r e) (List.range c.rs.length);unfold rfI;rw[ZbH]at this;omega
theorem refused160(c)(hw:WfCel c){k}(hk:k<(syncA (auL c.cs)).n)(r:List Nat)(K:r.length=c.rs.length)(hrn:∀(i:Nat)y,c.rs[i]?=some y->r.getD i 0<y.2.n){b m}(H:Nat->Heap)(H')(n)(hf:Fresh m (H 0))(L:n<=(yls c k r).length)(hY:∀(j:Nat)y,j<n->(yls c k r)[j]?=some y->RSpec Tryz.prog b 0 [.int .i64 (y.1:Int),.int .i64 y.2] (H j) (.bool true) (H (j+1)))(E:(n=(yls c k r).length/\H'=H n)\/∃y,(yls c k r)[n]?=some y/\RSpec Tryz.prog b 0 [.int .i64 (y.1:Int),.int .i64 y.2] (H n) (.bool false) H'):HSpec Tryz.prog 173 [.yld b 0,.fptr [.fptr (stC c)],.fptr [.int .i64 (k:Int)],.fptr [ZN r]] (H 0) (.tup []) H':=by
 refine HSpec.of_I m 1099511627000 (Ok TR.s173) rfl hf ?_;have s:=enabled161 (syncA (auL c.cs)) k (QdZ (Qbt hw) (by rw[Qbl];have:=hw.c3;omega)).toWfA hk;have J:=fun e=>refuser162 c hw r e K hrn;have F:=fun e=>@Qvw c r e;have I:(evO (syncA (auL c.cs)) k).length<=1220:=by unfold evO;rw[Zax];exact ZaC (Za4 ..) (QdZ (Qbt hw) (by rw[Qbl];have:=hw.c3;omega)).el
 have u:stC c=stC c:=rfl;conv at u=>rhs;rw[stC]
 have M:∃S,S=AV.fptr (stC c):=⟨_,rfl⟩;unfold yls at L hY E;rw[stC]at*;generalize evO (syncA (auL c.cs)) k=o at*;generalize syncA (auL c.cs)=p at*;generalize syncA (allA c)=q at*;generalize(Z0 (auL c.cs)).1=P at*;generalize(Z0 (allA c)).1=T at*;unfold TR.s173;refine Zc7 (Zdc @Qac @Qad @Qae @Qbp @QbI @QbT) ?_;refine cp s ?_;refine Zc7 (Zdc @Qac @Qad @Qae @Qbp @QbI @QbT) ?_;refine Qt8 1099511627100 (fun i:Nat=>[(0,.yld b 0),(1,.fptr [.fptr (stG c p q P T)]),(3,.fptr [ZN r]),(19,ZN o),(20,.int .i64 o.length),(21,.int .i64 i)]) (fun i=>H ((o.take i).filterMap (ylE c r)).length) (fun i=>i<=o.length/\((o.take i).filterMap (ylE c r)).length<=n) (fun i=>o.length-i) 0 ?_ (fun _=>rfl) ⟨Zaj _,Zaj _⟩ ?_;·repeat(first|exact Sub.nil|refine Sub.cons (by first|rfl|(rw[ZaF];rfl)) ?_)
 rintro i⟨hi,hc⟩;by_cases d:i<o.length
 ·obtain⟨x,B⟩:=Qak d;have a:=Qvv (f:=ylE c r) B;have t:=J x;have N:=F x;by_cases z:0<=rfI c r x
  ·have g:ylE c r x=some (x,rfI c r x):=by unfold ylE;rw[if_pos z]
   have f:=fm_at B g;rw[g]at a;rcases ZbE ((o.take i).filterMap (ylE c r)).length n with A|G;·have l:=hY _ _ A f;dsimp only at l a;rw[<-a]at l;refine Zc7 (Zde d (QaI B) @Qac @Qad @Qae @Qbp @QbI @QbT) ?_;refine cp t ?_;generalize rfI c r x=v at*;refine Zc7 (Zdd z @Qac @Qad @Qae @Qbp @QbI @QbT) ?_;refine cy l ?_;refine Zc7 (Zdc @Qac @Qad @Qae @Qbp @QbI @QbT) ?_;refine⟨i+1,by omega,⟨by omega,by omega⟩,?_,fun _=>rfl⟩;repeat(first|exact Sub.nil|refine Sub.cons (by first|rfl|(rw[ZaF];rfl)) ?_)
   have h:((o.take i).filterMap (ylE c r)).length=n:=by omega
   rcases E with⟨he,_⟩|⟨y,C,w⟩;·have :=(Zaf.1 f).1;omega
   rw[h]at f⊢;rw[f]at C;cases C;dsimp only at w;refine Zc7 (Zde d (QaI B) @Qac @Qad @Qae @Qbp @QbI @QbT) ?_;refine cp t ?_;generalize rfI c r x=v at*;refine Zc7 (Zdd z @Qac @Qad @Qae @Qbp @QbI @QbT) ?_;refine cy w ?_;refine Zc7 (Zdc @Qac @Qad @Qae @Qbp @QbI @QbT) ?_;exact⟨.inr trivial,_,rfl,rfl,fun _=>trivial⟩
  have g:ylE c r x=none:=by unfold ylE;rw[if_neg z]
  rw[g]at a;dsimp only at a;refine Zc7 (Zde d (QaI B) @Qac @Qad @Qae @Qbp @QbI @QbT) ?_;refine cp t ?_;generalize rfI c r x=v at*;refine Zc7 (Zdd z @Qac @Qad @Qae @Qbp @QbI @QbT) ?_;refine⟨i+1,by omega,⟨by omega,by omega⟩,?_,fun _=>by rw[a];rfl⟩;repeat(first|exact Sub.nil|refine Sub.cons (by first|rfl|(rw[ZaF];rfl)) ?_)
 have e:i=o.length:=by omega
 subst e;rw[Zan]at hc⊢;have h:n=(o.filterMap (ylE c r)).length:=by omega
 refine Zc7 (Zdd d @Qac @Qad @Qae @Qbp @QbI @QbT) ?_;refine⟨.inl trivial,_,rfl,rfl,fun _=>?_⟩;rcases E with⟨_,he⟩|⟨y,C,_⟩;·rw[he,h]
 rw[ZaG (by omega)]at C;cases C
theorem clone41(l)(a:l.length<=1000000):Ps 86 [ZN l] (ZN l):=by
 have h:=(clone56 l a).freeze (b:=83) (g:=0) (ds:=ZI (nz l)) gg (by
  have:∀m:List Int,flatVs (ZI m)=true:=fun m=>by induction m with|nil=>rfl|cons x m b=>simp only[ZI,ZaL,flatVs,Zac];exact⟨rfl,b⟩
  exact this _) (by simp[ZI]) rfl;have e:(ZI (nz l)).take (l.length*1)=ZI (nz l):=by rw[ZaM (by simp[ZI])]
 rw[e]at h;exact⟨by rw[noRefs,Qab];rfl,Qab _,_,h⟩
abbrev lpA:SCode:=(.seq (.region [Zm 16 100 []] [] [99,100]) (.region [Zm 17 101 []] [] [101]))
abbrev lpB:SCode:=(.block 3 (.seq (.region [Zf 102 0 1 [],Zl 103 102 [0],Zm 104 16 [],Zi 105 5 103 104 [1,2],Zf 106 1 105 [3],Zl 107 106 [4],Zz 108 (.un .not (.t 107)) [5]] [] [102,103,104,105,106,107]) (.cond (.t 108) (.seq (.region [Zf 109 7 6 [],Zl 110 109 [0],Zl 111 7 [],Zm 112 17 [],Zm 113 16 [],Zz 114 (.build [(.int .i64 0),(.int .i64 0),(.int .i64 0),(.int .i64 0)] [(0,1,(.t 111)),(1,1,(.c (.int .i64 3))),(2,1,(.t 112)),(3,1,(.t 113))]) [2,3,4],Zz 115 (.bslice false .dyn 4 1 [(.int .i64 0),(.int .i64 0),(.int .i64 0),(.int .i64 0)] [(0,4,(.t 114))]) [5],Zz 116 (.append .dyn 4 32 (.t 110) (.t 115)) [1,6],Zf 117 7 6 (Za [] 8),Zs 1 117 116 (Za [8,7,7] 8)] [] [7,16,17,108,109,110,111,112,113,114,115,116,117]) (.exit 2)) .skip)))
def rsn(c:Cel)(i:Nat)(t:List Nat):Option (Nat×Int×Int×Int):=if(vioV (t.take c.cs.length) c.xs c.ks).2.2=true then some (i,(vioV (t.take c.cs.length) c.xs c.ks).1,(vioV (t.take c.cs.length) c.xs c.ks).2.1,-1)else((yls c (ixT (Z0 (auL c.cs)).1 (t.take c.cs.length)) (t.drop c.cs.length)).find? fun y=>!(c.ev y.1).c).map fun y=>(i,3,y.2,(y.1:Int))
def rsC(x:Nat×Int×Int×Int):List AV:=[.int .i64 (x.1:Int),.int .i64 x.2.1,.int .i64 x.2.2.1,.int .i64 x.2.2.2]
def rsnO(c:Cel)(i:Nat):List (Nat×Int×Int×Int):=(rsn c i ((Z0 (allA c)).1.getD i [])).toList
def forb(c:Cel)(n:Nat):List (Nat×Int×Int×Int):=(List.range n).flatMap (rsnO c)
theorem Qhc(c)(n):forb c (n+1)=forb c n++rsnO c n:=by unfold forb;rw[ZaK,Zao];simp
theorem QiQ(c):∀n,(forb c n).length<=n
 |0=>by simp[forb]|n+1=>by
  have:=QiQ c n;rw[Qhc,Zag];have:(rsnO c n).length<=1:=by unfold rsnO;cases rsn c n _<;>simp
  omega
abbrev rss(l:List (Nat×Int×Int×Int)):AV:=.fsl (l.flatMap rsC) l.length 4
theorem QsQ(l:List (Nat×Int×Int×Int)):(l.flatMap rsC).length=l.length*4:=Qbg (k:=4) (fun _=>rfl) l
theorem Qa9(l:List (Nat×Int×Int×Int)):noRefs (l.flatMap rsC)=true:=by induction l with|nil=>rfl|cons x l a=>rw[Zaz];exact SU.Qav rfl a
def spA(c:Cel)(T:List (List Nat)):List (List Nat):=T.map fun t=>t.take c.cs.length
def spB(c:Cel)(T:List (List Nat)):List (List Nat):=T.map fun t=>t.drop c.cs.length
def spP(c:Cel)(P T:List (List Nat)):List Nat:=T.map fun t=>ixT P (t.take c.cs.length)
abbrev spG(c:Cel)(q:Aut)(P T:List (List Nat)):List AV:=[ZN q.al,.int .i64 (q.n:Int),ZN q.ms,egsN q.es,tuV (spA c T),tuV (spB c T),ZN (spP c P T),rss (forb c T.length)]
def spC(c:Cel):List AV:=spG c (syncA (allA c)) (Z0 (auL c.cs)).1 (Z0 (allA c)).1
theorem QjT(c)(q)(P T):noRefs (spG c q P T)=true:=by
 have a:noRef (rss (forb c T.length))=true:=by rw[noRef];exact Qa9 _
 simp only[noRefs,Qab,Qaj,Qa8,a,Zai,Zad];rfl
theorem Qn1:∀{l:List α}{y:α},l.find? p=some y->∃n:Nat,l[n]?=some y/\p y=true/\∀(j:Nat)z,j<n->l[j]?=some z->p z=false|[],y,h=>by simp at h|x::l,y,h=>by rw[List.find?_cons]at h;cases hp:p x with|true=>rw[hp]at h;cases h;exact⟨0,rfl,hp,fun j z b=>absurd b (Zay _)⟩|false=>rw[hp]at h;obtain⟨n,h1,c,d⟩:=Qn1 h;refine⟨n+1,by simpa using h1,c,fun j z b a=>?_⟩;cases j with|zero=>simp at a;subst a;exact hp|succ j=>exact d j z (by omega) (by simpa using a)
theorem QiR{f}{e}(h:e<5):(evsC f).drop (e*5)=evC e (f e)++(evsC f).drop ((e+1)*5):=by
 obtain rfl|rfl|rfl|rfl|rfl:e=0\/e=1\/e=2\/e=3\/e=4:=by omega
 all_goals rfl
theorem Qn2(h:WfCel c){r}(b:y∈yls c k r):y.1<5:=by
 unfold yls at b;obtain⟨e,he,a⟩:=ZbW.1 b;unfold ylE at a;split at a;·cases a;unfold evO at he;obtain⟨x,d,rfl⟩:=Zaq.1 he;have hw:=QdZ (Qbt h) (by rw[Qbl];have:=h.c3;omega);exact hw.a5 _ (hw.ev x (ZaZ.1 d).1)
 cases a
theorem Qvx{c}{i}{t}(a:(vioV (t.take c.cs.length) c.xs c.ks).2.2=true):(rsn c i t).toList=[(i,(vioV (t.take c.cs.length) c.xs c.ks).1,(vioV (t.take c.cs.length) c.xs c.ks).2.1,-1)]:=by unfold rsn;rw[if_pos a];rfl
theorem QwU{c}{i}{t}(a:(vioV (t.take c.cs.length) c.xs c.ks).2.2=false):(rsn c i t).toList=(((yls c (ixT (Z0 (auL c.cs)).1 (t.take c.cs.length)) (t.drop c.cs.length)).find? fun y=>!(c.ev y.1).c).map fun y=>(i,3,y.2,(y.1:Int))).toList:=by unfold rsn;rw[if_neg (by simp[a])]
theorem set3{j}{c}(hk:Nat.blt k 1099511627775=true):(((h.set k a).set k b).set k c).get j=(h.set k c).get j:=by
 have d:k<1099511627775:=by simpa using hk
 by_cases e:j=k;·subst e;rw[QaA d,QaA d]
 rw[QaH d e,QaH d e,QaH d e,QaH d e]
theorem set6{l f m j}{u v w d}(hk:(Nat.blt k 1099511627775&&Nat.blt l 1099511627775&&Nat.blt f 1099511627775&&Nat.blt m 1099511627775)=true):((((((h.set k a).set k b).set l u).set f v).set m w).set k d).get j=((((h.set l u).set f v).set m w).set k d).get j:=by
 simp only[Zac,Zb1]at hk;obtain⟨⟨⟨h1,c⟩,g⟩,i⟩:=hk;by_cases e:j=k;·subst e;rw[QaA h1,QaA h1]
 rw[QaH h1 e,QaH h1 e];by_cases o:j=m;·subst o;rw[QaA i,QaA i]
 rw[QaH i o,QaH i o];by_cases p:j=f;·subst p;rw[QaA g,QaA g]
 rw[QaH g p,QaH g p];by_cases n:j=l;·subst n;rw[QaA c,QaA c]
 rw[QaH c n,QaH c n,QaH h1 e,QaH h1 e]
theorem _root_.Go.AM.au31{p:Prop}(h:p:=by repeat(first|exact ZcB|(refine ZcC ?_ ?_;·(first|exact Zcr|exact Rn.x1 rfl rfl|exact Rn.x2 rfl rfl|exact Rn.x3 rfl rfl|exact Rn.x4 rfl rfl|exact Rn.x5 rfl|exact Rn.x6 rfl|exact Rn.x7 rfl|(refine ZcN ?_ ?_;(first|rfl|(rw[ZaF];rfl));(first|rfl|(simp only[noRef,noRefs,SD.Qaa,SD.Qab,SD.Qaf,SD.Qag,SD.Qah,SD.Qai,SD.Qaj,SD.Qam,SD.Qan,SD.Qar,SE.QaQ,SE.Qal,SE.Qao,SE.Qap,SE.Qaq,SE.Qay,SO.Qa8,SO.Qa9,SO.QaD,SO.QaG,SO.QaP,SO.QaS,SO.QaT,SO.Qaz,SO.Qbf,SO.Qbv,SO.Qdu,SU.Qa2,SU.Qa3,SU.QaX,SU.QbA,SU.Qbc,Zad,Zae,Zai];done)))|(refine Rn.fn ?_ ?_<;>(repeat'(first|exact ZcJ|refine ZcK ?_ ?_|exact Zcs rfl|exact Rn.x6 rfl|exact Rn.x2 rfl rfl|exact Rn.x5 rfl|exact Rn.x1 rfl rfl))))))):p:=h
theorem specify18(c)(h:WfCel c):Ps 52 [celV c] (.tup [.agg (spC c),.int .i64 0]):=by
 have s:=Qbh c;have hns:noRef (.tup [.agg (spC c),.int .i64 0])=true:=by rw[noRef,noRefs,noRef,spC,QjT];rfl
 refine Zcu 64 (Ok TQ.s52) rfl (by rw[noRefs,SU.QaY];rfl) hns ?_;have h0:=h.c0;have h3:=h.c3;have h2:=h.r2;have hO:=open70 c h;have hin:=QpU h;have hPi:=QdY (fun a ha=>(Qbt h a ha).pos) fun a ha=>(Qbt h a ha).wf.esn;have O:=QiP (Qb9 h) (by rw[Qck];omega);have hT243:=O.2.1;clear O;have hPin:∀x∈(Z0 (auL c.cs)).1,InT (auL c.cs) x:=hPi.inT;have hpn:(syncA (auL c.cs)).n=(Z0 (auL c.cs)).1.length:=rfl;have l:=fun t(u:c.cs.length<=t.length)=>split71 c t h0 u;have U:=fun t(u:InT (auL c.cs) t)=>violated73 c h u;have Q:=fun k r=>refused74 c k r;have N:=fun{k:Nat}hk r hr hrn{b m:Nat}H H' n=>@refused160 c h k hk r hr hrn b m H H' n;have hrs:∀i t,(Z0 (allA c)).1[i]?=some t->rsnO c i=(rsn c i t).toList:=fun i t u=>by unfold rsnO;rw[Zah,u];rfl
 have hrv:=fun i t=>@QwU c i t;have hle:=QiQ c;have hsu:=Qhc c;have hst:=Qfc c (syncA (auL c.cs)) (syncA (allA c)) (Z0 (auL c.cs)).1 (Z0 (allA c)).1;rw[spC]at*;rw[stC]at hO l Q;generalize syncA (auL c.cs)=p at*;generalize syncA (allA c)=q at*;generalize(Z0 (auL c.cs)).1=P at*;generalize(Z0 (allA c)).1=T at*;have o:=Qa8 T;have L:noRef (.fptr (stG c p q P T))=true:=by rw[noRef];exact hst
 have hnc:=SU.QaY c;unfold TQ.s52;refine Zc4 ?_;refine cp hO ?_;refine Zc4 ?_;refine Qas 200 (fun i:Nat=>[(1,.ptr 51 0 0),(2,.ptr 53 0 0),(4,.fptr (stG c p q P T)),(6,.ptr 52 0 0),(35,tuV T),(36,.int .i64 T.length),(37,.int .i64 i)]) (fun i=>[(51,.cells 0 [evsV c.ev,its 99 c.cs,its 114 c.rs,exs c.xs,cos c.ks]),(52,.cells 0 [ZN q.al,.int .i64 (q.n:Int),ZN q.ms,egsN q.es,.sl 60 0 0 i 1,.sl 61 0 0 i 1,.sl 62 0 0 i 1,.sl 63 0 0 (forb c i).length 4]),(53,.cells 0 [.nilsl,.int .i64 0,.nilsl,.nilsl,.nilsl,.nilsl,.nilsl,.nilsl]),(60,.cells 0 ((spA c (T.take i)).map ZN)),(61,.cells 0 ((spB c (T.take i)).map ZN)),(62,.cells 0 (ZI (nz (spP c P (T.take i))))),(63,.cells 0 ((forb c i).flatMap rsC))]) (fun i=>i<=T.length) (fun i=>T.length-i) 0 0 400 (fun _:Unit=>[(2,.ptr 53 0 0),(6,.ptr 52 0 0)]) (fun _=>[(52,.cells 0 (spG c q P T)),(53,.cells 0 [.nilsl,.int .i64 0,.nilsl,.nilsl,.nilsl,.nilsl,.nilsl,.nilsl])]) (fun _=>True) ?_ (Zaj _) ?_ ?_;·refine⟨[(51,.blk 64 0),(52,.blk 81 0),(53,.blk 65 0),(60,.nil),(61,.nil),(62,.nil),(63,.nil)],rfl,ZcA,?_,ZcC (Rn.x2 rfl rfl) (ZcC (Rn.x2 rfl rfl) (ZcC (Zcs L) (ZcC (Rn.x2 rfl rfl) (ZcC (Zcs o) au31))))⟩;exact ZcE rfl rfl gg (Zct s) (ZcE rfl rfl gg (ZcK (Zcs (Qab _)) (ZcK (Zcs rfl) (ZcK (Zcs (Qab _)) (ZcK (Zcs (Qaj _)) (ZcK (Rn.x4 rfl rfl) (ZcK (Rn.x4 rfl rfl) (ZcK (Rn.x4 rfl rfl) (ZcK (Rn.x4 rfl rfl) ZcJ)))))))) (ZcE rfl rfl gg (Zct rfl) (ZcF rfl rfl (ZcF rfl rfl (ZcF rfl rfl (ZcF rfl rfl ZcD))))))
 ·rintro i hi;by_cases S:i<T.length
  ·obtain⟨t,u⟩:=Qak S;obtain⟨hit,hpt⟩:=hin t (Zaa u);have htl:c.cs.length<=t.length:=by rw[hit.1,Qck];omega
   have I:=Qt6 (A:=auL c.cs) (B:=auL c.rs) hit;have K:=Qt7 (A:=auL c.cs) (B:=auL c.rs) hit;rw[Qbl]at I K;have hl1:(t.take c.cs.length).length<=3:=by rw[Zap];omega
   have hl2:(t.drop c.cs.length).length<=2:=by rw[K.1,Qbl];omega
   have hsp:=l t htl;have hky:=key72 h I;have hv:=U _ I;have hcl1:=clone41 (t.take c.cs.length) (by omega);have hcl2:=clone41 (t.drop c.cs.length) (by omega);have hk:=QjP hpt;have V:(spA c (T.take (i+1))).map ZN=(spA c (T.take i)).map ZN++[ZN (t.take c.cs.length)]:=by unfold spA;rw[take_succ' u];simp
   have Y:(spB c (T.take (i+1))).map ZN=(spB c (T.take i)).map ZN++[ZN (t.drop c.cs.length)]:=by unfold spB;rw[take_succ' u];simp
   have X:spP c P (T.take (i+1))=spP c P (T.take i)++[ixT P (t.take c.cs.length)]:=by unfold spP;rw[take_succ' u];simp
   have hla:((spA c (T.take i)).map ZN).length=i:=by unfold spA;simp;omega
   have Z:((spB c (T.take i)).map ZN).length=i:=by unfold spB;simp;omega
   have hlp:(ZI (nz (spP c P (T.take i)))).length=i:=by unfold spP;simp[ZI];omega
   have G:=QsQ (forb c i);have hlf2:=hle i;have B:=hrs i t u;have hsi:=hsu i;have M:=hrv i t;have F:=@Qvx c i t;have hk:ixT P (t.take c.cs.length)<p.n:=by rw[hpn];exact hk
   have hr2:(t.drop c.cs.length).length=c.rs.length:=by rw[K.1,Qbl]
   have R:∀(j:Nat)y,c.rs[j]?=some y->(t.drop c.cs.length).getD j 0<y.2.n:=fun j y hy=>K.2 j y.2 (by rw[ZaA,hy];rfl);have hfa:∀z,(forb c i++[z]).flatMap rsC=(forb c i).flatMap rsC++rsC z:=fun z=>by simp
   have A:noRefs [ZN (t.take c.cs.length)]=true:=by rw[noRefs,Qab];rfl
   have C:noRefs [ZN (t.drop c.cs.length)]=true:=by rw[noRefs,Qab];rfl
   generalize spA c (T.take i)=LA at*;generalize spB c (T.take i)=LB at*;generalize spP c P (T.take i)=LP at*;generalize t.take c.cs.length=t1 at*;generalize t.drop c.cs.length=t2 at*;generalize vioV t1 c.xs c.ks=v at*;obtain⟨v1,v2,v3⟩:=v;dsimp only at M F hv;have hrf:=Q (ixT P t1) t2;refine Zc5 (Zc8 S (Qhr u)) ?_;refine cp hsp ?_;refine Zc4 ?_;refine cp hky ?_;refine Zc4 ?_;refine QeZ (c:=keyC) (f:=ixV P) (x:=t1) (l:=P) (Qha (fun a ha=>(Qbt h a ha).j) I hPin) hpt ?_;simp(disch:=first|omega|exact PairsOK.mk rfl|(simp only[lenW]<;>omega))only[ixV,Qac,Qad,Qae,wW,wV,simprocAttr];refine QcU [(56,[60]),(62,[61]),(68,[62])] rfl rfl ?_;refine Zc4 ?_;refine cp hcl1 ?_;refine Zc4 ?_;refine cp hcl2 ?_;refine Zc5 (Zc9 hla Z hlp) ?_;refine⟨⟨⟨_,rfl,fun b hb=>hb⟩,⟨_,rfl,fun b hb=>hb⟩,⟨_,rfl,fun b hb=>hb⟩,trivial⟩,?_⟩;refine cp hv ?_;cases v3 with|true=>have d:=F rfl;refine Zc5 G ?_;refine⟨i+1,by omega,by omega,?_⟩;rw[V,Y,X,hsi,B,d,hfa,Zag,QaM,QaB];refine⟨[(51,.blk 51 0),(52,.blk 52 0),(53,.blk 53 0),(60,.blk 60 1),(61,.blk 61 1),(62,.blk 62 1),(63,.blk 63 1)],rfl,ZcA,?_,ZcC (Rn.x2 rfl rfl) (ZcC (Rn.x2 rfl rfl) (ZcC (Zcs L) (ZcC (Rn.x2 rfl rfl) (ZcC (Zcs o) au31))))⟩;exact ZcE rfl rfl gg (Zct s) (ZcE rfl rfl gg (ZcK (Zcs (Qab _)) (ZcK (Zcs rfl) (ZcK (Zcs (Qab _)) (ZcK (Zcs (Qaj _)) (ZcK (Rn.x1 rfl rfl) (ZcK (Rn.x1 rfl rfl) (ZcK (Rn.x1 rfl rfl) (ZcK (Rn.x1 rfl rfl) ZcJ)))))))) (ZcE rfl rfl gg (Zct rfl) (ZcE rfl rfl gg (Zct (SU.Qav (Qax Qab _) A)) (ZcE rfl rfl gg (Zct (SU.Qav (Qax Qab _) C)) (ZcE rfl rfl gg (Zct (SU.Qav (Qaa _) rfl)) (ZcE rfl rfl gg (Zct (SU.Qav (Qa9 _) rfl)) ZcD))))))|false=>
    have d:=M rfl;refine Zc4 ?_;refine cp hrf ?_;refine Zc4 ?_;have E:∀{x1 x2 x3 x4 x5 x6 x7 x8:Blk},(hp [(51,x1),(52,x2),(53,x3),(54,x4),(60,x5),(61,x6),(62,x7),(63,x8)]).get 150=none:=fun{x1 x2 x3 x4 x5 x6 x7 x8}=>by simp(disch:=omega)only[Qa0,Qne,QaH,get_e]
    cases J:(yls c (ixT P t1) t2).find? fun y=>!(c.ev y.1).c with|none=>
     rw[J]at d;replace d:(rsn c i t).toList=[]:=d;refine Ql4 (n':=700) (b:=150) (T':=[(1,.ptr 51 0 0),(2,.ptr 53 0 0),(4,.fptr (stG c p q P T)),(6,.ptr 52 0 0),(7,.ptr 54 0 0),(35,tuV T),(36,.int .i64 T.length),(37,.int .i64 i),(99,rfF c (ixT P t1) t2)]) (L:=[(51,.cells 0 [evsV c.ev,its 99 c.cs,its 114 c.rs,exs c.xs,cos c.ks]),(52,.cells 0 [ZN q.al,.int .i64 (q.n:Int),ZN q.ms,egsN q.es,.sl 60 0 0 (i+1) 1,.sl 61 0 0 (i+1) 1,.sl 62 0 0 (i+1) 1,.sl 63 0 0 (forb c i).length 4]),(53,.cells 0 [.nilsl,.int .i64 0,.nilsl,.nilsl,.nilsl,.nilsl,.nilsl,.nilsl]),(54,.cells 0 [.int .i64 (i:Int)]),(60,.cells 0 (LA.map ZN++[ZN t1])),(61,.cells 0 (LB.map ZN++[ZN t2])),(62,.cells 0 (ZI (nz LP)++[.int .i64 (ixT P t1:Int)])),(63,.cells 0 ((forb c i).flatMap rsC))]) ?_ rfl E rfl (N (m:=1000) hk t2 hr2 R (fun _=>_) _ (yls c (ixT P t1) t2).length ?_ (Zar _) ?_ (.inl ⟨rfl,rfl⟩)) gg ?_;·refine⟨[(51,.blk 51 0),(52,.blk 52 0),(53,.blk 53 0),(54,.blk 204 0),(60,.blk 60 1),(61,.blk 61 1),(62,.blk 62 1),(63,.blk 63 0)],rfl,ZcA,?_,ZcC (Rn.x2 rfl rfl) (ZcC (Rn.x2 rfl rfl) (ZcC (Zcs L) (ZcC (Rn.x2 rfl rfl) (ZcC (Rn.x2 rfl rfl) (ZcC (Zcs o) (ZcC (Zcs rfl) (ZcC (Zcs rfl) (ZcC (Zcs (Qhb _ _ _)) ZcB))))))))⟩;exact ZcE rfl rfl gg (Zct s) (ZcE rfl rfl gg (ZcK (Zcs (Qab _)) (ZcK (Zcs rfl) (ZcK (Zcs (Qab _)) (ZcK (Zcs (Qaj _)) (ZcK (Rn.x1 rfl rfl) (ZcK (Rn.x1 rfl rfl) (ZcK (Rn.x1 rfl rfl) (ZcK (Rn.x1 rfl rfl) ZcJ)))))))) (ZcE rfl rfl gg (Zct rfl) (ZcE rfl rfl gg (Zct rfl) (ZcE rfl rfl gg (Zct (SU.Qav (Qax Qab _) A)) (ZcE rfl rfl gg (Zct (SU.Qav (Qax Qab _) C)) (ZcE rfl rfl gg (Zct (SU.Qav (Qaa _) rfl)) (ZcE rfl rfl gg (Zct (Qa9 _)) ZcD)))))))
     ·exact(by repeat(first|exact Fresh.e|exact Zcw (by assumption) (by omega)|refine Zcx ?_ (by omega) (by omega)))
     ·intro j y hj hy;have g:=Qn2 h (Zaa hy);have f:(c.ev y.1).c=true:=by simpa using ZbX.1 J y (Zaa hy)
      exact bsUnl
     unfold leftQ;refine Zc4 ?_;refine⟨i+1,by omega,by omega,?_⟩;rw[V,Y,X,hsi,B,d,Zas,QaM,QaB];refine⟨[(51,.blk 51 0),(52,.blk 52 0),(53,.blk 53 0),(60,.blk 60 0),(61,.blk 61 0),(62,.blk 62 0),(63,.blk 63 0)],rfl,ZcA,?_,ZcC (Rn.x2 rfl rfl) (ZcC (Rn.x2 rfl rfl) (ZcC (Zcs L) (ZcC (Rn.x2 rfl rfl) (ZcC (Zcs o) au31))))⟩;exact ZcE rfl rfl gg (Zct s) (ZcE rfl rfl gg (ZcK (Zcs (Qab _)) (ZcK (Zcs rfl) (ZcK (Zcs (Qab _)) (ZcK (Zcs (Qaj _)) (ZcK (Rn.x1 rfl rfl) (ZcK (Rn.x1 rfl rfl) (ZcK (Rn.x1 rfl rfl) (ZcK (Rn.x1 rfl rfl) ZcJ)))))))) (ZcE rfl rfl gg (Zct rfl) (ZcE rfl rfl gg (Zct (SU.Qav (Qax Qab _) A)) (ZcE rfl rfl gg (Zct (SU.Qav (Qax Qab _) C)) (ZcE rfl rfl gg (Zct (SU.Qav (Qaa _) rfl)) (ZcE rfl rfl gg (Zct (Qa9 _)) ZcD))))))|some y=>
     rw[J]at d;replace d:(rsn c i t).toList=[(i,3,y.2,(y.1:Int))]:=d;obtain⟨n,w,hn2',hn3'⟩:=Qn1 J;have hlen:n<(yls c (ixT P t1) t2).length:=(Zaf.1 w).1;have g:=Qn2 h (Zaa w);have f:(c.ev y.1).c=false:=by simpa using hn2'
     refine Ql4 (n':=700) (b:=150) (T':=[(1,.ptr 51 0 0),(2,.ptr 53 0 0),(4,.fptr (stG c p q P T)),(6,.ptr 52 0 0),(7,.ptr 54 0 0),(35,tuV T),(36,.int .i64 T.length),(37,.int .i64 i),(99,rfF c (ixT P t1) t2)]) (L:=[(51,.cells 0 [evsV c.ev,its 99 c.cs,its 114 c.rs,exs c.xs,cos c.ks]),(52,.cells 0 [ZN q.al,.int .i64 (q.n:Int),ZN q.ms,egsN q.es,.sl 60 0 0 (i+1) 1,.sl 61 0 0 (i+1) 1,.sl 62 0 0 (i+1) 1,.sl 63 0 0 (forb c i).length 4]),(53,.cells 0 [.nilsl,.int .i64 0,.nilsl,.nilsl,.nilsl,.nilsl,.nilsl,.nilsl]),(54,.cells 0 [.int .i64 (i:Int)]),(60,.cells 0 (LA.map ZN++[ZN t1])),(61,.cells 0 (LB.map ZN++[ZN t2])),(62,.cells 0 (ZI (nz LP)++[.int .i64 (ixT P t1:Int)])),(63,.cells 0 ((forb c i).flatMap rsC))]) (st:=.done (.exit 2)) ?hrec rfl E rfl (N (m:=1000) hk t2 hr2 R (fun _=>_) (((((hp [(51,.cells 0 [evsV c.ev,its 99 c.cs,its 114 c.rs,exs c.xs,cos c.ks]),(52,.cells 0 [ZN q.al,.int .i64 (q.n:Int),ZN q.ms,egsN q.es,.sl 60 0 0 (i+1) 1,.sl 61 0 0 (i+1) 1,.sl 62 0 0 (i+1) 1,.sl 63 0 0 (forb c i).length 4]),(53,.cells 0 [.nilsl,.int .i64 0,.nilsl,.nilsl,.nilsl,.nilsl,.nilsl,.nilsl]),(54,.cells 0 [.int .i64 (i:Int)]),(60,.cells 0 (LA.map ZN++[ZN t1])),(61,.cells 0 (LB.map ZN++[ZN t2])),(62,.cells 0 (ZI (nz LP)++[.int .i64 (ixT P t1:Int)])),(63,.cells 0 ((forb c i).flatMap rsC))]).set 315 (.cells 0 (rsC (i,3,y.2,(y.1:Int))))).set 63 (.cells 1 ((forb c i).flatMap rsC++rsC (i,3,y.2,(y.1:Int))))).set 52 (.cells 0 [ZN q.al,.int .i64 (q.n:Int),ZN q.ms,egsN q.es,.sl 60 0 0 (i+1) 1,.sl 61 0 0 (i+1) 1,.sl 62 0 0 (i+1) 1,.sl 63 1 0 ((forb c i).length+1) 4])).set 150 (.loop 0 120 [(1,.ptr 51 0 0),(2,.ptr 53 0 0),(4,.fptr (stG c p q P T)),(6,.ptr 52 0 0),(7,.ptr 54 0 0),(35,tuV T),(36,.int .i64 T.length),(37,.int .i64 i),(99,rfF c (ixT P t1) t2)] [100,101] (.s lpA) (.s lpB) (.done (.exit 2)))) n ?hfr (Nat.le_of_lt hlen) ?hY (.inr ⟨y,w,?L⟩)) gg ?hQ;case hrec=>refine⟨[(51,.blk 51 0),(52,.blk 52 0),(53,.blk 53 0),(54,.blk 204 0),(60,.blk 60 1),(61,.blk 61 1),(62,.blk 62 1),(63,.blk 63 0)],rfl,ZcA,?_,ZcC (Rn.x2 rfl rfl) (ZcC (Rn.x2 rfl rfl) (ZcC (Zcs L) (ZcC (Rn.x2 rfl rfl) (ZcC (Rn.x2 rfl rfl) (ZcC (Zcs o) (ZcC (Zcs rfl) (ZcC (Zcs rfl) (ZcC (Zcs (Qhb _ _ _)) ZcB))))))))⟩;exact ZcE rfl rfl gg (Zct s) (ZcE rfl rfl gg (ZcK (Zcs (Qab _)) (ZcK (Zcs rfl) (ZcK (Zcs (Qab _)) (ZcK (Zcs (Qaj _)) (ZcK (Rn.x1 rfl rfl) (ZcK (Rn.x1 rfl rfl) (ZcK (Rn.x1 rfl rfl) (ZcK (Rn.x1 rfl rfl) ZcJ)))))))) (ZcE rfl rfl gg (Zct rfl) (ZcE rfl rfl gg (Zct rfl) (ZcE rfl rfl gg (Zct (SU.Qav (Qax Qab _) A)) (ZcE rfl rfl gg (Zct (SU.Qav (Qax Qab _) C)) (ZcE rfl rfl gg (Zct (SU.Qav (Qaa _) rfl)) (ZcE rfl rfl gg (Zct (Qa9 _)) ZcD)))))))
     case hfr=>exact(by repeat(first|exact Fresh.e|exact Zcw (by assumption) (by omega)|refine Zcx ?_ (by omega) (by omega)))
     case hY=>
      intro j z hj hz;have g:=Qn2 h (Zaa hz);have f:(c.ev z.1).c=true:=by simpa using hn3' j z hj hz
      exact bsUnl
     case L=>refine RSpec.of_wS (n:=300) rfl gg rfl rfl rfl ?_;simp(disch:=first|omega|exact PairsOK.mk rfl|(simp only[lenW]<;>omega))only[upsT,f,g,Qhj,QiR,evC,G,Qac,Qad,Qae,wW,wV,simprocAttr];exact⟨rfl,fun x=>set6 rfl⟩
     case hQ=>unfold leftQ;refine⟨rfl,?_⟩;refine Zc4 ?_;refine⟨i+1,by omega,by omega,?_⟩;rw[V,Y,X,hsi,B,d,hfa,Zag,QaM,QaB];refine⟨[(51,.blk 51 0),(52,.blk 52 0),(53,.blk 53 0),(60,.blk 60 0),(61,.blk 61 0),(62,.blk 62 0),(63,.blk 63 1)],rfl,ZcA,?_,ZcC (Rn.x2 rfl rfl) (ZcC (Rn.x2 rfl rfl) (ZcC (Zcs L) (ZcC (Rn.x2 rfl rfl) (ZcC (Zcs o) au31))))⟩;exact ZcE rfl rfl gg (Zct s) (ZcE rfl rfl gg (ZcK (Zcs (Qab _)) (ZcK (Zcs rfl) (ZcK (Zcs (Qab _)) (ZcK (Zcs (Qaj _)) (ZcK (Rn.x1 rfl rfl) (ZcK (Rn.x1 rfl rfl) (ZcK (Rn.x1 rfl rfl) (ZcK (Rn.x1 rfl rfl) ZcJ)))))))) (ZcE rfl rfl gg (Zct rfl) (ZcE rfl rfl gg (Zct (SU.Qav (Qax Qab _) A)) (ZcE rfl rfl gg (Zct (SU.Qav (Qax Qab _) C)) (ZcE rfl rfl gg (Zct (SU.Qav (Qaa _) rfl)) (ZcE rfl rfl gg (Zct (SU.Qav (Qa9 _) rfl)) ZcD))))))
  have e:i=T.length:=by omega
  subst e;have hla:((spA c T).map ZN).length=T.length:=by unfold spA;simp
  have Z:((spB c T).map ZN).length=T.length:=by unfold spB;simp
  have hlp:(ZI (nz (spP c P T))).length=T.length:=by unfold spP;simp[ZI]
  have G:=QsQ (forb c T.length);refine Zc1 S ?_;refine⟨(),[(52,.blk 52 0),(53,.blk 53 0)],rfl,ZcA,?_,ZcC (Rn.x2 rfl rfl) (ZcC (Rn.x2 rfl rfl) ZcB)⟩;exact ZcE rfl rfl gg (ZcK (Zcs (Qab _)) (ZcK (Zcs rfl) (ZcK (Zcs (Qab _)) (ZcK (Zcs (Qaj _)) (ZcK (ZcL (b:=60) (g:=0) gg rfl rfl (by simp[spA]) (by simpa using hla) (Zct (Qax Qab _))) (ZcK (ZcL (b:=61) (g:=0) gg rfl rfl (by simp[spB]) (by simpa using Z) (Zct (Qax Qab _))) (ZcK (ZcL (b:=62) (g:=0) gg rfl rfl (by simp[spP]) (by simpa using hlp) (Zct (Qaa _))) (ZcK (ZcL (b:=63) (g:=0) gg rfl rfl rfl G (Zct (Qa9 _))) ZcJ)))))))) (ZcE rfl rfl gg (Zct rfl) ZcD)
 rintro _ _;refine Zc4 ?_;exact⟨.inr trivial,_,rfl,Zcs hns⟩
end Go.AM.SO
namespace Go.AM.TY
open Go.Proofs
set_option maxHeartbeats 4000000
noncomputable section
def cf:YA.Cf:={most:=.pure}
def s14:SFn:=by
 refine(?f:YA.Yt Tryz.prog cf 14 [[0,4],[12,13,11,14,15],[16],[1,5,6,17,18,19,20],[4,6,17],[21],[],[25,26,27],[9,28,29,30,31,32],[33],[1,22,23,24,35,36,37,34,38,39],[40],[5,7,10,6,41,42,43,44],[5,7,10,6,41,45,46,47,48,49,50]]) ?s ?h;case h=>exact YA.rr
 exact fun s _=>s
def s24:SFn:=by
 refine(?f:YA.Yt Tryz.prog cf 24 [[0,3],[1,8,9,7,10,11,12,4],[5,6,13,14,15]]) ?s ?h;case h=>exact YA.rr
 exact fun s _=>s
end
end Go.AM.TY
namespace Go.AM.SO
open Go.Proofs Go.AM.SD Go.AM.SE
variable{c:Cel}{l:List (Nat×Int×Int×Int)}{i:Nat}{x:Nat×Int×Int×Int}
def fbs(l:List (Nat×Int×Int×Int)):List Nat:=l.map (·.1)
abbrev fbd(c:Cel):List Nat:=fbs (forb c (Z0 (allA c)).1.length)
theorem Qt9(h:x∈rsnO c i):x.1=i:=by
 unfold rsnO rsn at h;split at h;·simp at h;rw[h]
 simp at h;obtain⟨a,b,_,rfl⟩:=h;rfl
theorem Qn3(c):∀n,(fbs (forb c n)).Pairwise (·<·)/\∀x∈fbs (forb c n),x<n
 |0=>by simp[forb,fbs]|n+1=>by
  obtain⟨h1,d⟩:=Qn3 c n;rw[Qhc];unfold fbs at h1 d⊢;rw[ZaJ];have hm:∀x∈(rsnO c n).map (·.1),x=n:=fun x a=>by obtain⟨y,b,rfl⟩:=Zaq.1 a;exact Qt9 b
  have f:((rsnO c n).map (·.1)).Pairwise (·<·):=by unfold rsnO;cases rsn c n _<;>simp
  refine⟨Zbg.2 ⟨h1,f,fun x a y b=>?_⟩,fun x a=>?_⟩;·rw[hm y b];exact d x a
  rcases ZaE.1 a with a|a;·have:=d x a;omega
  rw[hm x a];omega
theorem QpV(e):(uncL e 5).Pairwise (·<·)/\∀x∈uncL e 5,x<32:=by refine⟨List.pairwise_lt_range.filter _,fun x a=>?_⟩;have:=Zau.1 (ZaZ.1 a).1;omega
theorem qok_c(c):QOk (syncA (allA c)) (fbd c) (uncL c.ev 5):=⟨(Qn3 c _).1,(Qn3 c _).2,(QpV _).1,(QpV _).2⟩
theorem wfA_c(c)(h:WfCel c):WfA (syncA (allA c)):=(QdZ (Qb9 h) (by rw[Qck];have:=h.c3;have:=h.r2;omega)).toWfA
def resC(c:Cel):Res:=pRes (syncA (allA c)) (fbd c) (uncL c.ev 5) true
theorem Qua(h:l[i]?=some x):(l.flatMap rsC).drop (i*4)=.int .i64 (x.1:Int)::.int .i64 x.2.1::.int .i64 x.2.2.1::.int .i64 x.2.2.2::(l.drop (i+1)).flatMap rsC:=Qbi (f:=rsC) (k:=4) (fun _=>rfl) h
theorem Qub(h:l[i]?=some x):fbs (l.take (i+1))=fbs (l.take i)++[x.1]:=by unfold fbs;rw[take_succ' h,ZaJ];rfl
theorem Qvy(h:i<=l.length):(fbs (l.take i)).length=i:=by unfold fbs;rw[Zax,Zap];omega
abbrev ni9:List AV:=[.nilsl,.nilsl,.nilsl,.int .i64 0,.nilsl,.int .i64 0,.nilsl,.nilsl,.nilsl]
abbrev ni8:List AV:=[.nilsl,.int .i64 0,.nilsl,.nilsl,.nilsl,.nilsl,.nilsl,.nilsl]
theorem cell22(c)(h:WfCel c):Ps 14 [celV c] (.tup [.agg (spC c),SE.rsV (resC c),.int .i64 0]):=by
 have d:=Qbh c;have a:noRefs (spC c)=true:=QjT _ _ _ _;refine Zcu 64 (Ok TY.s14) rfl (by rw[noRefs,SU.QaY];rfl) (by rw[noRef,noRefs,noRef,a,noRefs,Qfb];rfl) ?_;have hO:=specify18 c h;have n:=select86 c.ev h.ev;have hw:=wfA_c c h;have t:=WfA.el1 hw;have o:=result39 (syncA (allA c)) (fbd c) (uncL c.ev 5) true hw (qok_c c) (by omega);have k:=Qfb (pRes (syncA (allA c)) (fbd c) (uncL c.ev 5) true);have hle:=QiQ c (Z0 (allA c)).1.length;have v:(Z0 (allA c)).1.length<=4096:=hw.n5;have p:(syncA (allA c)).n=(Z0 (allA c)).1.length:=rfl;unfold resC;rw[spC,spG]at hO a⊢;unfold fbd at*;generalize forb c (Z0 (allA c)).1.length=L at*;generalize pRes (syncA (allA c)) (fbs L) (uncL c.ev 5) true=R at*;generalize syncA (allA c)=q at*;generalize(Z0 (auL c.cs)).1=P at*;generalize(Z0 (allA c)).1=T at*;have s:(spA c T).length=T.length:=by simp[spA]
 have u:(spB c T).length=T.length:=by simp[spB]
 unfold TY.s14;refine Zc4 ?_;refine cp hO ?_;refine Zc4 ?_;refine Qas 140 (fun i:Nat=>[(1,.ptr 51 0 0),(2,.ptr 53 0 0),(3,.ptr 54 0 0),(5,.ptr 52 0 0),(7,.sl 76 0 0 i 1),(22,rss L),(23,.int .i64 L.length),(24,.int .i64 i)]) (fun i=>[(51,.cells 0 [evsV c.ev,its 99 c.cs,its 114 c.rs,exs c.xs,cos c.ks]),(52,.cells 0 [ZN q.al,.int .i64 (q.n:Int),ZN q.ms,egsN q.es,tuV (spA c T),tuV (spB c T),ZN (spP c P T),rss L]),(53,.cells 0 ni8),(54,.cells 0 ni9),(76,.cells 0 (ZI (nz (fbs (L.take i)))))]) (fun i=>i<=L.length) (fun i=>L.length-i) 0 0 200 (fun _:Unit=>[(1,.ptr 51 0 0),(2,.ptr 53 0 0),(3,.ptr 54 0 0),(5,.ptr 52 0 0),(7,ZN (fbs L))]) (fun _=>[(51,.cells 0 [evsV c.ev,its 99 c.cs,its 114 c.rs,exs c.xs,cos c.ks]),(52,.cells 0 [ZN q.al,.int .i64 (q.n:Int),ZN q.ms,egsN q.es,tuV (spA c T),tuV (spB c T),ZN (spP c P T),rss L]),(53,.cells 0 ni8),(54,.cells 0 ni9)]) (fun _=>True) ?_ (Zaj _) ?_ ?_;·refine⟨[(51,.blk 64 0),(52,.blk 73 0),(53,.blk 65 0),(54,.blk 66 0),(76,.nil)],rfl,au0,?_,au31⟩;exact ZcE rfl rfl gg (Zct d) (ZcE rfl rfl gg (Zct a) (ZcE rfl rfl gg (Zct rfl) (ZcE rfl rfl gg (Zct rfl) (ZcF rfl rfl ZcD))))
 ·rintro i hi;by_cases b:i<L.length
  ·obtain⟨x,m⟩:=Qak b;have f:=Qua m;have g:4<=((L.flatMap rsC).drop (i*4)).length:=by rw[f];simp
   have l:(ZI (nz (fbs (L.take i)))).length=i:=by simp[ZI,Qvy (show i<=L.length by omega)]
   refine Zc5 (Zda b f g l) ?_;refine⟨i+1,by omega,by omega,?_⟩;rw[Qub m,QaM,QaB];refine⟨[(51,.blk 51 0),(52,.blk 52 0),(53,.blk 53 0),(54,.blk 54 0),(76,.blk 76 1)],rfl,au0,?_,au31⟩;exact ZcE rfl rfl gg (Zct d) (ZcE rfl rfl gg (Zct a) (ZcE rfl rfl gg (Zct rfl) (ZcE rfl rfl gg (Zct rfl) (ZcE rfl rfl gg (Zct (SU.Qav (Qaa _) rfl)) ZcD))))
  have e:i=L.length:=by omega
  subst e;refine Zc1 b ?_;refine⟨(),?_⟩;exact⟨[(51,.blk 51 0),(52,.blk 52 0),(53,.blk 53 0),(54,.blk 54 0)],rfl,ZcA,ZcE rfl rfl gg (Zct d) (ZcE rfl rfl gg (Zct a) (ZcE rfl rfl gg (Zct rfl) (ZcE rfl rfl gg (Zct rfl) ZcD))),ZcC (Rn.x2 rfl rfl) (ZcC (Rn.x2 rfl rfl) (ZcC (Rn.x2 rfl rfl) (ZcC (Rn.x2 rfl rfl) (ZcC (ZcL (b:=76) (g:=0) gg rfl rfl (by simp[fbs]) (by simp[ZI,fbs]) (Zct (Qaa _))) ZcB))))⟩
 rintro _ _;refine Zc4 ?_;refine cp n ?_;refine Zc4 ?_;refine cp o ?_;refine Zc4 ?_;refine⟨.inr trivial,_,rfl,Zcs ?_⟩;rw[noRef,noRefs,noRef,a,noRefs,k];rfl
theorem supervisor23(c)(h:WfCel c):Ps 24 [celV c] (.tup [aV (resC c).sup,.int .i64 0]):=by have d:=Qbh c;refine Zcu 64 (Ok TY.s24) rfl (by rw[noRefs,SU.QaY];rfl) (by simp only[noRef,noRefs,Qaa,Qag];rfl) ?_;have hO:=cell22 c h;rw[spC,spG]at hO;generalize resC c=R at*;have b:=Qa8 (spA c (Z0 (allA c)).1);have a:=Qa8 (spB c (Z0 (allA c)).1);generalize forb c (Z0 (allA c)).1.length=L at*;generalize spP c (Z0 (auL c.cs)).1 (Z0 (allA c)).1=P at*;generalize spA c (Z0 (allA c)).1=A at*;generalize spB c (Z0 (allA c)).1=B at*;generalize syncA (allA c)=q at*;unfold TY.s24;refine Zc4 ?_;refine cp hO ?_;refine Zc4 ?_;refine⟨.inr trivial,_,rfl,Zcs ?_⟩;simp only[noRef,noRefs,Qaa,Qag];rfl
end Go.AM.SO
namespace Go.AM
variable{P:Program}{N:NM}{r:List SOper}{dead:List Nat}{d:Option Nat}{fs:List Fr}{n:Nat}{T:Tmps}{h:Heap}{Q:QC}
theorem Qgl{k sz bytes:Nat}{zero}(hk:0<k)(h1:k*bytes<=140737488355328)(a:k<=140737488355328)(b:0<sz):wM P N (aAppendZ .dyn n sz bytes zero .nilsl (.int .i64 (k:Int))) d r dead fs n T h Q=wN P N (List.replicate k zero).flatten (.sl n 0 0 k sz) d r dead fs n T h Q:=by obtain⟨j,rfl⟩:∃j,k=j+1:=⟨k-1,by omega⟩;show wM P N (aAppendZ .dyn n sz bytes zero .nilsl (.int .i64 (.ofNat (j+1)))) d r dead fs n T h Q=_;simp only[aAppendZ];rw[if_pos ⟨h1,a,b⟩];exact QgK (x:=fun g=>.cells g _) rfl
end Go.AM
namespace Go.AM.SO
open Go.Proofs Go.AM.SD Go.AM.SE
variable{S:List (List (List UInt8×Aut))}{A:List (List UInt8×Aut)}{z:List AV}{i:Nat}
abbrev zIt:List AV:=[.str [],.nilsl,.int .i64 0,.nilsl,.nilsl]
theorem Qn4(k):noRefs (List.replicate k zIt).flatten=true:=by induction k with|zero=>rfl|succ k a=>rw[Za7,Zbw];exact SU.Qav rfl a
theorem capN:aCap .nilsl=some (.int .i64 0):=rfl
theorem sliceN{sz}:aSliceC (some sz) .nilsl none (some (.int .i64 0)) none=some .nilsl:=rfl
theorem _root_.Go.AM.au33{p:Prop}(h:p:=by repeat(first|exact ZcB|(refine ZcC ?_ ?_;·(first|exact Zcr|exact Rn.x1 rfl rfl|exact Rn.x2 rfl rfl|exact Rn.x3 rfl rfl|exact Rn.x4 rfl rfl|exact Rn.x5 rfl|exact Rn.x6 rfl|exact Rn.x7 rfl|(refine ZcN ?_ ?_;(first|rfl|(rw[ZaF];rfl));(first|rfl|(simp only[noRef,noRefs,SD.Qaa,SD.Qab,SD.Qaf,SD.Qag,SD.Qah,SD.Qai,SD.Qaj,SD.Qam,SD.Qan,SD.Qar,SE.QaQ,SE.Qal,SE.Qao,SE.Qap,SE.Qaq,SE.Qay,SO.Qa8,SO.Qa9,SO.QaD,SO.QaG,SO.QaP,SO.QaS,SO.QaT,SO.Qaz,SO.Qbf,SO.Qbv,SO.Qc1,SO.Qdu,SU.Qa2,SU.Qa3,SU.QaX,SU.QbA,SU.Qbc,Zad,Zae,Zai];done)))|(refine Rn.fn ?_ ?_<;>(repeat'(first|exact ZcJ|refine ZcK ?_ ?_|exact Zcs rfl|exact Rn.x6 rfl|exact Rn.x2 rfl rfl|exact Rn.x5 rfl|exact Rn.x1 rfl rfl))))))):p:=h
theorem grow203(k:Nat)(b:0<k)(hk:k<=1000000):HSpec Tryz.prog 203 [.nilsl,.int .i64 (k:Int)] .e (.sl 90 0 0 0 5) (hp [(90,.cells 0 (List.replicate k zIt).flatten)]):=by
 refine ZcV 100 (Ok UK.s203) rfl ?_;have h1:¬(k:Int)<0:=by omega
 have a:(0:Int)<(k:Int):=by omega
 simp(disch:=first|omega|exact PairsOK.mk rfl|(simp only[lenW]<;>omega))only[UK.s203,Qrk,Qi5,capN,sliceN,Qgl,Int.sub_zero,h1,a,wW,wV,simprocAttr];refine⟨.inr trivial,_,rfl,?_⟩;refine⟨[(90,.blk 118 0)],rfl,au0,?_,au33⟩;exact ZcE rfl rfl gg (Zct (Qn4 k)) ZcD
def catX(z:List AV)(S:List (List (List UInt8×Aut)))(i:Nat):List AV:=if i=0 then z else((S.take i).flatten).flatMap itN
theorem Quc{z}{S}{i g}:srcB (some (.cells g (catX z S i))) g 0 ((S.take i).flatten.length) 5=some (((S.take i).flatten).flatMap itN):=by
 unfold catX;split;·rename_i h;subst h;simp[Qb2]
 exact QfV (Qg6 _)
theorem QsR(h:S[i]?=some A):((S.take i).flatten).flatMap itN++A.flatMap itN=catX z S (i+1):=by unfold catX;rw[if_neg (by omega),take_succ' h,Zb4,Zao];simp
theorem Ql5(h:S[i]?=some A):(S.take (i+1)).flatten.length=(S.take i).flatten.length+A.length:=by rw[take_succ' h,Zb4,Zag];simp
theorem Qhs{S:List (List (List UInt8×Aut))}(i):(S.take i).flatten.length<=S.flatten.length:=by
 exact bzMHZ
theorem Qvz{k}:noRefs (catX (List.replicate k zIt).flatten S i)=true:=by
 unfold catX;split;·exact Qn4 k
 exact Qbf _
abbrev itss(S:List (List (List UInt8×Aut))):AV:=.fsl (S.map itsN) S.length 1
theorem Qc1(S:List (List (List UInt8×Aut))):noRefs (S.map itsN)=true:=by induction S with|nil=>rfl|cons x S a=>rw[ZaL,noRefs,Qdt,a];rfl
theorem Ql6(h:S[i]?=some A):((S.map itsN).drop i).head?=some (itsN A):=by rw[ZbC,ZaA,h];rfl
theorem _root_.Go.AM.au34{p:Prop}(h:p:=by repeat'(first|exact ZcD|(refine Zct ?_;first|rfl|(simp only[noRef,noRefs,SD.Qaa,SD.Qab,SD.Qaf,SD.Qag,SD.Qah,SD.Qai,SD.Qaj,SD.Qam,SD.Qan,SD.Qar,SE.QaQ,SE.Qal,SE.Qao,SE.Qap,SE.Qaq,SE.Qay,SO.Qa8,SO.Qa9,SO.QaD,SO.QaG,SO.QaP,SO.QaS,SO.QaT,SO.Qaz,SO.Qbf,SO.Qbv,SO.Qc1,SO.Qdu,SU.Qa2,SU.Qa3,SU.QaX,SU.QbA,SU.Qbc,Zad,Zae,Zai];done))|exact ZcR rfl|exact ZcJ|exact(True.intro:RnM _ _ _ [] [])|refine ZcK ?_ ?_|(refine Zcs ?_;first|rfl|(simp only[noRef,noRefs,SD.Qaa,SD.Qab,SD.Qaf,SD.Qag,SD.Qah,SD.Qai,SD.Qaj,SD.Qam,SD.Qan,SD.Qar,SE.QaQ,SE.Qal,SE.Qao,SE.Qap,SE.Qaq,SE.Qay,SO.Qa8,SO.Qa9,SO.QaD,SO.QaG,SO.QaP,SO.QaS,SO.QaT,SO.Qaz,SO.Qbf,SO.Qbv,SO.Qc1,SO.Qdu,SU.Qa2,SU.Qa3,SU.QaX,SU.QbA,SU.Qbc,Zad,Zae,Zai];done))|exact Rn.x1 rfl rfl|exact Rn.x2 rfl rfl|exact Rn.x3 rfl rfl|exact Rn.x4 rfl rfl|exact Rn.x5 rfl|exact Rn.x6 rfl|exact Rn.x7 rfl|refine ZcF rfl rfl ?_|refine ZcE rfl rfl rfl ?_ ?_|refine ZcG rfl rfl rfl ?_ ?_|refine ZcH rfl rfl ?_ ?_|refine ZcI rfl rfl ?_ ?_)):p:=h
theorem concat158(S)(hS:S.length<=1000)(m:0<S.flatten.length)(hk:S.flatten.length<=1000000):Ps 158 [itss S] (itsN S.flatten):=by
 refine Zcu 64 (Ok UK.s158) rfl (by rw[noRefs,noRef,Qc1];rfl) (Qdt _) ?_;have q:=Qc1 S;unfold UK.s158;refine Zc6 ?_;refine QaC 100 (fun i:Nat=>[(0,itss S),(3,.int .i64 ((S.take i).flatten.length:Nat)),(9,itss S),(10,.int .i64 S.length),(11,.int .i64 i)]) (fun _=>[]) (fun i=>i<=S.length) (fun i=>S.length-i) 0 ?_ (Zaj _) ?_;·exact⟨[],rfl,au0,au34,au33⟩
 rintro i hi;by_cases a:i<S.length
 ·obtain⟨A,b⟩:=Qak a;have k:=Ql6 b;have o:=@Qhs S i;have b2:=@Qhs S (i+1);have d:=Ql5 b;rw[d]at b2;have f:¬((S.take i).flatten.length:Int)+(A.length:Int)<0:=by omega
  refine Zc7 (Zc9 a k f) ?_;refine⟨i+1,by omega,by omega,?_⟩;rw[d];exact⟨[],rfl,au0,au34,au33⟩
 have e:i=S.length:=by omega
 subst e;refine Zc7 (Zc8 a @Zan) ?_;refine ch (ZcU (b:=90) (by(try simp only[noRefs,Qaa,noRef,noRefs,Qaz,SU.QaY,Zae,Zad])<;>rfl) (grow203 _ m hk) (by repeat(first|exact Fresh.e|exact Zcw (by assumption) (by omega)|refine Zcx ?_ (by omega) (by omega))) rfl) ?_;refine Zc6 ?_;generalize n:(List.replicate S.flatten.length zIt).flatten=z;have g:∀i,noRefs (catX z S i)=true:=fun i=>by rw[<-n];exact Qvz
 refine Qas 200 (fun i:Nat=>[(6,.sl 91 0 0 (S.take i).flatten.length 5),(25,itss S),(26,.int .i64 S.length),(27,.int .i64 i)]) (fun i=>[(91,.cells 0 (catX z S i))]) (fun i=>i<=S.length) (fun i=>S.length-i) 0 2 260 (fun _:Unit=>[(6,itsN S.flatten)]) (fun _=>[]) (fun _=>True) ?_ (Zaj _) ?_ ?_;·refine⟨[(91,.blk 90 0)],rfl,au0,?_,au33⟩;exact ZcE rfl rfl gg (Zct (by rw[<-n];exact Qn4 _)) ZcD
 ·rintro i hi;by_cases a:i<S.length;·obtain⟨A,b⟩:=Qak a;have k:=Ql6 b;have o:=@Qhs S i;have b2:=@Qhs S (i+1);have d:=Ql5 b;rw[d]at b2;have p:=@Quc z S i;have c:(A.flatMap itN).all AV.one=true:=Qc7 (fun _=>rfl) _;have l:=QsR (z:=z) b;refine Zc7 (Zdb a k @p c l) ?_;refine⟨i+1,by omega,by omega,?_⟩;rw[d];refine⟨[(91,.blk 91 1)],rfl,au0,?_,au33⟩;exact ZcE rfl rfl gg (Zct (g _)) ZcD
  have e:i=S.length:=by omega
  subst e;have l:catX z S S.length=S.flatten.flatMap itN:=by unfold catX;rw[if_neg (fun h=>by rw[List.length_eq_zero_iff]at h;subst h;simp at m),Zan]
  refine Zc7 (Zc9 a l @Zan) ?_;exact⟨(),[],rfl,ZcA,ZcD,ZcC (ZcL (b:=91) (g:=0) gg rfl rfl rfl (Qg6 _) (Zct (Qbf _))) ZcB⟩
 rintro _ _;refine Zc6 ?_;exact⟨.inr trivial,_,rfl,Zcs (Qdt _)⟩
end Go.AM.SO
namespace Go.AM.VM
open Go.Proofs
set_option maxHeartbeats 4000000
noncomputable section
def cf:YA.Cf:={}
def s49:SFn:=by
 refine(?f:YA.Yt Tryz.prog cf 49 [[0,4],[1,2,5,6,7,8,9,10,11,12,13,14,15,16]]) ?s ?h;case h=>exact YA.rr
 exact fun s _=>s
def s110:SFn:=by
 refine(?f:YA.Yt Tryz.prog cf 110 [[2],[],[],[],[12,13,14],[5,15,16,17,18],[19],[20,21],[20,22],[3,9,10,11,23,24],[0],[],[28,29,30],[8,31,32,33],[34],[6,25,26,27,35]]) ?s ?h;case h=>exact YA.rr
 exact fun s _=>s
def s166:SFn:=by
 refine(?f:YA.Yt Tryz.prog cf 166 [[4],[5],[6,7],[6,8,9,10,11,12,13,14],[15],[1,16,17,18,19,20,21,22,23,24,25],[0,1,16,26]]) ?s ?h;case h=>exact YA.rr
 exact fun s _=>s
end
end Go.AM.VM
namespace Go.AM.SO
open Go.Proofs Go.AM.SD Go.AM.SE
variable{b:Bxn}{g:Gdn}{S:List (List Nat)}{v:List (List UInt8×Int)}{z:List AV}{l:List Gdn}{A:List Nat}{i k:Nat}
abbrev zI:List AV:=[.int .i64 0]
theorem zI_nr(k):noRefs (List.replicate k zI).flatten=true:=by induction k with|zero=>rfl|succ k a=>rw[Za7,Zbw];exact SU.Qav rfl a
theorem _root_.Go.AM.au35{p:Prop}(h:p:=by repeat(first|exact ZcB|(refine ZcC ?_ ?_;·(first|exact Zcr|exact Rn.x1 rfl rfl|exact Rn.x2 rfl rfl|exact Rn.x3 rfl rfl|exact Rn.x4 rfl rfl|exact Rn.x5 rfl|exact Rn.x6 rfl|exact Rn.x7 rfl|(refine ZcN ?_ ?_;(first|rfl|(rw[ZaF];rfl));(first|rfl|(simp only[noRef,noRefs,SD.Qaa,SD.Qab,SD.Qaf,SD.Qag,SD.Qah,SD.Qai,SD.Qaj,SD.Qam,SD.Qan,SD.Qar,SE.QaQ,SE.Qal,SE.Qao,SE.Qap,SE.Qaq,SE.Qay,SO.Qa8,SO.Qa9,SO.QaD,SO.QaG,SO.QaP,SO.QaS,SO.QaT,SO.Qaz,SO.Qbf,SO.Qbv,SO.Qc1,SO.Qdu,SO.Qdz,SU.Qa2,SU.Qa3,SU.QaX,SU.QbA,SU.Qbc,Zad,Zae,Zai];done)))|(refine Rn.fn ?_ ?_<;>(repeat'(first|exact ZcJ|refine ZcK ?_ ?_|exact Zcs rfl|exact Rn.x6 rfl|exact Rn.x2 rfl rfl|exact Rn.x5 rfl|exact Rn.x1 rfl rfl))))))):p:=h
theorem grow166(k:Nat)(b:0<k)(hk:k<=1000000):HSpec Tryz.prog 166 [.nilsl,.int .i64 (k:Int)] .e (.sl 90 0 0 0 1) (hp [(90,.cells 0 (List.replicate k zI).flatten)]):=by
 refine ZcV 100 (Ok VM.s166) rfl ?_;have h1:¬(k:Int)<0:=by omega
 have a:(0:Int)<(k:Int):=by omega
 simp(disch:=first|omega|exact PairsOK.mk rfl|(simp only[lenW]<;>omega))only[VM.s166,Qrk,Qi5,capN,sliceN,Qgl,Int.sub_zero,h1,a,wW,wV,simprocAttr];refine⟨.inr trivial,_,rfl,?_⟩;refine⟨[(90,.blk 118 0)],rfl,au0,?_,au35⟩;exact ZcE rfl rfl gg (Zct (zI_nr k)) ZcD
theorem QsS(l):(ZI (nz l)).length=l.length*1:=by simp[ZI,nz]
theorem Qud:ZI (nz ([]:List Nat))=[]:=rfl
def catY(z:List AV)(S:List (List Nat))(i:Nat):List AV:=if i=0 then z else ZI (nz (S.take i).flatten)
theorem Que{z}{S}{i g}:srcB (some (.cells g (catY z S i))) g 0 ((S.take i).flatten.length) 1=some (ZI (nz (S.take i).flatten)):=by
 unfold catY;split;·rename_i h;subst h;simp[Qb2,Qud];rfl
 exact QfV (QsS _)
theorem QsT(h:S[i]?=some A):ZI (nz (S.take i).flatten)++ZI (nz A)=catY z S (i+1):=by unfold catY;rw[if_neg (by omega),take_succ' h,Zb4,QaM,QaB];simp
theorem Ql7(h:S[i]?=some A):(S.take (i+1)).flatten.length=(S.take i).flatten.length+A.length:=by rw[take_succ' h,Zb4,Zag];simp
theorem Qht{S:List (List Nat)}(i):(S.take i).flatten.length<=S.flatten.length:=by
 exact bzMHZ
theorem QvA:noRefs (catY (List.replicate k zI).flatten S i)=true:=by
 unfold catY;split;·exact zI_nr k
 exact Qaa _
abbrev nss(S:List (List Nat)):AV:=.fsl (S.map ZN) S.length 1
theorem Qdz(S:List (List Nat)):noRefs (S.map ZN)=true:=by induction S with|nil=>rfl|cons x S a=>rw[ZaL,noRefs,Qab,a];rfl
theorem Qn5(h:S[i]?=some A):((S.map ZN).drop i).head?=some (ZN A):=by rw[ZbC,ZaA,h];rfl
theorem _root_.Go.AM.au36{p:Prop}(h:p:=by repeat'(first|exact ZcD|(refine Zct ?_;first|rfl|(simp only[noRef,noRefs,SD.Qaa,SD.Qab,SD.Qaf,SD.Qag,SD.Qah,SD.Qai,SD.Qaj,SD.Qam,SD.Qan,SD.Qar,SE.QaQ,SE.Qal,SE.Qao,SE.Qap,SE.Qaq,SE.Qay,SO.Qa8,SO.Qa9,SO.QaD,SO.QaG,SO.QaP,SO.QaS,SO.QaT,SO.Qaz,SO.Qbf,SO.Qbv,SO.Qc1,SO.Qdu,SO.Qdz,SU.Qa2,SU.Qa3,SU.QaX,SU.QbA,SU.Qbc,Zad,Zae,Zai];done))|exact ZcR rfl|exact ZcJ|exact(True.intro:RnM _ _ _ [] [])|refine ZcK ?_ ?_|(refine Zcs ?_;first|rfl|(simp only[noRef,noRefs,SD.Qaa,SD.Qab,SD.Qaf,SD.Qag,SD.Qah,SD.Qai,SD.Qaj,SD.Qam,SD.Qan,SD.Qar,SE.QaQ,SE.Qal,SE.Qao,SE.Qap,SE.Qaq,SE.Qay,SO.Qa8,SO.Qa9,SO.QaD,SO.QaG,SO.QaP,SO.QaS,SO.QaT,SO.Qaz,SO.Qbf,SO.Qbv,SO.Qc1,SO.Qdu,SO.Qdz,SU.Qa2,SU.Qa3,SU.QaX,SU.QbA,SU.Qbc,Zad,Zae,Zai];done))|exact Rn.x1 rfl rfl|exact Rn.x2 rfl rfl|exact Rn.x3 rfl rfl|exact Rn.x4 rfl rfl|exact Rn.x5 rfl|exact Rn.x6 rfl|exact Rn.x7 rfl|refine ZcF rfl rfl ?_|refine ZcE rfl rfl rfl ?_ ?_|refine ZcG rfl rfl rfl ?_ ?_|refine ZcH rfl rfl ?_ ?_|refine ZcI rfl rfl ?_ ?_)):p:=h
theorem concat110(S)(hS:S.length<=1000)(m:0<S.flatten.length)(hk:S.flatten.length<=1000000):Ps 110 [nss S] (ZN S.flatten):=by
 refine Zcu 64 (Ok VM.s110) rfl (by rw[noRefs,noRef,Qdz];rfl) (Qab _) ?_;have q:=Qdz S;unfold VM.s110;refine Zc6 ?_;refine QaC 100 (fun i:Nat=>[(0,nss S),(3,.int .i64 ((S.take i).flatten.length:Nat)),(9,nss S),(10,.int .i64 S.length),(11,.int .i64 i)]) (fun _=>[]) (fun i=>i<=S.length) (fun i=>S.length-i) 0 ?_ (Zaj _) ?_;·exact⟨[],rfl,au0,au36,au35⟩
 rintro i hi;by_cases a:i<S.length
 ·obtain⟨A,b⟩:=Qak a;have k:=Qn5 b;have o:=@Qht S i;have b2:=@Qht S (i+1);have d:=Ql7 b;rw[d]at b2;have f:¬((S.take i).flatten.length:Int)+(A.length:Int)<0:=by omega
  refine Zc7 (Zc9 a k f) ?_;refine⟨i+1,by omega,by omega,?_⟩;rw[d];exact⟨[],rfl,au0,au36,au35⟩
 have e:i=S.length:=by omega
 subst e;refine Zc7 (Zc8 a @Zan) ?_;refine ch (ZcU (b:=90) (by(try simp only[noRefs,Qaa,noRef,noRefs,Qaz,SU.QaY,Zae,Zad])<;>rfl) (grow166 _ m hk) (by repeat(first|exact Fresh.e|exact Zcw (by assumption) (by omega)|refine Zcx ?_ (by omega) (by omega))) rfl) ?_;refine Zc6 ?_;generalize n:(List.replicate S.flatten.length zI).flatten=z;have g:∀i,noRefs (catY z S i)=true:=fun i=>by rw[<-n];exact QvA
 refine Qas 200 (fun i:Nat=>[(6,.sl 91 0 0 (S.take i).flatten.length 1),(25,nss S),(26,.int .i64 S.length),(27,.int .i64 i)]) (fun i=>[(91,.cells 0 (catY z S i))]) (fun i=>i<=S.length) (fun i=>S.length-i) 0 2 260 (fun _:Unit=>[(6,ZN S.flatten)]) (fun _=>[]) (fun _=>True) ?_ (Zaj _) ?_ ?_;·refine⟨[(91,.blk 90 0)],rfl,au0,?_,au35⟩;exact ZcE rfl rfl gg (Zct (by rw[<-n];exact zI_nr _)) ZcD
 ·rintro i hi;by_cases a:i<S.length;·obtain⟨A,b⟩:=Qak a;have k:=Qn5 b;have o:=@Qht S i;have b2:=@Qht S (i+1);have d:=Ql7 b;rw[d]at b2;have p:=@Que z S i;have c:(ZI (nz A)).all AV.one=true:=QnC _;have l:=QsT (z:=z) b;refine Zc7 (Zdb a k @p c l) ?_;refine⟨i+1,by omega,by omega,?_⟩;rw[d];refine⟨[(91,.blk 91 1)],rfl,au0,?_,au35⟩;exact ZcE rfl rfl gg (Zct (g _)) ZcD
  have e:i=S.length:=by omega
  subst e;have l:catY z S S.length=ZI (nz S.flatten):=by unfold catY;rw[if_neg (fun h=>by rw[List.length_eq_zero_iff]at h;subst h;simp at m),Zan]
  refine Zc7 (Zc9 a l @Zan) ?_;exact⟨(),[],rfl,ZcA,ZcD,ZcC (ZcL (b:=91) (g:=0) gg rfl rfl rfl (QsS _) (Zct (Qaa _))) ZcB⟩
 rintro _ _;refine Zc6 ?_;exact⟨.inr trivial,_,rfl,Zcs (Qab _)⟩
theorem tuple49{q:Aut}{A B}{P}{F}{s:Nat}{a b}(g:A[s]?=some a)(h:B[s]?=some b)(n:0<a.length)(m:a.length<=1000)(k:b.length<=1000):Ps 49 [.agg [ZN q.al,.int .i64 (q.n:Int),ZN q.ms,egsN q.es,tuV A,tuV B,ZN P,rss F],.int .i64 (s:Int)] (ZN (a++b)):=by
 have i:=concat110 [a,b] (by simp) (by simp;omega) (by simp;omega);rw[show[a,b].flatten=a++b from by simp]at i;have d:s<A.length:=(Zaf.1 g).1;have c:s<B.length:=(Zaf.1 h).1;have f:noRefs [ZN q.al,.int .i64 (q.n:Int),ZN q.ms,egsN q.es,tuV A,tuV B,ZN P,rss F]=true:=by have hA:noRefs (A.map ZN)=true:=Qax Qab _;have l:noRefs (B.map ZN)=true:=Qax Qab _;simp only[noRefs,noRef,Qaa,Qag,hA,l,Qa9];rfl
 refine Zcu 64 (Ok VM.s49) rfl (by rw[noRefs,noRef,f];rfl) (Qab _) ?_;unfold VM.s49;refine Zc7 (Zda d c (Qhr g) (Qhr h)) ?_;refine ch (HSpec.give1 (g:=0) (ds:=[ZN a,ZN b]) i gg (by rw[noRefs,Qab,noRefs,Qab];rfl) rfl rfl) ?_;refine Zc6 ?_;exact⟨.inr trivial,_,rfl,Zcs (Qab _)⟩
theorem bx_at{l:List Bxn}{e}(a:l[i]?=some b)(he:bxE v b=e)(c:e≠0)(hc:∀j,j<i->bxE v (l.getD j bx0)=0):bxsE v l=e:=fe_at (f:=fun i=>bxE v (l.getD i bx0)) (by rw[Qaw a];exact he) c hc (Zaf.1 a).1
theorem vr_at(h1:b.lo.length=v.length)(a:b.hi.length=v.length){j}(c:j<v.length)(he:vrE v b j=2)(hc:∀k,k<j->vrE v b k=0):bxE v b=2:=by unfold bxE;rw[if_pos ⟨h1,a⟩];exact fe_at he (by decide) hc c
theorem cbx139(v)(l:List Bxn)(K:v.length<=1000)(J:l.length<=9223372036854775807)(G:∀b∈l,b.lo.length<=9223372036854775807/\b.hi.length<=9223372036854775807):Ps 139 [vrsV v,bxsV l] (.int .i64 (bxsE v l)):=by
 refine Zcv 64 (Ok UK.s139) rfl (by rw[noRefs,QaO,noRefs,Qcb];rfl) rfl ?_;unfold UK.s139;refine Zc6 ?_;refine QaC 100 (fun i:Nat=>[(0,vrsV v),(9,bxsV l),(10,.int .i64 l.length),(11,.int .i64 i)]) (fun _=>[]) (fun i=>i<=l.length/\∀j,j<i->bxE v (l.getD j bx0)=0) (fun i=>l.length-i) 0 ⟨[],rfl,au0,au3,au4⟩ ⟨Zaj _,fun j y=>absurd y (Zay _)⟩ ?_;rintro i⟨hi,t⟩;by_cases c:i<l.length
 ·obtain⟨b,s⟩:=Qak c;have o:=Qhh s;have u:2<=((l.flatMap bxC).drop (i*2)).length:=by rw[o];simp
  obtain⟨I,H⟩:=G b (Zaa s);by_cases F:(b.lo.length:Int)=(v.length:Int)
  ·by_cases a2:(b.hi.length:Int)=(v.length:Int)
   ·refine Zc7 (Zdb c o u F a2) ?_;have B:b.lo.length=v.length:=by omega
    have C:b.hi.length=v.length:=by omega
    refine QaC 140 (fun j:Nat=>[(0,vrsV v),(9,bxsV l),(10,.int .i64 l.length),(11,.int .i64 i),(6,.ptr 51 0 0),(29,vrsV v),(30,.int .i64 v.length),(31,.int .i64 j)]) (fun _=>[(51,.cells 0 [sli b.lo,sli b.hi])]) (fun j=>j<=v.length/\∀k,k<j->vrE v b k=0) (fun j=>v.length-j) 0 ⟨[(51,.blk 103 0)],rfl,au0,au3,au4⟩ ⟨Zaj _,fun j y=>absurd y (Zay _)⟩ ?_;rintro j⟨y,hc⟩;by_cases a:j<v.length
    ·obtain⟨x,w⟩:=Qak a;obtain⟨p,hp⟩:=Qak (l:=b.lo) (i:=j) (by omega);obtain⟨q,z⟩:=Qak (l:=b.hi) (i:=j) (by omega);have n:j<b.lo.length:=by omega
     have m:j<b.hi.length:=by omega
     have d:=QcB w;have f:4<=((v.flatMap vrC).drop (j*4)).length:=by rw[d];simp
     have g:∀e,(if p<0\/x.2<q\/q<p then(2:Int)else 0)=e->vrE v b j=e:=fun e h=>by unfold vrE;rw[Qaw w,Qaw hp,Qaw z];exact h
     by_cases A:p<0;·refine Zc7 (Zde a n m d f (QaF hp) (QaF z) A) ?_;exact⟨.inr trivial,_,rfl,by rw[bx_at s (vr_at B C a (g 2 (if_pos (.inl A))) hc) (by decide) t];rfl⟩
     by_cases b2:x.2<q;·refine Zc7 (Zdf a n m d f (QaF hp) (QaF z) A b2) ?_;exact⟨.inr trivial,_,rfl,by rw[bx_at s (vr_at B C a (g 2 (if_pos (.inr (.inl b2)))) hc) (by decide) t];rfl⟩
     by_cases E:q<p;·refine Zc7 (Zdg a n m d f (QaF hp) (QaF z) A b2 E) ?_;exact⟨.inr trivial,_,rfl,by rw[bx_at s (vr_at B C a (g 2 (if_pos (.inr (.inr E)))) hc) (by decide) t];rfl⟩
     refine Zc7 (Zdg a n m d f (QaF hp) (QaF z) A b2 E) ?_;exact⟨j+1,by omega,⟨by omega,fe_up hc (g 0 (if_neg (by omega)))⟩,⟨[(51,.blk 51 0)],rfl,au0,au3,au4⟩⟩
    refine Zc7 a ?_;exact⟨i+1,by omega,⟨by omega,fe_up t (by rw[Qaw s];unfold bxE;rw[if_pos ⟨B,C⟩];exact Qfv fun k hk=>hc k (by omega))⟩,⟨[],rfl,au0,au3,au4⟩⟩
   refine Zc7 (Zdb c o u F a2) ?_;exact bW6fv
  refine Zc7 (Zda c o u F) ?_;exact bW6fv
 refine Zc7 c ?_;exact⟨.inr trivial,_,rfl,by rw[bxsE,Qfv fun j y=>t j (by omega)];rfl⟩
abbrev ctC(c:Cel)(k:Nat):Bool:=(c.ev k).c
def gF(ct:Nat->Bool)(v:List (List UInt8×Int))(l:List Gdn)(i:Nat):Int:=gdE ct v (decide (i=0)) (l.getD (i-1) gd0) (l.getD i gd0)
theorem QfF{ct}{e}(hi:i<l.length)(he:gF ct v l i=e)(a:e≠0)(hc:∀j,j<i->gF ct v l j=0):gdsE ct v l=e:=fe_at (f:=gF ct v l) he a hc hi
theorem gF_2{ct}(a:l[i]?=some g)(h:g.ev<0\/5<=g.ev):gF ct v l i=2:=by unfold gF gdE;rw[Qaw a,if_pos h]
theorem gF_11{ct}(a:l[i]?=some g)(h:¬(g.ev<0\/5<=g.ev))(h1:ct g.ev.toNat=false):gF ct v l i=11:=by unfold gF gdE;rw[Qaw a,if_neg h,if_pos h1]
theorem gF_5{ct}{y}(c:l[i]?=some g)(b:l[i-1]?=some y)(h:¬(g.ev<0\/5<=g.ev))(h1:ct g.ev.toNat=true)(d:0<i)(a:g.ev<=y.ev):gF ct v l i=5:=by unfold gF gdE;rw[Qaw c,Qaw b,if_neg h,if_neg (by rw[h1];decide),if_pos ⟨decide_eq_false (by omega),a⟩]
theorem gF_b{ct}(f:l[i]?=some g)(h:¬(g.ev<0\/5<=g.ev))(h1:ct g.ev.toNat=true)(a:i=0\/∀y,l[i-1]?=some y->¬g.ev<=y.ev):gF ct v l i=bxsE v g.bs:=by
 unfold gF gdE;rw[Qaw f,if_neg h,if_neg (by rw[h1];decide),if_neg];rintro⟨b,c⟩;have b:¬i=0:=of_decide_eq_false b;rcases a with a|a;·exact b a
 have k:=(Zaf.1 f).1;obtain⟨y,d⟩:=Qak (l:=l) (i:=i-1) (by omega);rw[Qaw d]at c;exact a y d c
theorem ev_at(e)(hk:k<5):(evl e)[k]?=some ([UInt8.ofNat (97+k)],e k):=by unfold evl;rw[ZaA,Zbu hk];rfl
theorem Qn6(e)(hk:k<5):(evsC e).drop (k*5)=.str [UInt8.ofNat (97+k)]::.bool (e k).c::.bool (e k).o::.bool (e k).f::.int .i64 ((e k).flt:Int)::((evl e).drop (k+1)).flatMap evN:=QiJ (ev_at e hk)
theorem QvB(e):(evsC e).length=25:=Qu9 (evl e)
def covV(v:List (List UInt8×Int))(t c:List Bool):List Bxn:=cov (fun a=>grB (okP (dom v) t c) v a v.length) (dom v) t c
section
variable(v:List (List UInt8×Int))(A B:List (List Nat))(P:List Nat)(pe se:List (Nat×Nat×Nat))(O:List Nat)(ev:Nat)
def tplQ(o:Nat):List Int:=nz (A.getD o []++B.getD o [])
def tcQ:Nat->List Bool×List Bool
 |0=>(List.replicate (dom v).length false,List.replicate (dom v).length false)|i+1=>let s:=tcQ i;let o:=O.getD i 0
  if 0<=stepI pe (P.getD o 0) ev then(s.1.set (ixQ v (tplQ A B o) v.length).toNat (decide (0<=stepI se i ev)),s.2.set (ixQ v (tplQ A B o) v.length).toNat true)else s
end
theorem QfG{v}{A B}{P}{pe se}{O}{ev}:∀i,(tcQ v A B P pe se O ev i).1.length=(dom v).length/\(tcQ v A B P pe se O ev i).2.length=(dom v).length
 |0=>⟨Zbv ..,Zbv ..⟩|i+1=>by
  obtain⟨h1,a⟩:=@QfG v A B P pe se O ev i;rw[tcQ];split;·exact⟨by rw[ZbD];exact h1,by rw[ZbD];exact a⟩
  exact⟨h1,a⟩
def expQ(ct:Nat->Bool)(G:Nat->List Bxn):Nat->List Gdn|0=>[]|e+1=>if ct e=true then expQ ct G e++[⟨(e:Int),G e⟩]else expQ ct G e
theorem bo_fl(n):(List.replicate n [AV.bool false]).flatten=(List.replicate n false).map AV.bool:=by induction n with|zero=>rfl|succ n a=>rw[Za7,Zbw,a,Za7];rfl
variable{q p:Aut}{A B:List (List Nat)}{P:List Nat}{F:List (Nat×Int×Int×Int)}{c:Cel}
end Go.AM.SO
namespace Go.AM.SO
open Go.Proofs Go.AM.SD Go.AM.SE
variable{P:Bxn->Prop}{A:List (List Int)}{v:List (List UInt8×Int)}{L c t:List Bool}{bs:List Bxn}{f:List Int->Bool}{G:List Int->Bxn}{a b:List Nat}{i k:Nat}{α:Type}{l:List α}{x:α}{Q:α->Bool}
theorem contains215(b)(t)(h1:b.lo.length=t.length)(s:b.hi.length=t.length)(u:t.length<=9223372036854775807):Ps 215 [bxV b,sli t] (.bool (inB b t)):=by
 refine Zcv 64 (Ok WB.s215) rfl (by simp only[noRefs,noRef,Qaa];rfl) rfl ?_;unfold WB.s215;refine Zc6 ?_;refine QaC 100 (fun i:Nat=>[(2,.ptr 51 0 0),(7,sli t),(8,.int .i64 t.length),(9,.int .i64 i)]) (fun _=>[(51,.cells 0 [sli b.lo,sli b.hi])]) (fun i=>i<=t.length/\∀(j:Nat)x,j<i->t[j]?=some x->b.lo.getD j 0<=x/\x<=b.hi.getD j 0) (fun i=>t.length-i) 0 ⟨[(51,.blk 64 0)],rfl,au0,au36,au35⟩ ⟨Zaj _,fun j x o=>absurd o (Zay _)⟩ ?_;rintro i⟨hi,m⟩;by_cases a:i<t.length
 ·obtain⟨x,g⟩:=Qak a;obtain⟨p,hp⟩:=Qak (l:=b.lo) (i:=i) (by omega);obtain⟨q,h⟩:=Qak (l:=b.hi) (i:=i) (by omega);have d:i<b.lo.length:=by omega
  have c:i<b.hi.length:=by omega
  have l:b.lo.getD i 0=p:=Qaw hp;have n:b.hi.getD i 0=q:=Qaw h;by_cases k:x<p;·refine Zc7 (Zdd a d c (QaF g) (QaF hp) (QaF h) k) ?_;exact⟨.inr trivial,_,rfl,by rw[Qe8 g (.inl (by rw[l];exact k))];rfl⟩
  by_cases b2:q<x;·refine Zc7 (Zde a d c (QaF g) (QaF hp) (QaF h) k b2) ?_;exact⟨.inr trivial,_,rfl,by rw[Qe8 g (.inr (by rw[n];exact b2))];rfl⟩
  refine Zc7 (Zde a d c (QaF g) (QaF hp) (QaF h) k b2) ?_;refine⟨i+1,by omega,⟨by omega,fun j y o f=>?_⟩,⟨[(51,.blk 51 0)],rfl,au0,au36,au35⟩⟩;by_cases e:j=i;·subst e;rw[g]at f;cases f;rw[l,n];omega
  exact m j y (by omega) f
 exact bBgPw
theorem in256(b)(t)(h1:b.lo.length=t.length)(a:b.hi.length=t.length)(c:t.length<=9223372036854775807):Ps 256 [bxV b,.fptr [sli t]] (.bool (inB b t)):=by have hc:=contains215 b t h1 a c;refine Zcv 64 (Ok WB.s256) rfl (by simp only[noRefs,noRef,Qaa];rfl) rfl ?_;unfold WB.s256;refine Zc6 ?_;refine cp hc ?_;refine Zc6 ?_;exact⟨.inr trivial,_,rfl,rfl⟩
theorem QwV(a:l[i]?=some x)(h:Q x=true):l.any Q=true:=Za8.2 ⟨x,Zaa a,h⟩
theorem QwW(h:∀(j:Nat)x,l[j]?=some x->Q x=false):l.any Q=false:=by rw[ZbB];intro x b;obtain⟨j,a,rfl⟩:=ZaO b;rw[h j _ (Zak a)];decide
def plQ{α:Type}(l:List α)(Q:α->Bool):Int:=if l.any Q then(l.findIdx Q:Int)else-1
theorem QpW:decide (0<=plQ l Q)=l.any Q:=by unfold plQ;cases l.any Q with|true=>simp|false=>rfl
theorem QsU(a:l[i]?=some x)(h:Q x=true)(hc:∀(j:Nat)y,j<i->l[j]?=some y->Q y=false):plQ l Q=i:=by have b:=(Zaf.1 a).1;have c:=(Zaf.1 a).2;have hf:l.findIdx Q=i:=(Zca b).2 ⟨by rw[c];exact h,fun j d=>hc j _ d (Zak (by omega))⟩;unfold plQ;rw[if_pos (QwV a h),hf]
theorem QsV(h:∀(j:Nat)x,l[j]?=some x->Q x=false):plQ l Q=-1:=by unfold plQ;rw[QwW h];rfl
section
variable{f:Nat}{a c:List AV}
theorem index182G(l)(Q:Bxn->Bool)(p:noRef (.fn f a c)=true)(s:l.length<=9223372036854775807)(q:∀b∈l,Ps f (a++[bxV b]++c) (.bool (Q b))):Ps 182 [bxsV l,.fn f a c] (.int .i64 (plQ l Q)):=by
 refine Zcv 64 (Ok UK.s182) rfl (by rw[noRefs,noRefs,p,Qcb];rfl) rfl ?_;unfold UK.s182;refine Zc6 ?_;refine QaC 100 (fun i:Nat=>[(0,bxsV l),(1,.fn f a c),(7,.int .i64 l.length),(8,.int .i64 i)]) (fun _=>[]) (fun i=>i<=l.length/\∀(j:Nat)x,j<i->l[j]?=some x->Q x=false) (fun i=>l.length-i) 0 ?_ ⟨Zaj _,fun j x o=>absurd o (Zay _)⟩ ?_;·exact⟨[],rfl,ZcA,ZcD,ZcC (Zcs (Qcb _)) (ZcC (Zcs p) (ZcC (Zcs rfl) (ZcC (Zcs rfl) ZcB)))⟩
 rintro i⟨hi,hc⟩;by_cases d:i<l.length
 ·obtain⟨b,n⟩:=Qak d;have h:=Qhh n;have k:2<=((l.flatMap bxC).drop (i*2)).length:=by rw[h];simp
  have hw:=q b (Zaa n);cases m:Q b with|true=>rw[m]at hw;refine Zc7 (Zc9 d h k) ?_;refine cpcP hw ?_;refine Zc6 ?_;refine⟨.inr trivial,_,rfl,?_⟩;rw[QsU n m fun j y o g=>hc j y o g];rfl|false=>
   rw[m]at hw;refine Zc7 (Zc9 d h k) ?_;refine cpcP hw ?_;refine Zc6 ?_;refine⟨i+1,by omega,⟨by omega,fun j y o g=>?_⟩,?_⟩
   ·by_cases e:j=i;·subst e;rw[n]at g;cases g;exact m
    exact hc j y (by omega) g
   exact⟨[],rfl,ZcA,ZcD,ZcC (Zcs (Qcb _)) (ZcC (Zcs p) (ZcC (Zcs rfl) (ZcC (Zcs rfl) ZcB)))⟩
 exact bWKUR
theorem contains130G(l)(Q:Bxn->Bool)(g:noRef (.fn f a c)=true)(i:l.length<=9223372036854775807)(h:∀b∈l,Ps f (a++[bxV b]++c) (.bool (Q b))):Ps 130 [bxsV l,.fn f a c] (.bool (l.any Q)):=by
 have hi:=index182G l Q g i h;refine Zcv 64 (Ok UK.s130) rfl (by rw[noRefs,noRefs,g,Qcb];rfl) rfl ?_;rw[<-QpW];generalize plQ l Q=k at*;unfold UK.s130;refine Zc6 ?_;refine ch (ZcQ (Zcz _) hi rfl) ?_;exact bPw95
theorem index258(l)(Q:List Int->Bool)(n:noRef (.fn f a c)=true)(p:l.length<=9223372036854775807)(o:∀b∈l,Ps f (a++[sli b]++c) (.bool (Q b))):Ps 258 [liV l,.fn f a c] (.int .i64 (plQ l Q)):=by
 refine Zcv 64 (Ok WB.s258) rfl (by rw[noRefs,noRefs,n,Qcj];rfl) rfl ?_;unfold WB.s258;refine Zc6 ?_;refine QaC 100 (fun i:Nat=>[(0,liV l),(1,.fn f a c),(7,.int .i64 l.length),(8,.int .i64 i)]) (fun _=>[]) (fun i=>i<=l.length/\∀(j:Nat)x,j<i->l[j]?=some x->Q x=false) (fun i=>l.length-i) 0 ?_ ⟨Zaj _,fun j x m=>absurd m (Zay _)⟩ ?_;·exact⟨[],rfl,ZcA,ZcD,ZcC (Zcs (Qcj _)) (ZcC (Zcs n) (ZcC (Zcs rfl) (ZcC (Zcs rfl) ZcB)))⟩
 rintro i⟨hi,hc⟩;by_cases d:i<l.length;·obtain⟨b,h⟩:=Qak d;have hw:=o b (Zaa h);cases k:Q b with|true=>rw[k]at hw;refine Zc7 (Zc8 d (QdX h)) ?_;refine cpcP hw ?_;refine Zc6 ?_;refine⟨.inr trivial,_,rfl,?_⟩;rw[QsU h k fun j y m g=>hc j y m g];rfl|false=>
  rw[k]at hw;refine Zc7 (Zc8 d (QdX h)) ?_;refine cpcP hw ?_;refine Zc6 ?_;refine⟨i+1,by omega,⟨by omega,fun j y m g=>?_⟩,?_⟩
  ·by_cases e:j=i;·subst e;rw[h]at g;cases g;exact k
   exact hc j y (by omega) g
  exact⟨[],rfl,ZcA,ZcD,ZcC (Zcs (Qcj _)) (ZcC (Zcs n) (ZcC (Zcs rfl) (ZcC (Zcs rfl) ZcB)))⟩
 exact bWKUR
theorem contains213(l)(Q:List Int->Bool)(g:noRef (.fn f a c)=true)(i:l.length<=9223372036854775807)(h:∀b∈l,Ps f (a++[sli b]++c) (.bool (Q b))):Ps 213 [liV l,.fn f a c] (.bool (l.any Q)):=by
 have hi:=index258 l Q g i h;refine Zcv 64 (Ok WB.s213) rfl (by rw[noRefs,noRefs,g,Qcj];rfl) rfl ?_;rw[<-QpW];generalize plQ l Q=k at*;unfold WB.s213;refine Zc6 ?_;refine cp hi ?_;exact bPw95
end
theorem in209(l:List Bxn)(t:List Int)(d:l.length<=9223372036854775807)(a:∀b∈l,b.lo.length=t.length/\b.hi.length=t.length)(c:t.length<=9223372036854775807):Ps 209 [bxsV l,sli t] (.bool (inBs l t)):=by have hi:=contains130G (f:=256) (a:=[]) (c:=[.fptr [sli t]]) l (fun b=>inB b t) (by simp only[noRef,noRefs,Qaa];rfl) d fun b hm=>in256 b t (a b hm).1 (a b hm).2 c;have hi:Ps 130 [bxsV l,.fn 256 [] [.fptr [sli t]]] (.bool (inBs l t)):=hi;refine Zcv 64 (Ok WA.s209) rfl (by simp only[noRefs,noRef,Qaa,QaD];rfl) rfl ?_;generalize inBs l t=B at*;unfold WA.s209;refine Zc6 ?_;refine ch (ZcQ (ZcT (Zcy _) (ZcT (FrzTo.fn ZcS (ZcT (ZcP gg (Zcz _)) ZcS)) ZcS)) hi rfl) ?_;refine Zc6 ?_;exact⟨.inr trivial,_,rfl,rfl⟩
abbrev cvV(v:List (List UInt8×Int))(A nd rf:List (List Int)):AV:=.agg [vrsV v,liV A,liV nd,liV rf]
def okR(rf:List (List Int))(b:Bxn):Bool:=!rf.any (inB b)
theorem free257(v)(A nd rf:List (List Int))(b:Bxn)(c:rf.length<=1000000)(a:∀t∈rf,b.lo.length=t.length/\b.hi.length=t.length)(h1:b.lo.length<=1000000):Ps 257 [cvV v A nd rf,bxV b] (.bool (okR rf b)):=by have hi:=contains213 (f:=215) (a:=[bxV b]) (c:=[]) rf (inB b) (by simp only[noRef,noRefs,Qaa];rfl) (by omega) fun t hm=>contains215 b t (a t hm).1 (a t hm).2 (by have:=(a t hm).1;omega);refine Zcv 64 (Ok WB.s257) rfl (by simp only[noRefs,noRef,Qaa,Qaz,QaG];rfl) rfl ?_;unfold okR;generalize rf.any (inB b)=B at*;unfold WB.s257;refine Zc6 ?_;refine cp hi ?_;refine Zc6 ?_;exact⟨.inr trivial,_,rfl,rfl⟩
theorem spare214(l o:List Bxn)(i:Nat)(b)(t:List Int)(hi:l[i]?=some b)(m:l.length<=1000000)(ho:o.length<=1000000)(g:b.lo.length=t.length/\b.hi.length=t.length)(c:∀b∈o,b.lo.length=t.length/\b.hi.length=t.length)(k:t.length<=1000000):Ps 214 [sli t,.fptr [bxsV l],.fptr [.int .i64 (i:Int)],.fptr [bxsV o]] (.bool (inB b t&&!inBs o t)):=by
 have h1:=contains215 b t g.1 g.2 (by omega);have h:=in209 o t (by omega) c (by omega);refine Zcv 64 (Ok WB.s214) rfl (by simp only[noRefs,noRef,Qaa,QaD];rfl) rfl ?_;have d:=(Zaf.1 hi).1;have a:=Qhh hi;have f:2<=((l.flatMap bxC).drop (i*2)).length:=by rw[a];simp
 generalize inBs o t=B2 at*;generalize inB b t=B1 at*;unfold WB.s214;refine Zc7 (Zc9 d a f) ?_;refine cp h1 ?_;cases B1 with|false=>refine Zc6 ?_;exact⟨.inr trivial,_,rfl,rfl⟩|true=>refine Zc6 ?_;refine cp h ?_;refine Zc6 ?_;exact⟨.inr trivial,_,rfl,rfl⟩
section
variable(A:List (List Int))(t c:List Bool)
def ndP:Nat->List (List Int)|0=>[]|i+1=>if(c.getD i false&&t.getD i false)=true then ndP i++[A.getD i []]else ndP i
def rfP:Nat->List (List Int)|0=>[]|i+1=>if(c.getD i false&&!t.getD i false)=true then rfP i++[A.getD i []]else rfP i
end
theorem QpX:∀n,(ndP A t c n).any f=(List.range n).any fun i=>c.getD i false&&(t.getD i false&&f (A.getD i []))
 |0=>rfl|n+1=>by
  rw[ZaK,Zck,<-QpX n,ndP];have e:([n].any fun i=>c.getD i false&&(t.getD i false&&f (A.getD i [])))=(c.getD n false&&(t.getD n false&&f (A.getD n []))):=by rw[List.any_cons,List.any_nil,Zcc]
  rw[e];cases c.getD n false with|false=>rw[if_neg (by simp),ZbQ,Zcc]|true=>cases t.getD n false with|false=>rw[if_neg (by simp)];simp|true=>rw[if_pos (show(true&&true)=true from rfl),Zck,List.any_cons,List.any_nil,Zcc];simp
theorem QpY:∀n,(rfP A t c n).any f=(List.range n).any fun i=>c.getD i false&&(!t.getD i false&&f (A.getD i []))
 |0=>rfl|n+1=>by
  rw[ZaK,Zck,<-QpY n,rfP];have e:([n].any fun i=>c.getD i false&&(!t.getD i false&&f (A.getD i [])))=(c.getD n false&&(!t.getD n false&&f (A.getD n []))):=by rw[List.any_cons,List.any_nil,Zcc]
  rw[e];cases c.getD n false with|false=>rw[if_neg (by simp),ZbQ,Zcc]|true=>cases t.getD n false with|true=>rw[if_neg (by simp)];simp|false=>rw[if_pos (show(true&&!false)=true from rfl),Zck,List.any_cons,List.any_nil,Zcc];simp
theorem QwX:okR (rfP A t c A.length)=okP A t c:=by funext b;unfold okR;rw[QpY];rfl
theorem Qkv:∀n,n<=A.length->∀x∈ndP A t c n,x∈A
 |0,_,x,b=>by cases b|n+1,f,x,b=>by
  obtain⟨a,d⟩:=Qak (l:=A) (i:=n) (by omega);rw[ndP]at b;split at b
  ·rcases ZaE.1 b with b|b;·exact Qkv n (by omega) x b
   rw[ZaU.1 b,Qaw d];exact Zaa d
  exact Qkv n (by omega) x b
theorem Qkw:∀n,n<=A.length->∀x∈rfP A t c n,x∈A
 |0,_,x,b=>by cases b|n+1,f,x,b=>by
  obtain⟨a,d⟩:=Qak (l:=A) (i:=n) (by omega);rw[rfP]at b;split at b
  ·rcases ZaE.1 b with b|b;·exact Qkw n (by omega) x b
   rw[ZaU.1 b,Qaw d];exact Zaa d
  exact Qkw n (by omega) x b
theorem Qkx{A}{t c}:∀n,(ndP A t c n).length<=n
 |0=>Zar _|n+1=>by
  have:=@Qkx A t c n;rw[ndP];split;·rw[Zag];simp;omega
  omega
theorem Qky{A}{t c}:∀n,(rfP A t c n).length<=n
 |0=>Zar _|n+1=>by
  have:=@Qky A t c n;rw[rfP];split;·rw[Zag];simp;omega
  omega
section
variable(G:List Int->Bxn)(nd:List (List Int))
def bgA:Nat->List Bxn|0=>[]|i+1=>if inBs (bgA i) (nd.getD i [])=true then bgA i else bgA i++[G (nd.getD i [])]
def spr(l:List Bxn)(i:Nat):Bool:=!nd.any fun x=>inB (l.getD i bx0) x&&!inBs (l.eraseIdx i) x
def bgB:Nat->List Bxn->Nat->List Bxn|0,l,_=>l|f+1,l,i=>if i<l.length then(if spr nd l i=true then bgB f (l.eraseIdx i) i else bgB f l (i+1))else l
end
theorem QpZ{nd}{x}:∀i,i<=nd.length->bgA G (nd++[x]) i=bgA G nd i
 |0,_=>rfl|i+1,hi=>by
  rw[bgA,bgA,QpZ i (by omega)];have:(nd++[x]).getD i []=nd.getD i []:=by rw[Zah,ZaP (by omega),<-Zah]
  rw[this]
theorem QsW{G}{A}{t c}:∀n,bgA G (ndP A t c n) (ndP A t c n).length=cA G A t c n
 |0=>rfl|n+1=>by
  have a:=@QsW G A t c n;have b:∀(L:List (List Int))x,bgA G (L++[x]) (L++[x]).length=if inBs (bgA G L L.length) x=true then bgA G L L.length else bgA G L L.length++[G x]:=fun L x=>by
   rw[Zag];show bgA G (L++[x]) (L.length+1)=_;rw[bgA,QpZ L.length (Zar _)];have:(L++[x]).getD L.length []=x:=by rw[Zah,Zbk (Zar _),ZbO];rfl
   rw[this]
  rw[ndP,cA];cases h1:c.getD n false with|false=>simpa using a|true=>cases d:t.getD n false with|false=>simpa using a|true=>simp only[Zae,if_true,Zai];rw[b,a];cases f:inBs (cA G A t c n) (A.getD n [])<;>simp
theorem Qp0{G}{nd}:∀i,(bgA G nd i).length<=i
 |0=>Zar _|i+1=>by
  have:=@Qp0 G nd i;rw[bgA];split;·omega
  rw[Zag];simp;omega
theorem Qhu{nd}(h:∀a∈nd,P (G a)):∀i,i<=nd.length->∀b∈bgA G nd i,P b
 |0,_,b,c=>by cases c|i+1,hi,b,c=>by
  rw[bgA]at c;obtain⟨a,d⟩:=Qak (l:=nd) (i:=i) (by omega);split at c;·exact Qhu h i (by omega) b c
  rcases ZaE.1 c with c|c;·exact Qhu h i (by omega) b c
  rw[ZaU.1 c,Qaw d];exact h a (Zaa d)
def sel:List Bool->List Bxn->List Bxn|b::L,x::a=>if b=true then x::sel L a else sel L a|_,_=>[]
theorem Qkz:∀{L:List Bool}{bs:List Bxn}{b:Bool}{x:Bxn},L.length=bs.length->sel (L++[b]) (bs++[x])=sel L bs++(if b=true then[x]else[])|[],[],b,x,_=>by cases b<;>rfl|[],y::bs,b,x,h=>by simp at h|a::L,[],b,x,h=>by simp at h|a::L,y::bs,b,x,h=>by have c:=@Qkz L bs b x (by simpa using h);rw[ZaW,ZaW,sel,sel,c];split<;>rfl
theorem QkA:∀{L:List Bool}{bs:List Bxn}{y:Bxn},y∈sel L bs↔∃i:Nat,L[i]?=some true/\bs[i]?=some y
 |[],bs,y=>by
  constructor;·intro h;cases bs<;>cases h
  rintro⟨i,h,_⟩;simp at h|a::L,[],y=>by
  constructor;·intro h;cases h
  rintro⟨i,_,h⟩;simp at h|a::L,x::bs,y=>by
  have c:=@QkA L bs y;rw[sel];constructor
  ·intro h;have:y∈sel L bs->∃i:Nat,(a::L)[i]?=some true/\(x::bs)[i]?=some y:=fun h=>by obtain⟨i,h1,b⟩:=c.1 h;exact⟨i+1,by simpa using h1,by simpa using b⟩
   split at h
   ·rename_i d;rcases Zav.1 h with rfl|h;·exact⟨0,by simp[d],by simp⟩
    exact this h
   exact this h
  rintro⟨i,h1,b⟩;cases i with|zero=>simp only[Zbi,Zab]at h1 b;rw[if_pos h1,b];simp|succ i=>
   simp only[Zbx]at h1 b;have:=c.2 ⟨i,h1,b⟩;split;·exact List.mem_cons_of_mem _ this
   exact this
theorem QwY(hk:k<bs.length)(q:L.length=k)(x):cvB bs (L++List.replicate (bs.length-k) true) k x=inBs (sel L (bs.take k)++bs.drop (k+1)) x:=by
 rw[Zb9];unfold cvB inBs;rw[Za8,Za8];have a:∀i,i<bs.length->((L++List.replicate (bs.length-k) true).getD i false=true↔(i<k/\L[i]?=some true)\/k<=i):=by
  intro i hi;by_cases h:i<k
  ·rw[Zah,ZaP (by omega)];obtain⟨b,f⟩:=Qak (l:=L) (i:=i) (by omega);rw[f];simp only[Option.getD_some,Zab];constructor;·intro e;exact .inl ⟨h,e⟩
   rintro(⟨_,e⟩|e);·exact e
   omega
  rw[Zah,Zbk (by omega),List.getElem?_replicate,if_pos (by omega)];simp;omega
 constructor
 ·rintro⟨i,hi,l⟩;have hi:=Zau.1 hi;unfold cvQ at l;simp only[Zac,Zbh,decide_eq_false_iff_not]at l;obtain⟨h1,c,g⟩:=l;obtain⟨b,f⟩:=Qak (l:=bs) (i:=i) hi;rw[Qaw f]at g;refine⟨b,?_,g⟩;rcases(a i hi).1 c with⟨o,p⟩|o;·exact List.mem_append_left _ (QkA.2 ⟨i,p,by rw[List.getElem?_take,if_pos o];exact f⟩)
  refine List.mem_append_right _ (Zaa (i:=i-(k+1)) ?_);rw[ZbN,show k+1+(i-(k+1))=i by omega];exact f
 rintro⟨b,hm,g⟩;rcases ZaE.1 hm with hm|hm
 ·obtain⟨i,h1,c⟩:=QkA.1 hm;have d:i<k:=by have:=(Zaf.1 h1).1;omega
  rw[List.getElem?_take,if_pos d]at c;refine⟨i,Zau.2 (by omega),?_⟩;unfold cvQ;rw[Qaw c,g,(a i (by omega)).2 (.inl ⟨d,h1⟩),decide_eq_false (by omega)];rfl
 obtain⟨j,n,he⟩:=ZaO hm;have m:=n;rw[ZaR]at m;have c:bs[k+1+j]?=some b:=by rw[<-ZbN,Zak n,he]
 refine⟨k+1+j,Zau.2 (by omega),?_⟩;unfold cvQ;rw[Qaw c,g,(a _ (by omega)).2 (.inr (by omega)),decide_eq_false (by omega)];rfl
theorem QsX{lf}:∀n,spU A t c bs lf k n=!(List.range n).any fun i=>c.getD i false&&(t.getD i false&&(inB (bs.getD k bx0) (A.getD i [])&&!cvB bs lf k (A.getD i [])))|0=>rfl|n+1=>by rw[spU,QsX n,ZaK,Zck,Bool.not_or];congr 1;unfold spQ;rw[List.any_cons,List.any_nil,Zcc];generalize c.getD n false=x1;generalize t.getD n false=x2;generalize inB (bs.getD k bx0) (A.getD n [])=x3;generalize cvB bs lf k (A.getD n [])=x4;cases x1<;>cases x2<;>cases x3<;>cases x4<;>rfl
theorem QwZ:∀(m k:Nat),bs.length-k=m->k<=bs.length->(∃L,L.length=k/\(cB A t c bs k).1=L++List.replicate (bs.length-k) true/\(cB A t c bs k).2=sel L (bs.take k))->bgB (ndP A t c A.length) m ((cB A t c bs k).2++bs.drop k) (cB A t c bs k).2.length=(cB A t c bs bs.length).2:=by
 intro m;induction m with|zero=>
  intro k hm hk _;have:k=bs.length:=by omega
  subst this;rw[bgB,List.drop_length,Zas]|succ m x=>
  rintro k hm hk⟨L,q,h1,u⟩;have g:k<bs.length:=by omega
  obtain⟨y,o⟩:=Qak g;have l:bs.drop k=y::bs.drop (k+1):=by rw[Zbm g];congr 1;exact(Zaf.1 o).2
  have d:cB A t c bs (k+1)=if spU A t c bs (cB A t c bs k).1 k A.length=true then((cB A t c bs k).1.set k false,(cB A t c bs k).2)else((cB A t c bs k).1.set k true,(cB A t c bs k).2++[bs.getD k bx0]):=rfl;have f:∀b:Bool,(L++List.replicate (bs.length-k) true).set k b=(L++[b])++List.replicate (bs.length-(k+1)) true:=by
   intro b;have e:bs.length-k=(bs.length-(k+1))+1:=by omega
   rw[e,Za7,List.set_append_right _ _ (by omega),q,ZbO,ZbV,ZaQ];rfl
  have h:bs.take (k+1)=bs.take k++[y]:=take_succ' o;have n:L.length=(bs.take k).length:=by rw[Zap];omega
  have v:spr (ndP A t c A.length) ((cB A t c bs k).2++bs.drop k) (cB A t c bs k).2.length=spU A t c bs (cB A t c bs k).1 k A.length:=by
   unfold spr;rw[QpX,QsX];have w:((cB A t c bs k).2++bs.drop k).getD (cB A t c bs k).2.length bx0=bs.getD k bx0:=by rw[Qaw o,Zah,Zbk (Zar _),ZbO,l];rfl
   have s:((cB A t c bs k).2++bs.drop k).eraseIdx (cB A t c bs k).2.length=(cB A t c bs k).2++bs.drop (k+1):=by rw[List.eraseIdx_append_of_length_le (Zar _),ZbO,l];rfl
   rw[w,s,h1,u];congr 2;funext i;rw[QwY g q]
  have s:((cB A t c bs k).2++bs.drop k).eraseIdx (cB A t c bs k).2.length=(cB A t c bs k).2++bs.drop (k+1):=by rw[List.eraseIdx_append_of_length_le (Zar _),ZbO,l];rfl
  rw[bgB,if_pos (by rw[Zag,l,ZaD];omega),v,s];have a:=x (k+1) (by omega) (by omega);by_cases p:spU A t c bs (cB A t c bs k).1 k A.length=true
  ·rw[if_pos p]at d;rw[if_pos p];rw[d]at a;refine a ⟨L++[false],by simp[q],?_,?_⟩;·show(cB A t c bs k).1.set k false=_;rw[h1];exact f false
   show(cB A t c bs k).2=_;rw[h,Qkz n,u];simp
  rw[if_neg p]at d;rw[if_neg p];rw[d]at a;have z:(cB A t c bs k).2++bs.drop k=((cB A t c bs k).2++[bs.getD k bx0])++bs.drop (k+1):=by rw[l,Qaw o,ZaQ];rfl
  have B:(cB A t c bs k).2.length+1=((cB A t c bs k).2++[bs.getD k bx0]).length:=by simp
  rw[z,B];refine a ⟨L++[true],by simp[q],?_,?_⟩;·show(cB A t c bs k).1.set k true=_;rw[h1];exact f true
  show(cB A t c bs k).2++[bs.getD k bx0]=_;rw[h,Qkz n,u,Qaw o];simp
def covR(G:List Int->Bxn)(nd:List (List Int)):List Bxn:=bgB nd (bgA G nd nd.length).length (bgA G nd nd.length) 0
theorem Qhv:covR (fun a=>grB (okR (rfP (dom v) t c (dom v).length)) v a v.length) (ndP (dom v) t c (dom v).length)=covV v t c:=by unfold covR covV cov;rw[QwX,QsW];generalize cA (fun a=>grB (okP (dom v) t c) v a v.length) (dom v) t c (dom v).length=b;exact QwZ (A:=dom v) (t:=t) (c:=c) b.length 0 (by omega) (Zaj _) ⟨[],rfl,by simp[cB],rfl⟩
theorem vars99(c)(h:WfCel c):Ps 99 [celV c] (vrsV (ZV c)):=by
 have u:=h.c0;have v:=h.c3;have t:=h.r2;have l:=Qsu h;rw[vrs_N];have q:=QnO c;refine Zcu 64 (Ok UK.s99) rfl (by rw[noRefs,SU.QaY];rfl) (QaO _) ?_;have p:(nmL' 99 c.cs).length=c.cs.length:=by simp[nmL']
 have s:(nmL' 114 c.rs).length=c.rs.length:=by simp[nmL']
 rw[show celV c=.agg [evsV c.ev,itsN (nmL' 99 c.cs),itsN (nmL' 114 c.rs),exs c.xs,cos c.ks]from by rw[celV,QjH,QjH]];unfold itsL at*;generalize nmL' 99 c.cs=A at*;generalize nmL' 114 c.rs=B at*;have a:[A,B].flatten=A++B:=by simp
 have n:=concat158 [A,B] (by show 2<=1000;decide) (by rw[a];omega) (by rw[a];omega);rw[a]at n;unfold UK.s99;refine Zc6 ?_;refine ch (HSpec.give1 (g:=0) (ds:=[itsN A,itsN B]) n gg (by rw[noRefs,Qdt,noRefs,Qdt];rfl) rfl rfl) ?_;generalize A++B=L at*;have o:L.length<=5:=by omega
 refine Zc6 ?_;refine Qas 100 (fun i:Nat=>[(3,.sl 60 0 0 i 4),(11,itsN L),(12,.int .i64 L.length),(13,.int .i64 i)]) (fun i=>[(60,.cells 0 (((L.take i).map vrN).flatMap vrC))]) (fun i=>i<=L.length) (fun i=>L.length-i) 0 0 160 (fun _:Unit=>[(3,vrsV (L.map vrN))]) (fun _=>[]) (fun _=>True) ?_ (Zaj _) ?_ ?_;·refine⟨[(60,.nil)],rfl,au0,?_,au35⟩;exact ZcF rfl rfl ZcD
 ·rintro i hi;by_cases b:i<L.length
  ·obtain⟨x,k⟩:=Qak b;have d:=QpL k;have m:5<=((L.flatMap itN).drop (i*5)).length:=by rw[d];simp
   have f:((L.take i).map vrN).length=i:=by rw[Zax,Zap];omega
   have g:(((L.take i).map vrN).flatMap vrC).length=i*4:=by rw[QgP,f]
   have w:=l x (Zaa k);refine Zc7 (Zda b d m g) ?_;refine⟨i+1,by omega,by omega,?_⟩;rw[take_succ' k,ZaJ,Zao,Qsv];refine⟨[(60,.blk 60 1)],rfl,au0,?_,au35⟩;exact ZcE rfl rfl gg (Zct (SU.Qav (Qaz _) (Qaz [vrN x]))) ZcD
  have e:i=L.length:=by omega
  subst e;refine Zc7 (Zc8 b @Zan) ?_;exact btx2Y
 rintro _ _;refine Zc6 ?_;exact⟨.inr trivial,_,rfl,Zcs (QaO _)⟩
theorem first44(c)(h:WfCel c):Ps 44 [celV c] (.tup [vrsV (ZV c),.int .i64 0]):=by
 have l:=vars99 c h;have n:=check21 c h;refine Zcv 64 (Ok UK.s44) rfl (by rw[noRefs,SU.QaY];rfl) (by rw[noRef,noRefs,QaO];rfl) ?_;have hin:=QbW h;have k:=Qdv h;generalize ZV c=v at*;unfold UK.s44;refine Zc6 ?_;refine cp n ?_;refine Zc6 ?_;refine cp l ?_;refine Zc6 ?_;refine QaC 100 (fun i:Nat=>[(5,vrsV v),(6,.int .i64 (szV 1 (v.take i))),(16,vrsV v),(17,.int .i64 v.length),(18,.int .i64 i)]) (fun _=>[]) (fun i=>i<=v.length) (fun i=>v.length-i) 0 ⟨[],rfl,au0,au36,au35⟩ (Zaj _) ?_;rintro i hi;by_cases a:i<v.length
 ·obtain⟨x,d⟩:=Qak a;have b:=QcB d;have f:4<=((v.flatMap vrC).drop (i*4)).length:=by rw[b];simp
  have p:=QbO hin k i;have b2:=hin x (Zaa d);have o:=QbO hin k (i+1);have g:=QdW d;rw[g]at o;generalize szV 1 (v.take i)=S at*;have m:¬(4096:Int)<S*(x.2+1):=by omega
  refine Zc7 (Zda a b f m) ?_;refine⟨i+1,by omega,by omega,?_⟩;rw[g];exact⟨[],rfl,au0,au36,au35⟩
 refine Zc7 a ?_;exact⟨.inr trivial,_,rfl,rfl⟩
def ckA(e:Int)(v:List (List UInt8×Int)):AV:=if e=0 then vrsV v else .nilsl
abbrev ckV(e:Int)(v:List (List UInt8×Int)):AV:=.tup [ckA e v,.int .i64 e]
theorem Qn7(e)(v):noRef (ckV e v)=true:=by
 unfold ckV ckA;split;·rw[noRef,noRefs,QaO];rfl
 rfl
theorem ckA_0:ckA 0 v=vrsV v:=if_pos rfl
theorem QsY{e}(h:e≠0):ckA e v=.nilsl:=if_neg h
theorem checked71(c)(h:WfCel c)(l)(B:GdsR l):Ps 71 [celV c,gdsV l] (ckV (gdsE (ctC c) (ZV c) l) (ZV c)):=by
 have Q:=first44 c h;have E:=Qbh c;refine Zcv 64 (Ok UK.s71) rfl (by rw[noRefs,SU.QaY,noRefs,Qbj];rfl) (Qn7 _ _) ?_;have R:=Qdv h;have O:=QvB c.ev;generalize ZV c=v at*;unfold UK.s71;refine Zc6 ?_;refine cp Q ?_;refine Zc6 ?_;refine QaC 100 (fun i:Nat=>[(1,gdsV l),(2,.ptr 50 0 0),(6,vrsV v),(19,gdsV l),(20,.int .i64 l.length),(21,.int .i64 i)]) (fun _=>[(50,.cells 0 [evsV c.ev,its 99 c.cs,its 114 c.rs,exs c.xs,cos c.ks])]) (fun i=>i<=l.length/\∀j,j<i->gF (ctC c) v l j=0) (fun i=>l.length-i) 0 ?_ ⟨Zaj _,fun j L=>absurd L (Zay _)⟩ ?_;·refine⟨[(50,.blk 64 0)],rfl,au0,?_,au35⟩;exact ZcE rfl rfl gg (Zct E) ZcD
 rintro i⟨hi,q⟩;have P:=B.len;by_cases a:i<l.length
 ·obtain⟨g,o⟩:=Qak a;have b:=QdR o;have d:2<=((l.flatMap gdC).drop (i*2)).length:=by rw[b];simp
  have u:=B.bl g (Zaa o);by_cases C:g.ev<0;·refine Zc7 (Zda a b d C) ?_;exact⟨.inr trivial,_,rfl,by rw[QfF a (gF_2 o (.inl C)) (by decide) q];rfl⟩
  by_cases a2:5<=g.ev;·refine Zc7 (Zdb a b d C a2) ?_;exact⟨.inr trivial,_,rfl,by rw[QfF a (gF_2 o (.inr a2)) (by decide) q];rfl⟩
  have a12:¬(g.ev<0\/5<=g.ev):=by omega
  obtain⟨K,A⟩:∃K:Nat,g.ev=(K:Int):=⟨g.ev.toNat,by omega⟩;have f:K<5:=by omega
  have m:=Qn6 c.ev f;have p:5<=((evsC c.ev).drop (K*5)).length:=by rw[m];simp
  have w:g.ev.toNat=K:=by omega
  have g1:¬(K:Int)<0:=by omega
  have g2:¬(5:Int)<=(K:Int):=by omega
  by_cases a3:(c.ev K).c=true
  ·have t:ctC c g.ev.toNat=true:=by rw[w];exact a3
   by_cases i0:i=0
   ·have G:gF (ctC c) v l i=bxsE v g.bs:=gF_b o a12 t (.inl i0);have a4:¬(0:Int)<(i:Int):=by omega
    have k:=cbx139 v g.bs (by omega) u (B.ll g (Zaa o));rw[<-G]at k;refine Zc7 (Zdh a b d A g1 g2 f m p a3 a4) ?_;exact bO0zj
   obtain⟨y,F⟩:=Qak (l:=l) (i:=i-1) (by omega);have a4:(0:Int)<(i:Int):=by omega
   have I:(i:Int)-1=((i-1:Nat):Int):=by omega
   have N:((i-1:Nat):Int)<l.length:=by omega
   have J:i-1<l.length:=by omega
   have s:=QdR F;have x:2<=((l.flatMap gdC).drop ((i-1)*2)).length:=by rw[s];simp
   by_cases a5:g.ev<=y.ev
   ·have H:(K:Int)<=y.ev:=by omega
    simp(disch:=first|omega|exact PairsOK.mk rfl|(simp only[lenW]<;>omega))only[a,b,d,A,g1,g2,f,m,p,a3,a4,I,N,J,s,x,H,wW,wV,simprocAttr];exact⟨.inr trivial,_,rfl,by rw[QfF a (gF_5 o F a12 t (by omega) a5) (by decide) q];rfl⟩
   have G:gF (ctC c) v l i=bxsE v g.bs:=gF_b o a12 t (.inr fun z M=>by rw[F]at M;cases M;exact a5);have H:¬(K:Int)<=y.ev:=by omega
   have k:=cbx139 v g.bs (by omega) u (B.ll g (Zaa o));rw[<-G]at k;simp(disch:=first|omega|exact PairsOK.mk rfl|(simp only[lenW]<;>omega))only[a,b,d,A,g1,g2,f,m,p,a3,a4,I,N,J,s,x,H,wW,wV,simprocAttr];exact bO0zj
  have a3:(c.ev K).c=false:=by simpa using a3
  refine Zc7 (Zdg a b d A g1 g2 f m p a3) ?_;exact⟨.inr trivial,_,rfl,by rw[QfF a (gF_11 o a12 (by rw[w];exact a3)) (by decide) q];rfl⟩
 refine Zc7 a ?_;exact⟨.inr trivial,_,rfl,by rw[show gdsE (ctC c) v l=0 from Qfv (f:=gF (ctC c) v l) fun j L=>q j (by omega),ckV,ckA_0];rfl⟩
theorem check35(c)(h:WfCel c)(l)(d:GdsR l):Ps 35 [celV c,gdsV l] (.int .i64 (gdsE (ctC c) (ZV c) l)):=by have b:=checked71 c h l d;refine Zcv 64 (Ok UK.s35) rfl (by rw[noRefs,SU.QaY,noRefs,Qbj];rfl) rfl ?_;have a:=Qn7 (gdsE (ctC c) (ZV c) l) (ZV c);generalize gdsE (ctC c) (ZV c) l=e at*;generalize ckA e (ZV c)=A at*;unfold UK.s35;refine Zc6 ?_;refine cp b ?_;refine Zc6 ?_;exact⟨.inr trivial,_,rfl,rfl⟩
theorem QsZ{j}(h:l[j]?=some x):j<l.length:=(Zaf.1 h).1
theorem cloneI86(l)(c:l.length<=1000000):HSpec Tryz.prog 86 [sli l] .e (.sl 83 0 0 l.length 1) (hp [(83,.cells 0 (ZI l))]):=by cases l with|nil=>exact HSpec.empty QlF QlG|cons x l=>
 refine ZcV 100 (Ok s86) rfl ?_;have b:aEq (.nil 2) false (sli (x::l)) .nilsl=some (.bool false):=rfl;have a:(ZI (x::l)).all AV.one=true:=by simp[ZI,AV.one]
 generalize x::l=q at*;unfold s86;refine Zc7 (Zc8 b a) ?_;exact⟨.inr trivial,_,rfl,⟨[(83,.blk 103 1)],rfl,au0,au3,au4⟩⟩
theorem clone86(l)(a:l.length<=1000000):Ps 86 [sli l] (sli l):=by
 have h:=(cloneI86 l a).freeze (b:=83) (g:=0) (ds:=ZI l) gg (by
  have:∀m:List Int,flatVs (ZI m)=true:=fun m=>by induction m with|nil=>rfl|cons x m b=>simp only[ZI,ZaL,flatVs,Zac];exact⟨rfl,b⟩
  exact this _) (by simp[ZI]) rfl;have e:(ZI l).take (l.length*1)=ZI l:=by rw[ZaM (by simp[ZI])]
 rw[e]at h;exact⟨by rw[noRefs,Qah];rfl,Qah _,_,h⟩
def prmQ(ct:Nat->Bool)(l:List Gdn)(T:Nat->List Int)(x e:Nat):Bool:=!ct e||l.any fun g=>decide (g.ev=(e:Int))&&inBs g.bs (T x)
theorem is128(g)(ev):Ps 128 [gdV g,.fptr [.int .i64 ev]] (.bool (decide (g.ev=ev))):=by refine Zcv 64 (Ok VK.s128) rfl (by simp only[noRefs,noRef,QaD];rfl) rfl ?_;unfold VK.s128;refine Zc4 ?_;exact⟨.inr trivial,_,rfl,rfl⟩
theorem index84E(l)(ev)(v:l.length<=1000):∃k:Int,Ps 84 [gdsV l,.fn 128 [] [.fptr [.int .i64 ev]]] (.int .i64 k)/\((k=-1/\∀g∈l,g.ev≠ev)\/∃(f:Nat)(g:Gdn),k=f/\l[f]?=some g/\g.ev=ev):=by
 by_cases h:∃f g,l[f]?=some g/\g.ev=ev/\∀(j:Nat)y,j<f->l[j]?=some y->y.ev≠ev
 ·obtain⟨f,g,hf,he,s⟩:=h;refine⟨f,?_,.inr ⟨f,g,rfl,hf,he⟩⟩;refine Zcv 64 (Ok UK.s84) rfl (by simp only[noRefs,noRef,QaP];rfl) rfl ?_;have t:=QsZ hf;unfold UK.s84;refine Zc4 ?_;refine QaC 100 (fun i:Nat=>[(0,gdsV l),(1,.fn 128 [] [.fptr [.int .i64 ev]]),(7,.int .i64 l.length),(8,.int .i64 i)]) (fun _=>[]) (fun i=>i<=f) (fun i=>l.length-i) 0 ⟨[],rfl,au0,au36,au35⟩ (Zaj _) ?_;rintro i hi;have a:i<l.length:=by omega
  obtain⟨x,d⟩:=Qak a;have b:=QdR d;have c:2<=((l.flatMap gdC).drop (i*2)).length:=by rw[b];simp
  have hw:=is128 x ev;by_cases e:i=f;·subst e;rw[hf]at d;cases d;rw[decide_eq_true he]at hw;refine Zc5 (Zc9 a b c) ?_;refine cpcP hw ?_;refine Zc4 ?_;exact⟨.inr trivial,_,rfl,rfl⟩
  rw[decide_eq_false (s i x (by omega) d)]at hw;exact brXk0
 have m:∀g∈l,g.ev≠ev:=by intro g u he;obtain⟨i,hi,rfl⟩:=ZaO u;obtain⟨f,y,h1,n,_,q⟩:=fstG' i (Zak hi);exact h ⟨f,y,h1,by rw[n,he],fun j z p o=>by rw[<-he];exact q j z p o⟩
 refine⟨-1,?_,.inl ⟨rfl,m⟩⟩;refine Zcv 64 (Ok UK.s84) rfl (by simp only[noRefs,noRef,QaP];rfl) rfl ?_;unfold UK.s84;refine Zc4 ?_;refine QaC 100 (fun i:Nat=>[(0,gdsV l),(1,.fn 128 [] [.fptr [.int .i64 ev]]),(7,.int .i64 l.length),(8,.int .i64 i)]) (fun _=>[]) (fun i=>i<=l.length) (fun i=>l.length-i) 0 ⟨[],rfl,au0,au36,au35⟩ (Zaj _) ?_;rintro i hi;by_cases a:i<l.length
 ·obtain⟨x,d⟩:=Qak a;have b:=QdR d;have c:2<=((l.flatMap gdC).drop (i*2)).length:=by rw[b];simp
  have hw:=is128 x ev;rw[decide_eq_false (m x (Zaa d))]at hw;exact brXk0
 refine Zc5 a ?_;exact⟨.inr trivial,_,rfl,rfl⟩
variable{q p:Aut}{A B:List (List Nat)}{P:List Nat}{F:List (Nat×Int×Int×Int)}{c:Cel}
abbrev spCl(q:Aut)(A B:List (List Nat))(P:List Nat)(F:List (Nat×Int×Int×Int)):List AV:=[ZN q.al,.int .i64 (q.n:Int),ZN q.ms,egsN q.es,tuV A,tuV B,ZN P,rss F]
abbrev ceCl(c:Cel):List AV:=[evsV c.ev,its 99 c.cs,its 114 c.rs,exs c.xs,cos c.ks]
theorem Qbd:noRefs (spCl q A B P F)=true:=by have hA:noRefs (A.map ZN)=true:=Qax Qab _;have a:noRefs (B.map ZN)=true:=Qax Qab _;simp only[noRefs,noRef,Qaa,Qag,hA,a,Qa9];rfl
theorem Qp1{l:List Gdn}(h:l.Pairwise fun y z=>y.ev<z.ev){y z:Gdn}(d:y∈l)(c:z∈l)(he:y.ev=z.ev):y=z:=by induction l with|nil=>cases d|cons x l i=>
 obtain⟨h1,k⟩:=ZaB.1 h;rcases Zav.1 d with g|f
 ·rcases Zav.1 c with a|b;·rw[g,a]
  have:=h1 z b;rw[g]at he;omega
 rcases Zav.1 c with a|b;·have:=h1 y f;rw[a]at he;omega
 exact i k f b
theorem QvC{X Y Z}{i j}(a:noRefs X=true)(hY:noRefs Y=true)(b:noRefs Z=true):noRefs [.int .i64 i,.int .i64 j,.fptr X,.fptr Y,.fptr Z]=true:=by simp only[noRefs,noRef,a,hY,b];rfl
theorem permitted127(l:List Gdn)(x e:Nat)(he:e<5)(hA:A[x]?=some a)(Q:B[x]?=some b)(V:0<a.length)(L:a.length<=1000)(w:b.length<=1000)(S:l.length<=1000)(J:∀g∈l,g.bs.length<=1000/\∀y∈g.bs,y.lo.length=(a++b).length/\y.hi.length=(a++b).length)(o:l.Pairwise fun y z=>y.ev<z.ev):Ps 127 [.int .i64 (x:Int),.int .i64 (e:Int),.fptr (ceCl c),.fptr [gdsV l],.fptr (spCl q A B P F)] (.bool (prmQ (ctC c) l (tplQ A B) x e)):=by
 have H:=Qbh c;have M:=@Qbd q A B P F;have T:tplQ A B x=nz (a++b):=by unfold tplQ;rw[Qaw hA,Qaw Q]
 obtain⟨k,hk,C⟩:=index84E l (e:Int) S;have X:=@tuple49 q A B P F x a b hA Q V L w;refine Zcv 64 (Ok VK.s127) rfl (QvC H (by simp only[noRefs,noRef,QaP];rfl) M) rfl ?_;have d:=Qn6 c.ev he;have s:5<=((evsC c.ev).drop (e*5)).length:=by rw[d];simp
 have i:(e:Int)<5:=by omega
 cases hc:(c.ev e).c with|false=>
  have I:prmQ (ctC c) l (tplQ A B) x e=true:=by unfold prmQ;rw[show ctC c e=false from hc];rfl
  rw[I];rw[hc]at d;unfold VK.s127;refine Zc5 (Zc9 i d s) ?_;exact⟨.inr trivial,_,rfl,rfl⟩|true=>
  rw[hc]at d;have I:prmQ (ctC c) l (tplQ A B) x e=l.any fun g=>decide (g.ev=(e:Int))&&inBs g.bs (nz (a++b)):=by unfold prmQ;rw[show ctC c e=true from hc,T];rfl
  rw[I];unfold VK.s127;refine Zc5 (Zc9 i d s) ?_;refine ch (ZcQ (ZcT (Zcy _) (ZcT (FrzTo.fn ZcS (ZcT (ZcP gg (Zcz _)) ZcS)) ZcS)) hk rfl) ?_;rcases C with⟨rfl,O⟩|⟨f,g,rfl,hf,u⟩
  ·have n:(l.any fun g=>decide (g.ev=(e:Int))&&inBs g.bs (nz (a++b)))=false:=by rw[ZbB];intro g u;rw[decide_eq_false (O g u),ZbQ];decide
   rw[n];refine Zc4 ?_;exact⟨.inr trivial,_,rfl,rfl⟩
  have v:=(Zaf.1 hf).1;have m:=Zaa hf;obtain⟨U,K⟩:=J g m;have t:=permits65 g (nz (a++b)) (by omega) (fun y E=>by rw[Qfu];exact K y E) (by rw[Qfu,Zag];omega);rw[QbE]at t;have n:(l.any fun g=>decide (g.ev=(e:Int))&&inBs g.bs (nz (a++b)))=inBs g.bs (nz (a++b)):=by cases h:inBs g.bs (nz (a++b))with|true=>exact Za8.2 ⟨g,m,by rw[decide_eq_true u,h];rfl⟩|false=>
   rw[ZbB];intro y E;by_cases R:y.ev=(e:Int);·have :y=g:=Qp1 o E m (by rw[R,u]);subst this;rw[h,Bool.and_false];decide
   rw[decide_eq_false R,ZbQ];decide
  rw[n];generalize inBs g.bs (nz (a++b))=W at*;have p:=QdR hf;have N:2<=((l.flatMap gdC).drop (f*2)).length:=by rw[p];simp
  have G:(f:Int)<(l.length:Int):=by omega
  refine Zc5 (Zda v G p N) ?_;refine cp X ?_;refine Zc4 ?_;refine cp t ?_;refine Zc4 ?_;exact⟨.inr trivial,_,rfl,rfl⟩
end Go.AM.SO
namespace Go.AM.VN
open Go.Proofs
set_option maxHeartbeats 4000000
noncomputable section
def cf:YA.Cf:={most:=.pure}
def s62:SFn:=by
 refine(?f:YA.Yt Tryz.prog cf 62 [[0,1,2,7],[3,5,20],[21,22,23,24],[25,26],[],[30,31,32],[11,33,34,35,36,37,38,39,40,41,42,43,44],[45],[27,28,29,46,47,48,49,50],[51,52,53],[],[54,55,56],[57,60,61,62,63,64,65,66],[67,68,69,70,71,72,73],[67,74,75,76,77,78,79],[],[83,84,85],[86,87,88,89,90,91,92,93],[94,96,97,98,99,95,100,101],[19,102],[103,104,105],[106,107,108,109],[110,111,112,113,114],[17,18,103,115,116,117,118,119,120,121,122,123,124],[125],[80,81,82,58,59],[4,8,9,14,15,126,127,128],[12,13,129,130]] [(21,[(2,10)])]) ?s ?h;case h=>exact YA.rr
 exact fun s _=>s
end
end Go.AM.VN
