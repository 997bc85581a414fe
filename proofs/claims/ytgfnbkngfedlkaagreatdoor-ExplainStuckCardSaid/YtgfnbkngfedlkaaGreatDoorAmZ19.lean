/- A part of the proof of ExplainEventsCardSaid: lemmas on the way (AnSj, AnSr, AnSn, AnSo, AnSs, AnSt, AnSu, AnSl, AnSv, AnSw, AnEm). Conditions: none of ours. -/
import Derived.Test.YtgfnbkngfedlkaaGreatDoorProg
import Derived.KernelRfl
import Derived.Test.YtgfnbkngfedlkaaGreatDoorAmZ18
set_option linter.unusedSectionVars false
set_option maxHeartbeats 32000000
set_option maxRecDepth 100000
set_option linter.unusedVariables false
set_option linter.unusedSimpArgs false
namespace Go.AM.SO
open Go.Proofs Go.AM.SD Go.AM.SE
abbrev wldP(c:Cel)(q:Aut)(TA TB:List (List Nat))(X:List Nat)(F:List (Nat×Int×Int×Int))(r:Res):List AV:=[evsV c.ev,its 99 c.cs,its 114 c.rs,exs c.xs,cos c.ks,sliN q.al,.int .i64 (q.n:Int),sliN q.ms,egsN q.es,tuV TA,tuV TB,sliN X,rss F,sliN r.kept,sli r.dist,rms r.rem,.int .i64 (r.rounds:Int),sliN r.sup.al,.int .i64 (r.sup.n:Int),sliN r.sup.ms,egsN r.sup.es,sliN r.orig]
theorem nrW{c:Cel}{q:Aut}{TA TB:List (List Nat)}{X:List Nat}{F:List (Nat×Int×Int×Int)}{r:Res}:noRefs (wldP c q TA TB X F r)=true:=by have h1:=SU.QaK c;rw[celV,noRef]at h1;simp only[noRefs,Zaa,Zad]at h1;obtain⟨b,a2,a3,a4,a5⟩:=h1;have a:=Qd4 r;rw[noRef]at a;simp only[noRefs,Zaa,Zad]at a;simp only[noRefs,b,a2,a3,a4,a5,Qae,Qah,Qa9,Qde,a];rfl
theorem nrW1{c:Cel}{q:Aut}{TA TB:List (List Nat)}{X:List Nat}{F:List (Nat×Int×Int×Int)}{r:Res}:noRef (.agg (wldP c q TA TB X F r))=true:=by rw[noRef];exact nrW
def wldC(c:Cel):List AV:=wldP c (spQ c) (spA c (sync0 (allA c)).1) (spB c (sync0 (allA c)).1) (spP c (sync0 (auL c.cs)).1 (sync0 (allA c)).1) (forb c (sync0 (allA c)).1.length) (resC c)
theorem begin33(p:Pln)(h:POk p):PSpec Tryz.prog 33 [plnV p] (.tup [.agg (wldC (mkC p)),.bool true]):=by
 have hlen:=SU.QcA h;have a:=SU.QcB h;have g:PSpec Tryz.prog 88 [.agg (plnC p)] (celV (mkC p)):=SU.Make26 p h;have f:(plnC p).take 152=plnC p:=by rw[<-hlen,Zao]
 have d:=cell22 (mkC p) Qd6;have b:=@SU.Qeh p;refine Zcx 64 XK.ok33 rfl (by simp only[noRefs,noRef,b];rfl) (by rw[noRef,noRefs];unfold wldC;rw[nrW1];rfl) ?_;show wS _ _ _ _ _ (argT 0 [.agg (plnC p)]) _ _;rw[spC,spG]at d;unfold wldC;have hnw:=@nrW1 (mkC p) (spQ (mkC p)) (spA (mkC p) (sync0 (allA (mkC p))).1) (spB (mkC p) (sync0 (allA (mkC p))).1) (spP (mkC p) (sync0 (auL (mkC p).cs)).1 (sync0 (allA (mkC p))).1) (forb (mkC p) (sync0 (allA (mkC p))).1.length) (resC (mkC p));change PSpec Tryz.prog 89 [celV (mkC p)] (.tup [.agg [sliN (spQ (mkC p)).al,.int .i64 ((spQ (mkC p)).n:Int),sliN (spQ (mkC p)).ms,egsN (spQ (mkC p)).es,tuV (spA (mkC p) (sync0 (allA (mkC p))).1),tuV (spB (mkC p) (sync0 (allA (mkC p))).1),sliN (spP (mkC p) (sync0 (auL (mkC p).cs)).1 (sync0 (allA (mkC p))).1),rss (forb (mkC p) (sync0 (allA (mkC p))).1.length)],SE.rsV (resC (mkC p)),.int .i64 0])at d;generalize forb (mkC p) (sync0 (allA (mkC p))).1.length=F at*;generalize spA (mkC p) (sync0 (allA (mkC p))).1=A at*;generalize spB (mkC p) (sync0 (allA (mkC p))).1=B at*;generalize spP (mkC p) (sync0 (auL (mkC p).cs)).1 (sync0 (allA (mkC p))).1=X at*;generalize resC (mkC p)=r at*;generalize spQ (mkC p)=q at*;generalize mkC p=c at*;generalize plnC p=C at*;unfold XK.s33;refine Zc1 (Zc7 hlen a f) ?_;refine cp g ?_;refine Zc0 ?_;refine cp d ?_;refine Zc0 ?_;refine⟨.inr trivial,_,rfl,Zct ?_⟩;rw[noRef,noRefs,hnw];rfl
theorem removal43{c:Cel}{q:Aut}{TA TB:List (List Nat)}{X:List Nat}{F:List (Nat×Int×Int×Int)}{r:Res}(p:r.rem.length<=1000000)(s:Nat):PSpec Tryz.prog 43 [.agg (wldP c q TA TB X F r),.int .i64 (s:Int)] (.tup [rmV (rmD r.rem s),.bool (remAt r.rem s).isSome]):=by
 have hw:=@nrW1 c q TA TB X F r;have b:noRef (rms r.rem)=true:=by simp only[noRef,Qak]
 refine Zcy 64 XK.ok43 rfl (by rw[noRefs,hw];rfl) rfl ?_;unfold XK.s43;refine Zc0 ?_;refine Qap 100 (fun i:Nat=>[(1,.int .i64 (s:Int)),(4,.ptr 50 0 0),(11,rms r.rem),(12,.int .i64 r.rem.length),(13,.int .i64 i)]) (fun _=>[(50,.cells 0 [.int .i64 0,.int .i64 0,.int .i64 0,.int .i64 0])]) (fun i=>i<=r.rem.length/\∀(j:Nat)y,j<i->r.rem[j]?=some y->(y.st==s)=false) (fun i=>r.rem.length-i) 0 0 200 (fun _:Unit=>[(4,.ptr 50 0 0)]) (fun _=>[(50,.cells 0 [.int .i64 0,.int .i64 0,.int .i64 0,.int .i64 0])]) (fun _=>∀y∈r.rem,(y.st==s)=false) ?_ ⟨Zah _,fun j y g=>absurd g (ZaB _)⟩ ?_ ?_;·exact⟨[(50,.blk 65 0)],rfl,ZcB,ZcF rfl rfl gg (Zcv rfl) ZcE,ZcD (Zct rfl) (ZcD (Rn.x2 rfl rfl) (ZcD (Zct b) au29))⟩
 ·rintro i⟨hi,l⟩;by_cases a:i<r.rem.length
  ·obtain⟨x,m⟩:=Qao a;have h:=QfI m;have k:4<=((r.rem.flatMap rmC).drop (i*4)).length:=by rw[h];simp
   by_cases h1:x.st=s
   ·have d:(x.st:Int)=(s:Int):=by omega
    refine Zc1 (Zc8 a h k d) ?_;refine⟨.inr trivial,_,rfl,?_⟩;have hf:remAt r.rem s=some x:=by refine List.find?_eq_some_iff_getElem.2 ⟨by simp[h1],i,a,(Zaf.1 m).2,fun j g=>?_⟩;rw[l j _ g (Zal (by omega))];rfl
    unfold rmD;rw[hf];subst h1;rfl
   have d:¬(x.st:Int)=(s:Int):=by omega
   refine Zc1 (Zc8 a h k d) ?_;refine⟨i+1,by omega,⟨by omega,fun j y g f=>?_⟩,?_⟩
   ·by_cases o:j=i;·subst o;rw[m]at f;cases f;simpa using h1
    exact l j y (by omega) f
   exact⟨[(50,.blk 50 0)],rfl,ZcB,ZcF rfl rfl gg (Zcv rfl) ZcE,ZcD (Zct rfl) (ZcD (Rn.x2 rfl rfl) (ZcD (Zct b) au29))⟩
  have e:i=r.rem.length:=by omega
  subst e;refine Zc1 a ?_;refine⟨(),fun y f=>?_,[(50,.blk 50 0)],rfl,ZcB,ZcF rfl rfl gg (Zcv rfl) ZcE,ZcD (Rn.x2 rfl rfl) ZcC⟩;obtain⟨j,g⟩:=Zbk f;exact l j y (Zaf.1 g).1 g
 rintro _ l;refine Zc0 ?_;refine⟨.inr trivial,_,rfl,?_⟩;have hf:remAt r.rem s=none:=Zbb.2 fun y f=>by rw[l y f];simp
 unfold rmD;rw[hf];rfl
end Go.AM.SO
namespace Go.AM.SO
open Go.Proofs Go.AM.SD Go.AM.SE
end Go.AM.SO
namespace Go.AM.SO
open Go.Proofs Go.AM.SD Go.AM.SE
end Go.AM.SO
namespace Go.AM.SO
open Go.Proofs Go.AM.SD Go.AM.SE
theorem QeZ(c:Cel)(h:WfCel c):StOk c (spQ c) (leftC c) (forbC c) (resC c) (uncL c.ev 5):=by
 have hw:=wfA_c c h;have a:=Qct c h;have d:=hw.n5;refine⟨hw,(Qkf _).1,?_,a,(QjI c _).1,?_,Qr1 hw,?_⟩;·have :(uncL c.ev 5).length<=5:=Zav (ZaG ..) (by simp);omega
 ·have :=Qgm c (sync0 (allA c)).1.length;have b:(syncA (allA c)).n=(sync0 (allA c)).1.length:=rfl;show(forb c (sync0 (allA c)).1.length).length<=1000000;omega
 have :=QlC a;omega
theorem Qdf(c:Cel):noRef (.fptr (stdC c))=true:=by rw[noRef];exact QjK c
end Go.AM.SO
namespace Go.AM.SO
open Go.Proofs Go.AM.SD Go.AM.SE
end Go.AM.SO
namespace Go.AM.SO
open Go.Proofs Go.AM.SD Go.AM.SE
end Go.AM.SO
namespace Go.AM.SO
open Go.Proofs Go.AM.SD Go.AM.SE
theorem contains39(l:List Nat)(e:Nat)(f:l.length<=1000000):PSpec Tryz.prog 39 [sliN l,.int .i64 (e:Int)] (.bool (l.contains e)):=by
 have b:=contains62 (nz l) (e:Int) (by simp[nz];omega);have hm:decide ((e:Int)∈nz l)=l.contains e:=by
  rw[Zbu,decide_eq_true_eq,ZaE];constructor
  ·intro a;obtain⟨y,c,d⟩:=Zan.1 a;have:y=e:=by omega
   rw[<-this];exact c
  intro a;exact Zan.2 ⟨e,a,rfl⟩
 rw[hm,Qbt]at b;exact b
end Go.AM.SO
namespace Go.AM.XL
open Go.Proofs
set_option maxHeartbeats 4000000
noncomputable section
def cf:YA.Cf:={most:=.pure,always:=[39,40,41,45,46].map fun k=>(k,.heap)}
def s12:SFn:=by
 refine(?f:YA.Yt Tryz.prog cf 12 [[0,4],[23,24,25,26,27,28],[1,2,29,30],[4,2,29,32,33,31,34,35],[6,36],[1,5,37],[4,37,39,40,41,42,38,43,44,45],[46,47,48,49,50,51,52,53,54],[1,5,7,8,9,55,56,57,58,59,60,61,62,63,64,65],[4,55,67,68,69,66,70,71],[11,72,73,74,75,76,77],[1,5,7,8,9,10,78,79,80,81,82,83,84,85,86,87,88],[4,1,78,89,90],[],[],[91,92,93],[94,97,98,99],[],[103,104,105],[107,108,109,110,106,111,112],[17,18,113,114,115,116,117,118,119,120,122,123,127,128,134,135],[16,141,142,143,144,145,146],[16,141,147],[100,101,102,95,96],[14,140,139,136,138,137,133,130,132,131,129,126,125,124,121,148,149],[150,151,152],[],[156,157,158],[159,160,161,162,163,164],[169,170,171,172,173],[20,175,176,177,178,174,179,180],[21,22,181,182,183],[5,7,8,9,10,12,13,188,185,187,186,184,168,165,167,166,204,202,203,199,197,198,153,154,155,189],[4,189,190],[5,10,188,185,187,186,184,168,165,167,166,153,154,155,191,192],[7,8,9,12,13,204,202,203,199,197,198,193],[7,8,9,12,13,204,202,203,199,197,198,193,194,195,196,200,201,205]]) ?s ?h;case h=>exact YA.rr
 exact fun s _=>s
def s47:SFn:=by
 refine(?f:YA.Yt Tryz.prog cf 47 [[3],[0,1,4,5,6,7,8,9]]) ?s ?h;case h=>exact YA.rr
 exact fun s _=>s
theorem ok12:okFn Tryz.prog 12 s12=true:=by kernel_rfl
theorem ok47:okFn Tryz.prog 47 s47=true:=by kernel_rfl
end
end Go.AM.XL
namespace Go.AM.SO
open Go.Proofs Go.AM.SD Go.AM.SE
theorem removalW(c:Cel)(h:WfCel c)(s:Nat):PSpec Tryz.prog 43 [.agg (wldC c),.int .i64 (s:Int)] (.tup [rmV (rmD (resC c).rem s),.bool (remAt (resC c).rem s).isSome]):=by unfold wldC;exact removal43 (QeZ c h).rl s
theorem QcT(c:Cel):wldC c=wldP c (spQ c) (spA c (sync0 (allA c)).1) (spB c (sync0 (allA c)).1) (spP c (sync0 (auL c.cs)).1 (sync0 (allA c)).1) (forb c (sync0 (allA c)).1.length) (resC c):=rfl
end Go.AM.SO
namespace Go.AM.SO
open Go.Proofs Go.AM.SD Go.AM.SE
end Go.AM.SO
namespace Go.AM.EM
open Go.Proofs
set_option maxHeartbeats 4000000
noncomputable section
def cf:YA.Cf:={always:=[(83,.borrow)]}
noncomputable def ft:FT2:=YA.tre Tryz.prog cf 20 [15,16,17,19,21,22,26,27,36,39,40,41,46,48,57,58,59,60,61,62,63,64,68,69,73,74,75,76,77,78,79,80,81,82,83,84,89,90,91,92,96,97,99,108,109,112,113,114,115,116,117,118,119,120,121,122,123,124,125,128,129,130,131,132,133,134,135,136,137,138,139,140,141,142,143,144,145,146,147,148,160,161,162,163,171,174,175,176,177,178,179,180,181,182,194,196,197,198,199,200,201,202,203,204,205,214,215,216,217,218,219,220,221,222,227,228,229,230,231,232,234,235,238,249,250,251,252,253,254,255,256,257,261,262,263,264,265,270,271,272,287,288,289,290,291,297,298,299,300,301,302,303,304,312,313,314,315,316,317,318,319,320,321]
theorem ft_ok:ft.OK Tryz.prog:=YA.QgS _ _ (YA.QfW (by kernel_rfl))
end
end Go.AM.EM
