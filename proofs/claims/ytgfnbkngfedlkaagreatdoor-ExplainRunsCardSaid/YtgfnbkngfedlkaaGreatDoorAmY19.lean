/- A part of the proof of ExplainEventsCardSaid: lemmas on the way (AnSj, AnSr, AnSn, AnSo, AnSs, AnSt, AnSu, AnSl, AnSv, AnSw, AnEm). Conditions: none of ours. -/
import Derived.Test.YtgfnbkngfedlkaaGreatDoorProg
import Derived.KernelRfl
import Derived.Test.YtgfnbkngfedlkaaGreatDoorAmY18
set_option linter.unusedSectionVars false
set_option maxHeartbeats 32000000
set_option maxRecDepth 100000
set_option linter.unusedVariables false
set_option linter.unusedSimpArgs false
namespace Go.AM.SO
open Go.Proofs Go.AM.SD Go.AM.SE
abbrev wldP(c:Cel)(q:Aut)(TA TB:List (List Nat))(X:List Nat)(F:List (Nat×Int×Int×Int))(r:Res):List AV:=[evsV c.ev,its 99 c.cs,its 114 c.rs,exs c.xs,cos c.ks,sliN q.al,.int .i64 (q.n:Int),sliN q.ms,egsN q.es,tuV TA,tuV TB,sliN X,rss F,sliN r.kept,sli r.dist,rms r.rem,.int .i64 (r.rounds:Int),sliN r.sup.al,.int .i64 (r.sup.n:Int),sliN r.sup.ms,egsN r.sup.es,sliN r.orig]
theorem nrW{c:Cel}{q:Aut}{TA TB:List (List Nat)}{X:List Nat}{F:List (Nat×Int×Int×Int)}{r:Res}:noRefs (wldP c q TA TB X F r)=true:=by have h1:=SU.QaK c;rw[celV,noRef]at h1;simp only[noRefs,Zaa,Zad]at h1;obtain⟨b,a2,a3,a4,a5⟩:=h1;have a:=Qd4 r;rw[noRef]at a;simp only[noRefs,Zaa,Zad]at a;simp only[noRefs,b,a2,a3,a4,a5,Qae,Qah,Qa9,Qde,a];rfl
theorem nrW1{c:Cel}{q:Aut}{TA TB:List (List Nat)}{X:List Nat}{F:List (Nat×Int×Int×Int)}{r:Res}:noRef (.agg (wldP c q TA TB X F r))=true:=by rw[noRef];exact nrW
def wldC(c:Cel):List AV:=wldP c (spQ c) (spA c (sync0 (allA c)).1) (spB c (sync0 (allA c)).1) (spP c (sync0 (auL c.cs)).1 (sync0 (allA c)).1) (forb c (sync0 (allA c)).1.length) (resC c)
theorem begin33(p:Pln)(h:POk p):PSpec Tryz.prog 33 [plnV p] (.tup [.agg (wldC (mkC p)),.bool true]):=by
 have hlen:=SU.QcA h;have a:=SU.QcB h;have g:PSpec Tryz.prog 88 [.agg (plnC p)] (celV (mkC p)):=SU.Make26 p h;have f:(plnC p).take 152=plnC p:=by rw[<-hlen,Zao]
 have d:=cell22 (mkC p) Qd6;have b:=@SU.Qeh p;refine Zcx 64 XK.ok33 rfl (by simp only[noRefs,noRef,b];rfl) (by rw[noRef,noRefs];unfold wldC;rw[nrW1];rfl) ?_;show wS _ _ _ _ _ (argT 0 [.agg (plnC p)]) _ _;rw[spC,spG]at d;unfold wldC;have hnw:=@nrW1 (mkC p) (spQ (mkC p)) (spA (mkC p) (sync0 (allA (mkC p))).1) (spB (mkC p) (sync0 (allA (mkC p))).1) (spP (mkC p) (sync0 (auL (mkC p).cs)).1 (sync0 (allA (mkC p))).1) (forb (mkC p) (sync0 (allA (mkC p))).1.length) (resC (mkC p));change PSpec Tryz.prog 89 [celV (mkC p)] (.tup [.agg [sliN (spQ (mkC p)).al,.int .i64 ((spQ (mkC p)).n:Int),sliN (spQ (mkC p)).ms,egsN (spQ (mkC p)).es,tuV (spA (mkC p) (sync0 (allA (mkC p))).1),tuV (spB (mkC p) (sync0 (allA (mkC p))).1),sliN (spP (mkC p) (sync0 (auL (mkC p).cs)).1 (sync0 (allA (mkC p))).1),rss (forb (mkC p) (sync0 (allA (mkC p))).1.length)],SE.rsV (resC (mkC p)),.int .i64 0])at d;generalize forb (mkC p) (sync0 (allA (mkC p))).1.length=F at*;generalize spA (mkC p) (sync0 (allA (mkC p))).1=A at*;generalize spB (mkC p) (sync0 (allA (mkC p))).1=B at*;generalize spP (mkC p) (sync0 (auL (mkC p).cs)).1 (sync0 (allA (mkC p))).1=X at*;generalize resC (mkC p)=r at*;generalize spQ (mkC p)=q at*;generalize mkC p=c at*;generalize plnC p=C at*;unfold XK.s33;refine Zc1 (Zc7 hlen a f) ?_;refine cp g ?_;refine Zc0 ?_;refine cp d ?_;refine Zc0 ?_;refine⟨.inr trivial,_,rfl,Zct ?_⟩;rw[noRef,noRefs,hnw];rfl
def stI(es:List Ed)(s:Nat)(e:Int):Int:=match es.find? fun x=>x.1==s&&decide ((x.2.1:Int)=e)with|some x=>(x.2.2:Int)|none=>-1
theorem Qey(es:List Ed)(s e:Nat):stI es s (e:Int)=match stepA es s e with|some t=>(t:Int)|none=>-1:=by
 unfold stI stepA;have:(fun x:Ed=>x.1==s&&decide ((x.2.1:Int)=(e:Int)))=fun x=>x.1==s&&x.2.1==e:=by funext x;rw[Zbu];simp;intro _;omega
 rw[this];cases es.find? fun x=>x.1==s&&x.2.1==e<;>rfl
theorem step38(a:Aut)(s:Nat)(e:Int)(r:a.es.length<=1000000):PSpec Tryz.prog 38 [aV a,.int .i64 (s:Int),.int .i64 e] (.int .i64 (stI a.es s e)):=by
 refine Zcy 64 XK.ok38 rfl (by(try simp only[noRefs,Qad,Qaf,noRef,noRefs,Zag,Zad])<;>rfl) rfl ?_;unfold XK.s38;refine Zc0 ?_;refine Qap 100 (fun i:Nat=>[(1,.int .i64 (s:Int)),(2,.int .i64 e),(10,egsN a.es),(11,.int .i64 a.es.length),(12,.int .i64 i)]) (fun _=>[]) (fun i=>i<=a.es.length/\∀(j:Nat)y,j<i->a.es[j]?=some y->(y.1==s&&decide ((y.2.1:Int)=e))=false) (fun i=>a.es.length-i) 0 0 200 (fun _:Unit=>[]) (fun _=>[]) (fun _=>∀y∈a.es,(y.1==s&&decide ((y.2.1:Int)=e))=false) ?_ ⟨Zah _,fun j y f=>absurd f (ZaB _)⟩ ?_ ?_;·exact⟨[],rfl,ZcB,ZcE,ZcD (Zct rfl) (ZcD (Zct rfl) (ZcD (Zct (Qah _)) au29))⟩
 ·rintro i⟨hi,k⟩;by_cases b:i<a.es.length
  ·obtain⟨x,o⟩:=Qao b;have d:=QaJ o;have g:3<=((a.es.flatMap edC).drop (i*3)).length:=by rw[d];simp
   have l:(x.1==s&&decide ((x.2.1:Int)=e))=false->i+1<=a.es.length/\∀(j:Nat)y,j<i+1->a.es[j]?=some y->(y.1==s&&decide ((y.2.1:Int)=e))=false:=fun q=>⟨by omega,fun j y f h=>by
    by_cases p:j=i;·subst p;rw[o]at h;cases h;exact q
    exact k j y (by omega) h⟩;by_cases h1:x.1=s
   ·have c:(x.1:Int)=(s:Int):=by omega
    by_cases m:(x.2.1:Int)=e
    ·refine Zc1 (Zc9 b d g c m) ?_;refine⟨.inr trivial,_,rfl,?_⟩;have hf:a.es.find? (fun x=>x.1==s&&decide ((x.2.1:Int)=e))=some x:=by refine List.find?_eq_some_iff_getElem.2 ⟨by simp[h1,m],i,b,(Zaf.1 o).2,fun j f=>?_⟩;rw[k j _ f (Zal (by omega))];rfl
     unfold stI;rw[hf];rfl
    refine Zc1 (Zc9 b d g c m) ?_;refine⟨i+1,by omega,l (by simp[m]),?_⟩;exact⟨[],rfl,ZcB,ZcE,ZcD (Zct rfl) (ZcD (Zct rfl) (ZcD (Zct (Qah _)) au29))⟩
   have c:¬(x.1:Int)=(s:Int):=by omega
   refine Zc1 (Zc8 b d g c) ?_;refine⟨i+1,by omega,l (by simp[h1]),?_⟩;exact⟨[],rfl,ZcB,ZcE,ZcD (Zct rfl) (ZcD (Zct rfl) (ZcD (Zct (Qah _)) au29))⟩
  have e:i=a.es.length:=by omega
  subst e;refine Zc1 b ?_;refine⟨(),fun y h=>?_,⟨[],rfl,au0,au30,au29⟩⟩;obtain⟨j,f⟩:=Zbk h;exact k j y (Zaf.1 f).1 f
 rintro _ k;refine Zc0 ?_;refine⟨.inr trivial,_,rfl,?_⟩;have hf:a.es.find? (fun x=>x.1==s&&decide ((x.2.1:Int)=e))=none:=Zbb.2 fun y h=>by rw[k y h];simp
 unfold stI;rw[hf];rfl
theorem removal43{c:Cel}{q:Aut}{TA TB:List (List Nat)}{X:List Nat}{F:List (Nat×Int×Int×Int)}{r:Res}(p:r.rem.length<=1000000)(s:Nat):PSpec Tryz.prog 43 [.agg (wldP c q TA TB X F r),.int .i64 (s:Int)] (.tup [rmV (rmD r.rem s),.bool (remAt r.rem s).isSome]):=by
 have hw:=@nrW1 c q TA TB X F r;have b:noRef (rms r.rem)=true:=by simp only[noRef,Qak]
 refine Zcy 64 XK.ok43 rfl (by rw[noRefs,hw];rfl) rfl ?_;unfold XK.s43;refine Zc0 ?_;refine Qap 100 (fun i:Nat=>[(1,.int .i64 (s:Int)),(4,.ptr 50 0 0),(11,rms r.rem),(12,.int .i64 r.rem.length),(13,.int .i64 i)]) (fun _=>[(50,.cells 0 [.int .i64 0,.int .i64 0,.int .i64 0,.int .i64 0])]) (fun i=>i<=r.rem.length/\∀(j:Nat)y,j<i->r.rem[j]?=some y->(y.st==s)=false) (fun i=>r.rem.length-i) 0 0 200 (fun _:Unit=>[(4,.ptr 50 0 0)]) (fun _=>[(50,.cells 0 [.int .i64 0,.int .i64 0,.int .i64 0,.int .i64 0])]) (fun _=>∀y∈r.rem,(y.st==s)=false) ?_ ⟨Zah _,fun j y g=>absurd g (ZaB _)⟩ ?_ ?_;·exact⟨[(50,.blk 65 0)],rfl,ZcB,ZcF rfl rfl gg (Zcv rfl) ZcE,ZcD (Zct rfl) (ZcD (Rn.x2 rfl rfl) (ZcD (Zct b) au29))⟩
 ·rintro i⟨hi,l⟩;by_cases a:i<r.rem.length
  ·obtain⟨x,m⟩:=Qao a;have h:=QfI m;have k:4<=((r.rem.flatMap rmC).drop (i*4)).length:=by rw[h];simp
   by_cases h1:x.st=s
   ·have d:(x.st:Int)=(s:Int):=by omega
    refine Zc1 (Zc8 a h k d) ?_;refine⟨.inr trivial,_,rfl,?_⟩;have hf:remAt r.rem s=some x:=by refine List.find?_eq_some_iff_getElem.2 ⟨by simp[h1],i,a,(Zaf.1 m).2,fun j g=>?_⟩;rw[l j _ g (Zal (by omega))];rfl
    unfold rmD;rw[hf];subst h1;rfl
   have d:¬(x.st:Int)=(s:Int):=by omega
   refine Zc1 (Zc8 a h k d) ?_;refine⟨i+1,by omega,⟨by omega,fun j y g f=>?_⟩,?_⟩
   ·by_cases o:j=i;·subst o;rw[m]at f;cases f;simpa using h1
    exact l j y (by omega) f
   exact⟨[(50,.blk 50 0)],rfl,ZcB,ZcF rfl rfl gg (Zcv rfl) ZcE,ZcD (Zct rfl) (ZcD (Rn.x2 rfl rfl) (ZcD (Zct b) au29))⟩
  have e:i=r.rem.length:=by omega
  subst e;refine Zc1 a ?_;refine⟨(),fun y f=>?_,[(50,.blk 50 0)],rfl,ZcB,ZcF rfl rfl gg (Zcv rfl) ZcE,ZcD (Rn.x2 rfl rfl) ZcC⟩;obtain⟨j,g⟩:=Zbk f;exact l j y (Zaf.1 g).1 g
 rintro _ l;refine Zc0 ?_;refine⟨.inr trivial,_,rfl,?_⟩;have hf:remAt r.rem s=none:=Zbb.2 fun y f=>by rw[l y f];simp
 unfold rmD;rw[hf];rfl
end Go.AM.SO
namespace Go.AM.SO
open Go.Proofs Go.AM.SD Go.AM.SE
end Go.AM.SO
namespace Go.AM.SO
open Go.Proofs Go.AM.SD Go.AM.SE
end Go.AM.SO
namespace Go.AM.SO
open Go.Proofs Go.AM.SD Go.AM.SE
theorem QeZ(c:Cel)(h:WfCel c):StOk c (spQ c) (leftC c) (forbC c) (resC c) (uncL c.ev 5):=by
 have hw:=wfA_c c h;have a:=Qct c h;have d:=hw.n5;refine⟨hw,(Qkf _).1,?_,a,(QjI c _).1,?_,Qr1 hw,?_⟩;·have :(uncL c.ev 5).length<=5:=Zav (ZaG ..) (by simp);omega
 ·have :=Qgm c (sync0 (allA c)).1.length;have b:(syncA (allA c)).n=(sync0 (allA c)).1.length:=rfl;show(forb c (sync0 (allA c)).1.length).length<=1000000;omega
 have :=QlC a;omega
theorem leadsC(c:Cel)(h:WfCel c)(s:Nat){n:Nat}{x:Rm}(b:remAt (resC c).rem n=some x):PSpec Tryz.prog 82 [.fptr (stdC c),.int .i64 (s:Int),.int .i64 (n:Int)] (expV (leadsX c s n)):=by rw[Qcu];unfold leadsX;have a:=@leads82 c (plA c) (spQ c) (spA c (sync0 (allA c)).1) (spB c (sync0 (allA c)).1) (spP c (sync0 (auL c.cs)).1 (sync0 (allA c)).1) (forbC c) (resC c) (uncL c.ev 5) (leftC c) (QeZ c h) s n x b;generalize leadsG (syncA (allA c)) (uncL c.ev 5) (resC c).rem (forbC c) s n=L at*;exact a
theorem keptC(c:Cel)(s:Nat):PSpec Tryz.prog 81 [.fptr (stdC c),.int .i64 (s:Int)] (.bool (remAt (resC c).rem s).isNone):=by rw[Qcu];exact@kept81 c (plA c) (spQ c) (spA c (sync0 (allA c)).1) (spB c (sync0 (allA c)).1) (spP c (sync0 (auL c.cs)).1 (sync0 (allA c)).1) (forbC c) (resC c) (uncL c.ev 5) s
theorem Qdf(c:Cel):noRef (.fptr (stdC c))=true:=by rw[noRef];exact QjK c
theorem rnx0{m:Nat}{π:Nat->Option Src}{h:Heap}:Rn m π h (expV x00) (.agg [.int .i64 0,.int .i64 0,.int .i64 0,.int .i64 0,.nilsl,.int .i64 0,.int .i64 0,.int .i64 0,.int .i64 0,.int .i64 0,.int .i64 0,.int .i64 0,.int .i64 0,.int .i64 0]):=Rn.agg (ZcL (Zct rfl) (ZcL (Zct rfl) (ZcL (Zct rfl) (ZcL (Zct rfl) (ZcL Zcu (Zcv rfl))))))
theorem state23K(c:Cel)(h:WfCel c){s:Nat}(l:s<(spQ c).n):PSpec Tryz.prog 23 [celV c,.int .i64 (s:Int)] (match remAt (resC c).rem s with|some _=>.tup [expV (leadsX c s s),.int .i64 0]|none=>.tup [expV x00,.int .i64 22]):=by
 have hO:=open80 c h;have i:=QaY c;have a:=keptC c s;have f:=fun x k=>@leadsC c h s s x k;have g:=Qdf c;rw[Qcu]at hO a f g;generalize leadsX c s s=L at*;generalize resC c=r at*;generalize spQ c=q at*;generalize plA c=p at*;generalize spA c (sync0 (allA c)).1=A at*;generalize spB c (sync0 (allA c)).1=B at*;generalize spP c (sync0 (auL c.cs)).1 (sync0 (allA c)).1=X at*;generalize forb c (sync0 (allA c)).1.length=F at*;generalize uncL c.ev 5=u at*;have b:=QaR L;have g1:¬(s:Int)<0:=by omega
 have g2:¬(q.n:Int)<=(s:Int):=by omega
 cases hm:remAt r.rem s with|none=>rw[hm]at a;dsimp only[Option.isNone_none]at a⊢;refine Zcx 64 XA.ok23 rfl (by rw[noRefs,SU.QaK];rfl) rfl ?_;unfold XA.s23;refine Zc0 ?_;refine cp hO ?_;refine Zc1 (Zc6 g1 g2) ?_;refine cp a ?_;refine Zc0 ?_;exact⟨.inr trivial,_,rfl,Rn.tup (ZcL rnx0 (Zcv rfl))⟩|some x=>have d:=f x hm;rw[hm]at a;dsimp only[Option.isNone_some]at a⊢;refine Zcx 64 XA.ok23 rfl (by rw[noRefs,SU.QaK];rfl) (by rw[noRef,noRefs,b];rfl) ?_;unfold XA.s23;refine Zc0 ?_;refine cp hO ?_;refine Zc1 (Zc6 g1 g2) ?_;refine cp a ?_;refine Zc0 ?_;refine cp d ?_;refine Zc0 ?_;refine⟨.inr trivial,_,rfl,Zct ?_⟩;rw[noRef,noRefs,b];rfl
end Go.AM.SO
namespace Go.AM.SO
open Go.Proofs Go.AM.SD Go.AM.SE
theorem Qr6{n:Nat}{l:List Vs}(a:LOk n l):∀(j:Nat)w,l[j]?=some w->w.run.length<=j:=by intro j;induction j using Nat.strongRecOn with|_ j g=>
 intro w hw;rcases a.bf j w hw with⟨_,b2⟩|⟨b,f,_,b2,d,c⟩;·rw[b2];simp
 have :=g b b2 f d;rw[c,Zae,Zbg];omega
theorem Quv{a:Aut}{u:List Nat}{R:List Rm}(h:WfA a):∀(k i:Nat)(l:List Vs){r:List Nat}{t:Nat},LOk a.n l->bgo a u R k i l=some (r,t)->r.length<=a.n:=by intro k;induction k with|zero=>intro i l r t _ b;cases b|succ k f=>
 intro i l r t d b;unfold bgo at b;split at b;·cases b
 rename_i v c;split at b;·cases b;have:=Qr6 d i v c;have:=(Zaf.1 c).1;have:=d.len;omega
 exact f _ _ (d.exts (es:=ucE a u v.st) c fun e he=>QjE h he).1 b
theorem Qfb{q:Aut}{u:List Nat}{R:List Rm}{F:List (Nat×Int×Int×Int)}{s n:Nat}(h:WfA q)(b:n<q.n):(leadsG q u R F s n).run.length<=1000000:=by
 have c:=h.n5;unfold leadsG;split;·rename_i r t a;have:=Quv h _ _ _ (LOk.one b) a;show r.length<=_;omega
 exact Zah _
end Go.AM.SO
namespace Go.AM.SO
open Go.Proofs Go.AM.SD Go.AM.SE
end Go.AM.SO
namespace Go.AM.SO
open Go.Proofs Go.AM.SD Go.AM.SE
theorem contains39(l:List Nat)(e:Nat)(f:l.length<=1000000):PSpec Tryz.prog 39 [sliN l,.int .i64 (e:Int)] (.bool (l.contains e)):=by
 have b:=contains62 (nz l) (e:Int) (by simp[nz];omega);have hm:decide ((e:Int)∈nz l)=l.contains e:=by
  rw[Zbu,decide_eq_true_eq,ZaE];constructor
  ·intro a;obtain⟨y,c,d⟩:=Zan.1 a;have:y=e:=by omega
   rw[<-this];exact c
  intro a;exact Zan.2 ⟨e,a,rfl⟩
 rw[hm,Qbt]at b;exact b
end Go.AM.SO
namespace Go.AM.XL
open Go.Proofs
set_option maxHeartbeats 4000000
noncomputable section
def cf:YA.Cf:={most:=.pure,always:=[39,40,41,45,46].map fun k=>(k,.heap)}
def s10:SFn:=by
 refine(?f:YA.Yt Tryz.prog cf 10 [[0,2],[22,23,24,25,26,27],[1,28,29],[2,1,28,31,32,30,33,34],[4,35],[3,36],[2,36,37,38,39],[],[43,44,45],[47,48,49,50,51,46,52,53],[8,54],[3,40,41,42,97,96,95,93,94,92,91,88,83,87,86,85,84,80,79,76,75,74,179,178,175,177,176,172,171,170,169,166,168,167,165,164,148,147,146,122,117,121,120,119,118,116,115,114,113,6,7,55],[2,55,56,57],[58],[],[62,63,64],[66,67,68,65,69,70],[12,13,71,72,73,77,78,81,82,89,90],[3,40,41,42,97,96,95,93,94,92,91,88,83,87,86,85,84,80,79,76,75,74,179,178,175,177,176,172,171,170,169,166,168,167,165,164,148,147,146,122,117,121,120,119,118,116,115,114,113,6,7,9,59,60,61,11,98],[2,11,98,99,100,101,102,103,104],[105],[3,40,41,42,97,96,95,93,94,92,91,88,83,87,86,85,84,80,79,76,75,74,179,178,175,177,176,172,171,170,169,166,168,167,165,164,148,147,146,122,117,121,120,119,118,116,115,114,113,6,7,9,59,60,61,106],[2,106,107],[9,59,60,61,108,109,110,111,112],[3,40,41,42,97,96,95,93,94,92,91,88,83,87,86,85,84,80,79,76,75,74,179,178,175,177,176,172,171,170,169,166,168,167,165,164,148,147,146,122,117,121,120,119,118,116,115,114,113,6,7,123],[2,6,123,124,125,126],[7,127,128],[],[131],[14],[],[135,136,137],[139,140,141,138,142,143],[18,19,144,145],[3,40,41,42,97,96,95,93,94,92,91,88,83,87,86,85,84,80,79,76,75,74,179,178,175,177,176,172,171,170,169,166,168,167,165,164,148,147,146,122,117,121,120,119,118,116,115,114,113,129,130,15,132,133,134,17,149],[2,149,150,151,152],[],[156,157,158],[159,160,161,162,163,173,174],[21,180,181,182,183,184,185],[21,180,186],[17,153,154,155,187],[15,132,133,134,188],[189],[14,129,130,190],[3,40,41,42,97,96,95,93,94,92,91,88,83,87,86,85,84,80,79,76,75,74,179,178,175,177,176,172,171,170,169,166,168,167,165,164,148,147,146,122,117,121,120,119,118,116,115,114,113]]) ?s ?h;case h=>exact YA.rr
 exact fun s _=>s
theorem ok10:okFn Tryz.prog 10 s10=true:=by kernel_rfl
end
end Go.AM.XL
namespace Go.AM.SO
open Go.Proofs Go.AM.SD Go.AM.SE
theorem spQ_5(c:Cel)(h:WfCel c):∀x∈(spQ c).al,x<5:=(QdM (Qcd h) (by rw[Qb8];have:=h.c3;have:=h.r2;omega)).a5
theorem removalW(c:Cel)(h:WfCel c)(s:Nat):PSpec Tryz.prog 43 [.agg (wldC c),.int .i64 (s:Int)] (.tup [rmV (rmD (resC c).rem s),.bool (remAt (resC c).rem s).isSome]):=by unfold wldC;exact removal43 (QeZ c h).rl s
theorem QcT(c:Cel):wldC c=wldP c (spQ c) (spA c (sync0 (allA c)).1) (spB c (sync0 (allA c)).1) (spP c (sync0 (auL c.cs)).1 (sync0 (allA c)).1) (forb c (sync0 (allA c)).1.length) (resC c):=rfl
end Go.AM.SO
namespace Go.AM.SO
open Go.Proofs Go.AM.SD Go.AM.SE
end Go.AM.SO
namespace Go.AM.EM
open Go.Proofs
set_option maxHeartbeats 4000000
noncomputable section
def cf:YA.Cf:={always:=[(83,.borrow)]}
noncomputable def ft:FT2:=YA.tre Tryz.prog cf 20 [15,16,17,19,21,22,26,27,36,39,40,41,46,48,57,58,59,60,61,62,63,64,68,69,73,74,75,76,77,78,79,80,81,82,83,84,89,90,91,92,96,97,99,108,109,112,113,114,115,116,117,118,119,120,121,122,123,124,125,128,129,130,131,132,133,134,135,136,137,138,139,140,141,142,143,144,145,146,147,148,160,161,162,163,171,174,175,176,177,178,179,180,181,182,194,196,197,198,199,200,201,202,203,204,205,214,215,216,217,218,219,220,221,222,227,228,229,230,231,232,234,235,238,249,250,251,252,253,254,255,256,257,261,262,263,264,265,270,271,272,287,288,289,290,291,297,298,299,300,301,302,303,304,312,313,314,315,316,317,318,319,320,321]
theorem ft_ok:ft.OK Tryz.prog:=YA.QgS _ _ (YA.QfW (by kernel_rfl))
end
end Go.AM.EM
