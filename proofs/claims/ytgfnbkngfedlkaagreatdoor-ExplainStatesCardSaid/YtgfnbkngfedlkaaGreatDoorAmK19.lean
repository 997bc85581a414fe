/- A part of the proof of ExplainEventsCardSaid: lemmas on the way (AnSj, AnSr, AnSn, AnSo, AnSs, AnSt, AnSu, AnSl, AnSv, AnSw, AnEm). Conditions: none of ours. -/
import Derived.Test.YtgfnbkngfedlkaaGreatDoorProg
import Derived.KernelRfl
import Derived.Test.YtgfnbkngfedlkaaGreatDoorAmK18
set_option linter.unusedSectionVars false
set_option maxHeartbeats 32000000
set_option maxRecDepth 100000
set_option linter.unusedVariables false
set_option linter.unusedSimpArgs false
namespace Go.AM.SO
open Go.Proofs Go.AM.SD Go.AM.SE
abbrev wldP(c:Cel)(q:Aut)(TA TB:List (List Nat))(X:List Nat)(F:List (Nat×Int×Int×Int))(r:Res):List AV:=[evsV c.ev,its 99 c.cs,its 114 c.rs,exs c.xs,cos c.ks,sliN q.al,.int .i64 (q.n:Int),sliN q.ms,egsN q.es,tuV TA,tuV TB,sliN X,rss F,sliN r.kept,sli r.dist,rms r.rem,.int .i64 (r.rounds:Int),sliN r.sup.al,.int .i64 (r.sup.n:Int),sliN r.sup.ms,egsN r.sup.es,sliN r.orig]
theorem nrW{c:Cel}{q:Aut}{TA TB:List (List Nat)}{X:List Nat}{F:List (Nat×Int×Int×Int)}{r:Res}:noRefs (wldP c q TA TB X F r)=true:=by have h1:=SU.QaM c;rw[celV,noRef]at h1;simp only[noRefs,Zaa,Zac]at h1;obtain⟨b,a2,a3,a4,a5⟩:=h1;have a:=QdV r;rw[noRef]at a;simp only[noRefs,Zaa,Zac]at a;simp only[noRefs,b,a2,a3,a4,a5,Qae,Qai,Qa8,Qc2,a];rfl
theorem nrW1{c:Cel}{q:Aut}{TA TB:List (List Nat)}{X:List Nat}{F:List (Nat×Int×Int×Int)}{r:Res}:noRef (.agg (wldP c q TA TB X F r))=true:=by rw[noRef];exact nrW
def wldC(c:Cel):List AV:=wldP c (spQ c) (spA c (sync0 (allA c)).1) (spB c (sync0 (allA c)).1) (spP c (sync0 (auL c.cs)).1 (sync0 (allA c)).1) (forb c (sync0 (allA c)).1.length) (resC c)
theorem begin33(p:Pln)(h:POk p):PSpec Tryz.prog 33 [plnV p] (.tup [.agg (wldC (mkC p)),.bool true]):=by
 have hlen:=SU.Qdz h;have a:=SU.QdA h;have g:PSpec Tryz.prog 88 [.agg (plnC p)] (celV (mkC p)):=SU.Make26 p h;have f:(plnC p).take 152=plnC p:=by rw[<-hlen,Zar]
 have d:=cell22 (mkC p) Qg1;have b:=@SU.Qd7 p;refine Zct 64 XK.ok33 rfl (by simp only[noRefs,noRef,b];rfl) (by rw[noRef,noRefs];unfold wldC;rw[nrW1];rfl) ?_;show wS _ _ _ _ _ (argT 0 [.agg (plnC p)]) _ _;rw[spC,spG]at d;unfold wldC;have hnw:=@nrW1 (mkC p) (spQ (mkC p)) (spA (mkC p) (sync0 (allA (mkC p))).1) (spB (mkC p) (sync0 (allA (mkC p))).1) (spP (mkC p) (sync0 (auL (mkC p).cs)).1 (sync0 (allA (mkC p))).1) (forb (mkC p) (sync0 (allA (mkC p))).1.length) (resC (mkC p));change PSpec Tryz.prog 89 [celV (mkC p)] (.tup [.agg [sliN (spQ (mkC p)).al,.int .i64 ((spQ (mkC p)).n:Int),sliN (spQ (mkC p)).ms,egsN (spQ (mkC p)).es,tuV (spA (mkC p) (sync0 (allA (mkC p))).1),tuV (spB (mkC p) (sync0 (allA (mkC p))).1),sliN (spP (mkC p) (sync0 (auL (mkC p).cs)).1 (sync0 (allA (mkC p))).1),rss (forb (mkC p) (sync0 (allA (mkC p))).1.length)],SE.rsV (resC (mkC p)),.int .i64 0])at d;generalize forb (mkC p) (sync0 (allA (mkC p))).1.length=F at*;generalize spA (mkC p) (sync0 (allA (mkC p))).1=A at*;generalize spB (mkC p) (sync0 (allA (mkC p))).1=B at*;generalize spP (mkC p) (sync0 (auL (mkC p).cs)).1 (sync0 (allA (mkC p))).1=X at*;generalize resC (mkC p)=r at*;generalize spQ (mkC p)=q at*;generalize mkC p=c at*;generalize plnC p=C at*;unfold XK.s33;refine ZcW (Zc2 hlen a f) ?_;refine cp g ?_;refine ZcV ?_;refine cp d ?_;refine ZcV ?_;refine⟨.inr trivial,_,rfl,Zcq ?_⟩;rw[noRef,noRefs,hnw];rfl
def stI(es:List Ed)(s:Nat)(e:Int):Int:=match es.find? fun x=>x.1==s&&decide ((x.2.1:Int)=e)with|some x=>(x.2.2:Int)|none=>-1
theorem Qfv(es:List Ed)(s e:Nat):stI es s (e:Int)=match stepA es s e with|some t=>(t:Int)|none=>-1:=by
 unfold stI stepA;have:(fun x:Ed=>x.1==s&&decide ((x.2.1:Int)=(e:Int)))=fun x=>x.1==s&&x.2.1==e:=by funext x;rw[Zby];simp;intro _;omega
 rw[this];cases es.find? fun x=>x.1==s&&x.2.1==e<;>rfl
theorem step38(a:Aut)(s:Nat)(e:Int)(r:a.es.length<=1000000):PSpec Tryz.prog 38 [aV a,.int .i64 (s:Int),.int .i64 e] (.int .i64 (stI a.es s e)):=by
 refine Zcu 64 XK.ok38 rfl (by(try simp only[noRefs,Qad,Qaf,noRef,noRefs,Zad,Zac])<;>rfl) rfl ?_;unfold XK.s38;refine ZcV ?_;refine Qaq 100 (fun i:Nat=>[(1,.int .i64 (s:Int)),(2,.int .i64 e),(10,egsN a.es),(11,.int .i64 a.es.length),(12,.int .i64 i)]) (fun _=>[]) (fun i=>i<=a.es.length/\∀(j:Nat)y,j<i->a.es[j]?=some y->(y.1==s&&decide ((y.2.1:Int)=e))=false) (fun i=>a.es.length-i) 0 0 200 (fun _:Unit=>[]) (fun _=>[]) (fun _=>∀y∈a.es,(y.1==s&&decide ((y.2.1:Int)=e))=false) ?_ ⟨Zah _,fun j y f=>absurd f (ZaC _)⟩ ?_ ?_;·exact⟨[],rfl,Zcx,ZcA,Zcz (Zcq rfl) (Zcz (Zcq rfl) (Zcz (Zcq (Qai _)) au29))⟩
 ·rintro i⟨hi,k⟩;by_cases b:i<a.es.length
  ·obtain⟨x,o⟩:=Qap b;have d:=QaJ o;have g:3<=((a.es.flatMap edC).drop (i*3)).length:=by rw[d];simp
   have l:(x.1==s&&decide ((x.2.1:Int)=e))=false->i+1<=a.es.length/\∀(j:Nat)y,j<i+1->a.es[j]?=some y->(y.1==s&&decide ((y.2.1:Int)=e))=false:=fun q=>⟨by omega,fun j y f h=>by
    by_cases p:j=i;·subst p;rw[o]at h;cases h;exact q
    exact k j y (by omega) h⟩;by_cases h1:x.1=s
   ·have c:(x.1:Int)=(s:Int):=by omega
    by_cases m:(x.2.1:Int)=e
    ·refine ZcW (Zc4 b d g c m) ?_;refine⟨.inr trivial,_,rfl,?_⟩;have hf:a.es.find? (fun x=>x.1==s&&decide ((x.2.1:Int)=e))=some x:=by refine List.find?_eq_some_iff_getElem.2 ⟨by simp[h1,m],i,b,(Zag.1 o).2,fun j f=>?_⟩;rw[k j _ f (Zal (by omega))];rfl
     unfold stI;rw[hf];rfl
    refine ZcW (Zc4 b d g c m) ?_;refine⟨i+1,by omega,l (by simp[m]),?_⟩;exact⟨[],rfl,Zcx,ZcA,Zcz (Zcq rfl) (Zcz (Zcq rfl) (Zcz (Zcq (Qai _)) au29))⟩
   have c:¬(x.1:Int)=(s:Int):=by omega
   refine ZcW (Zc3 b d g c) ?_;refine⟨i+1,by omega,l (by simp[h1]),?_⟩;exact⟨[],rfl,Zcx,ZcA,Zcz (Zcq rfl) (Zcz (Zcq rfl) (Zcz (Zcq (Qai _)) au29))⟩
  have e:i=a.es.length:=by omega
  subst e;refine ZcW b ?_;refine⟨(),fun y h=>?_,⟨[],rfl,au0,au30,au29⟩⟩;obtain⟨j,f⟩:=ZbI h;exact k j y (Zag.1 f).1 f
 rintro _ k;refine ZcV ?_;refine⟨.inr trivial,_,rfl,?_⟩;have hf:a.es.find? (fun x=>x.1==s&&decide ((x.2.1:Int)=e))=none:=Za6.2 fun y h=>by rw[k y h];simp
 unfold stI;rw[hf];rfl
theorem removal43{c:Cel}{q:Aut}{TA TB:List (List Nat)}{X:List Nat}{F:List (Nat×Int×Int×Int)}{r:Res}(p:r.rem.length<=1000000)(s:Nat):PSpec Tryz.prog 43 [.agg (wldP c q TA TB X F r),.int .i64 (s:Int)] (.tup [rmV (rmD r.rem s),.bool (remAt r.rem s).isSome]):=by
 have hw:=@nrW1 c q TA TB X F r;have b:noRef (rms r.rem)=true:=by simp only[noRef,Qak]
 refine Zcu 64 XK.ok43 rfl (by rw[noRefs,hw];rfl) rfl ?_;unfold XK.s43;refine ZcV ?_;refine Qaq 100 (fun i:Nat=>[(1,.int .i64 (s:Int)),(4,.ptr 50 0 0),(11,rms r.rem),(12,.int .i64 r.rem.length),(13,.int .i64 i)]) (fun _=>[(50,.cells 0 [.int .i64 0,.int .i64 0,.int .i64 0,.int .i64 0])]) (fun i=>i<=r.rem.length/\∀(j:Nat)y,j<i->r.rem[j]?=some y->(y.st==s)=false) (fun i=>r.rem.length-i) 0 0 200 (fun _:Unit=>[(4,.ptr 50 0 0)]) (fun _=>[(50,.cells 0 [.int .i64 0,.int .i64 0,.int .i64 0,.int .i64 0])]) (fun _=>∀y∈r.rem,(y.st==s)=false) ?_ ⟨Zah _,fun j y g=>absurd g (ZaC _)⟩ ?_ ?_;·exact⟨[(50,.blk 65 0)],rfl,Zcx,ZcB rfl rfl gg (Zcr rfl) ZcA,Zcz (Zcq rfl) (Zcz (Rn.x2 rfl rfl) (Zcz (Zcq b) au29))⟩
 ·rintro i⟨hi,l⟩;by_cases a:i<r.rem.length
  ·obtain⟨x,m⟩:=Qap a;have h:=Qo1 m;have k:4<=((r.rem.flatMap rmC).drop (i*4)).length:=by rw[h];simp
   by_cases h1:x.st=s
   ·have d:(x.st:Int)=(s:Int):=by omega
    refine ZcW (Zc3 a h k d) ?_;refine⟨.inr trivial,_,rfl,?_⟩;have hf:remAt r.rem s=some x:=by refine List.find?_eq_some_iff_getElem.2 ⟨by simp[h1],i,a,(Zag.1 m).2,fun j g=>?_⟩;rw[l j _ g (Zal (by omega))];rfl
    unfold rmD;rw[hf];subst h1;rfl
   have d:¬(x.st:Int)=(s:Int):=by omega
   refine ZcW (Zc3 a h k d) ?_;refine⟨i+1,by omega,⟨by omega,fun j y g f=>?_⟩,?_⟩
   ·by_cases o:j=i;·subst o;rw[m]at f;cases f;simpa using h1
    exact l j y (by omega) f
   exact⟨[(50,.blk 50 0)],rfl,Zcx,ZcB rfl rfl gg (Zcr rfl) ZcA,Zcz (Zcq rfl) (Zcz (Rn.x2 rfl rfl) (Zcz (Zcq b) au29))⟩
  have e:i=r.rem.length:=by omega
  subst e;refine ZcW a ?_;refine⟨(),fun y f=>?_,[(50,.blk 50 0)],rfl,Zcx,ZcB rfl rfl gg (Zcr rfl) ZcA,Zcz (Rn.x2 rfl rfl) Zcy⟩;obtain⟨j,g⟩:=ZbI f;exact l j y (Zag.1 g).1 g
 rintro _ l;refine ZcV ?_;refine⟨.inr trivial,_,rfl,?_⟩;have hf:remAt r.rem s=none:=Za6.2 fun y f=>by rw[l y f];simp
 unfold rmD;rw[hf];rfl
end Go.AM.SO
namespace Go.AM.SO
open Go.Proofs Go.AM.SD Go.AM.SE
end Go.AM.SO
namespace Go.AM.SO
open Go.Proofs Go.AM.SD Go.AM.SE
end Go.AM.SO
namespace Go.AM.SO
open Go.Proofs Go.AM.SD Go.AM.SE
theorem Qhd(c:Cel)(h:WfCel c):StOk c (spQ c) (leftC c) (forbC c) (resC c) (uncL c.ev 5):=by
 have hw:=wfA_c c h;have a:=Qft c h;have d:=hw.n5;refine⟨hw,(Qj1 _).1,?_,a,(Qjt c _).1,?_,Qvf hw,?_⟩;·have :(uncL c.ev 5).length<=5:=Zaw (ZaI ..) (by simp);omega
 ·have :=Qf8 c (sync0 (allA c)).1.length;have b:(syncA (allA c)).n=(sync0 (allA c)).1.length:=rfl;show(forb c (sync0 (allA c)).1.length).length<=1000000;omega
 have :=Qlo a;omega
theorem leadsC(c:Cel)(h:WfCel c)(s:Nat){n:Nat}{x:Rm}(b:remAt (resC c).rem n=some x):PSpec Tryz.prog 82 [.fptr (stdC c),.int .i64 (s:Int),.int .i64 (n:Int)] (expV (leadsX c s n)):=by rw[Qde];unfold leadsX;have a:=@leads82 c (plA c) (spQ c) (spA c (sync0 (allA c)).1) (spB c (sync0 (allA c)).1) (spP c (sync0 (auL c.cs)).1 (sync0 (allA c)).1) (forbC c) (resC c) (uncL c.ev 5) (leftC c) (Qhd c h) s n x b;generalize leadsG (syncA (allA c)) (uncL c.ev 5) (resC c).rem (forbC c) s n=L at*;exact a
theorem keptC(c:Cel)(s:Nat):PSpec Tryz.prog 81 [.fptr (stdC c),.int .i64 (s:Int)] (.bool (remAt (resC c).rem s).isNone):=by rw[Qde];exact@kept81 c (plA c) (spQ c) (spA c (sync0 (allA c)).1) (spB c (sync0 (allA c)).1) (spP c (sync0 (auL c.cs)).1 (sync0 (allA c)).1) (forbC c) (resC c) (uncL c.ev 5) s
theorem QeY(c:Cel):noRef (.fptr (stdC c))=true:=by rw[noRef];exact Qjv c
theorem rnx0{m:Nat}{π:Nat->Option Src}{h:Heap}:Rn m π h (expV x00) (.agg [.int .i64 0,.int .i64 0,.int .i64 0,.int .i64 0,.nilsl,.int .i64 0,.int .i64 0,.int .i64 0,.int .i64 0,.int .i64 0,.int .i64 0,.int .i64 0,.int .i64 0,.int .i64 0]):=Rn.agg (ZcH (Zcq rfl) (ZcH (Zcq rfl) (ZcH (Zcq rfl) (ZcH (Zcq rfl) (ZcH Rn.frznil (Zcr rfl))))))
theorem state23R(c:Cel)(h:WfCel c){s:Int}(b:s<0\/((spQ c).n:Int)<=s):PSpec Tryz.prog 23 [celV c,.int .i64 s] (.tup [expV x00,.int .i64 2]):=by
 refine Zct 64 XA.ok23 rfl (by rw[noRefs,SU.QaM];rfl) rfl ?_;have hO:=open80 c h;have a:=Qa4 c;rw[Qde]at hO;generalize resC c=r at*;generalize spQ c=q at*;generalize plA c=p at*;generalize spA c (sync0 (allA c)).1=A at*;generalize spB c (sync0 (allA c)).1=B at*;generalize spP c (sync0 (auL c.cs)).1 (sync0 (allA c)).1=X at*;generalize forb c (sync0 (allA c)).1.length=F at*;generalize uncL c.ev 5=u at*;by_cases g1:s<0;·unfold XA.s23;refine ZcV ?_;refine cp hO ?_;refine ZcW g1 ?_;exact⟨.inr trivial,_,rfl,Rn.tup (ZcH rnx0 (Zcr rfl))⟩
 have g2:(q.n:Int)<=s:=by omega
 unfold XA.s23;refine ZcV ?_;refine cp hO ?_;refine ZcW (Zc1 g1 g2) ?_;exact⟨.inr trivial,_,rfl,Rn.tup (ZcH rnx0 (Zcr rfl))⟩
theorem state23K(c:Cel)(h:WfCel c){s:Nat}(l:s<(spQ c).n):PSpec Tryz.prog 23 [celV c,.int .i64 (s:Int)] (match remAt (resC c).rem s with|some _=>.tup [expV (leadsX c s s),.int .i64 0]|none=>.tup [expV x00,.int .i64 22]):=by
 have hO:=open80 c h;have i:=Qa4 c;have a:=keptC c s;have f:=fun x k=>@leadsC c h s s x k;have g:=QeY c;rw[Qde]at hO a f g;generalize leadsX c s s=L at*;generalize resC c=r at*;generalize spQ c=q at*;generalize plA c=p at*;generalize spA c (sync0 (allA c)).1=A at*;generalize spB c (sync0 (allA c)).1=B at*;generalize spP c (sync0 (auL c.cs)).1 (sync0 (allA c)).1=X at*;generalize forb c (sync0 (allA c)).1.length=F at*;generalize uncL c.ev 5=u at*;have b:=Qa5 L;have g1:¬(s:Int)<0:=by omega
 have g2:¬(q.n:Int)<=(s:Int):=by omega
 cases hm:remAt r.rem s with|none=>rw[hm]at a;dsimp only[Option.isNone_none]at a⊢;refine Zct 64 XA.ok23 rfl (by rw[noRefs,SU.QaM];rfl) rfl ?_;unfold XA.s23;refine ZcV ?_;refine cp hO ?_;refine ZcW (Zc1 g1 g2) ?_;refine cp a ?_;refine ZcV ?_;exact⟨.inr trivial,_,rfl,Rn.tup (ZcH rnx0 (Zcr rfl))⟩|some x=>have d:=f x hm;rw[hm]at a;dsimp only[Option.isNone_some]at a⊢;refine Zct 64 XA.ok23 rfl (by rw[noRefs,SU.QaM];rfl) (by rw[noRef,noRefs,b];rfl) ?_;unfold XA.s23;refine ZcV ?_;refine cp hO ?_;refine ZcW (Zc1 g1 g2) ?_;refine cp a ?_;refine ZcV ?_;refine cp d ?_;refine ZcV ?_;refine⟨.inr trivial,_,rfl,Zcq ?_⟩;rw[noRef,noRefs,b];rfl
theorem empty24(c:Cel)(h:WfCel c):PSpec Tryz.prog 24 [celV c] (if(resC c).sup.n=0 then .tup [expV (leadsX c 0 0),.bool true,.int .i64 0]else .tup [expV x00,.bool false,.int .i64 0]):=by
 have hO:=open80 c h;have m:=Qa4 c;have l:=QeY c;by_cases d:(resC c).sup.n=0
 ·rw[if_pos d];have f:∃x,remAt (resC c).rem 0=some x:=by
   have hw:=wfA_c c h;have a:0<(spQ c).n:=by obtain⟨t,g⟩:=@sync_pre (allA c);show 0<(sync0 (allA c)).1.length;rw[<-g];simp
   cases hm:remAt (resC c).rem 0 with|some x=>exact⟨x,rfl⟩|none=>have o:=(Qd5 (Qft c h) a).1 hm;obtain⟨_,t,g⟩:=Qdr (left:=leftC c) hw;have:(resC c).sup.n=(sAll (spQ c) (leftC c)).1.length:=rfl;rw[this,g,o]at d;simp[a]at d
  obtain⟨x,f⟩:=f;have k:=leadsC c h 0 f;rw[Qde]at hO k l;generalize leadsX c 0 0=L at*;generalize resC c=r at*;generalize spQ c=q at*;generalize plA c=p at*;generalize spA c (sync0 (allA c)).1=A at*;generalize spB c (sync0 (allA c)).1=B at*;generalize spP c (sync0 (auL c.cs)).1 (sync0 (allA c)).1=X at*;generalize forb c (sync0 (allA c)).1.length=F at*;generalize uncL c.ev 5=u at*;have b:=Qa5 L;have g1:¬(0:Int)<(r.sup.n:Int):=by omega
  have i:PSpec Tryz.prog 82 [.fptr (stdY c p q A B X F r u),.int .i64 0,.int .i64 0] (expV L):=k;refine Zct 64 XA.ok24 rfl (by rw[noRefs,SU.QaM];rfl) (by rw[noRef,noRefs,b];rfl) ?_;unfold XA.s24;refine ZcV ?_;refine cp hO ?_;refine ZcW g1 ?_;refine cp i ?_;refine ZcV ?_;refine⟨.inr trivial,_,rfl,Zcq ?_⟩;rw[noRef,noRefs,b];rfl
 rw[if_neg d];rw[Qde]at hO l;generalize resC c=r at*;generalize spQ c=q at*;generalize plA c=p at*;generalize spA c (sync0 (allA c)).1=A at*;generalize spB c (sync0 (allA c)).1=B at*;generalize spP c (sync0 (auL c.cs)).1 (sync0 (allA c)).1=X at*;generalize forb c (sync0 (allA c)).1.length=F at*;generalize uncL c.ev 5=u at*;have g1:(0:Int)<(r.sup.n:Int):=by omega
 refine Zct 64 XA.ok24 rfl (by rw[noRefs,SU.QaM];rfl) rfl ?_;unfold XA.s24;refine ZcV ?_;refine cp hO ?_;refine ZcW g1 ?_;exact⟨.inr trivial,_,rfl,Rn.tup (ZcH rnx0 (Zcr rfl))⟩
end Go.AM.SO
namespace Go.AM.SO
open Go.Proofs Go.AM.SD Go.AM.SE
theorem QrJ{n:Nat}{l:List Vs}(a:LOk n l):∀(j:Nat)w,l[j]?=some w->w.run.length<=j:=by intro j;induction j using Nat.strongRecOn with|_ j g=>
 intro w hw;rcases a.bf j w hw with⟨_,b2⟩|⟨b,f,_,b2,d,c⟩;·rw[b2];simp
 have :=g b b2 f d;rw[c,Zaf,Zbk];omega
theorem Qt7{a:Aut}{u:List Nat}{R:List Rm}(h:WfA a):∀(k i:Nat)(l:List Vs){r:List Nat}{t:Nat},LOk a.n l->bgo a u R k i l=some (r,t)->r.length<=a.n:=by intro k;induction k with|zero=>intro i l r t _ b;cases b|succ k f=>
 intro i l r t d b;unfold bgo at b;split at b;·cases b
 rename_i v c;split at b;·cases b;have:=QrJ d i v c;have:=(Zag.1 c).1;have:=d.len;omega
 exact f _ _ (d.exts (es:=ucE a u v.st) c fun e he=>Qjq h he).1 b
theorem Qls{q:Aut}{u:List Nat}{R:List Rm}{F:List (Nat×Int×Int×Int)}{s n:Nat}(h:WfA q)(b:n<q.n):(leadsG q u R F s n).run.length<=1000000:=by
 have c:=h.n5;unfold leadsG;split;·rename_i r t a;have:=Qt7 h _ _ _ (LOk.one b) a;show r.length<=_;omega
 exact Zah _
theorem same37(x:Exp)(b:x.run.length<=1000000):PSpec Tryz.prog 37 [expV x,expV x] (.bool true):=by
 refine Zcu 64 XK.ok37 rfl (by rw[noRefs,noRefs,Qa5];rfl) rfl ?_;have a:=eq41N x.run x.run b;rw[decide_eq_true rfl]at a;have c:aEq (.flat true [.i,.i,.i,.i]) false (.agg [.int .i64 (x.rm.st:Int),.int .i64 x.rm.rank,.int .i64 (x.rm.reason:Int),.int .i64 x.rm.ev]) (.agg [.int .i64 (x.rm.st:Int),.int .i64 x.rm.rank,.int .i64 (x.rm.reason:Int),.int .i64 x.rm.ev])=some (.bool true):=by simp[aEq,eqCells,eqCell]
 have d:aEq (.flat true [.i,.i,.i,.i]) false (.agg [.int .i64 (x.rs.1:Int),.int .i64 x.rs.2.1,.int .i64 x.rs.2.2.1,.int .i64 x.rs.2.2.2]) (.agg [.int .i64 (x.rs.1:Int),.int .i64 x.rs.2.1,.int .i64 x.rs.2.2.1,.int .i64 x.rs.2.2.2])=some (.bool true):=by simp[aEq,eqCells,eqCell]
 unfold XK.s37;refine ZcV ?_;refine cp a ?_;refine ZcW (Zc1 c d) ?_;exact⟨.inr trivial,_,rfl,rfl⟩
theorem none28:PSpec Tryz.prog 28 [expV x00] (.bool true):=by
 refine Zcu 64 XK.ok28 rfl rfl rfl ?_;have c:PSpec Tryz.prog 37 [expV x00,.agg [.int .i64 0,.int .i64 0,.int .i64 0,.int .i64 0,.nilsl,.int .i64 0,.int .i64 0,.int .i64 0,.int .i64 0,.int .i64 0,.int .i64 0,.int .i64 0,.int .i64 0,.int .i64 0]] (.bool true):=by
  refine Zcu 64 XK.ok37 rfl rfl rfl ?_;have b:PSpec Tryz.prog 36 [sliN [],.nilsl] (.bool true):=by refine Zcu 64 XK.ok36 rfl rfl rfl ?_;unfold XK.s36;refine ZcV ?_;refine QaL 100 (fun i:Nat=>[(0,sliN []),(1,.nilsl),(12,.int .i64 0),(13,.int .i64 0)]) (fun _=>[]) (fun i=>True) (fun i=>0) 0 ⟨[],rfl,au0,au30,au29⟩ trivial ?_;rintro i _;refine ZcV ?_;exact⟨.inr trivial,_,rfl,rfl⟩
  have a:aEq (.flat true [.i,.i,.i,.i]) false (.agg [.int .i64 0,.int .i64 0,.int .i64 0,.int .i64 0]) (.agg [.int .i64 0,.int .i64 0,.int .i64 0,.int .i64 0])=some (.bool true):=rfl;unfold XK.s37;refine ZcV ?_;refine cp b ?_;refine ZcW a ?_;exact⟨.inr trivial,_,rfl,rfl⟩
 unfold XK.s28;refine ZcV ?_;refine cp c ?_;refine ZcV ?_;exact⟨.inr trivial,_,rfl,rfl⟩
end Go.AM.SO
namespace Go.AM.SO
open Go.Proofs Go.AM.SD Go.AM.SE
def plC(v:Vs):List AV:=[.int .i64 (v.st:Int),sliN v.run]
abbrev plE(v:Vs):AV:=.agg [.int .i64 (v.st:Int),sliN v.run]
theorem Qo4{l:List Vs}{i:Nat}{v:Vs}(h:l[i]?=some v):(l.flatMap plC).drop (i*2)=.int .i64 (v.st:Int)::sliN v.run::(l.drop (i+1)).flatMap plC:=Qa7 (f:=plC) (k:=2) (fun _=>rfl) h
theorem pl_at{l:List Vs}{i:Nat}{v:Vs}(h:l[i]?=some v):(l.flatMap plC)[i*2]?=some (.int .i64 (v.st:Int))/\(l.flatMap plC)[i*2+1]?=some (sliN v.run):=by
 have a:=Qo4 h;refine⟨?_,?_⟩;·have :=congrArg (fun L:List AV=>L[0]?) a;simpa using this
 have :=congrArg (fun L:List AV=>L[1]?) a;simpa using this
theorem QdW(l:List Vs):(l.flatMap plC).length=l.length*2:=Qa9 (k:=2) (fun _=>rfl) l
theorem Qcc(l:List Vs):noRefs (l.flatMap plC)=true:=by induction l with|nil=>rfl|cons x l a=>rw[Zay];exact SU.Qav (by rw[plC,noRefs,noRefs,Qae];rfl) a
abbrev plV(l:List Vs):AV:=.fsl (l.flatMap plC) l.length 2
theorem Qgd(l:List Vs):noRef (plV l)=true:=by rw[noRef];exact Qcc l
theorem lead94(v:Vs)(t:Nat):PSpec Tryz.prog 94 [plE v,.fptr [.int .i64 (t:Int)]] (.bool (v.st==t)):=by refine Zcu 64 XK.ok94 rfl (by simp only[noRefs,noRef,Qad];rfl) rfl ?_;unfold XK.s94;refine ZcV ?_;refine⟨.inr trivial,_,rfl,?_⟩;exact congrArg AV.bool (by rw[Zby];simp)
theorem index164{K:Nat}{cap:List AV}(q:Vs->Bool)(l:List Vs)(s:l.length<=1000000)(hc:noRefs cap=true)(hk:∀x∈l,PSpec Tryz.prog K (plE x::cap) (.bool (q x))):PSpec Tryz.prog 164 [plV l,.fn K [] cap] (.int .i64 (idxQ q l)):=by
 refine Zcu 64 XK.ok164 rfl (by rw[noRefs,noRefs,Qbc hc,Qgd];rfl) rfl ?_;have c:=Qbc (K:=K) hc;have o:=QdW l;unfold XK.s164;refine ZcV ?_;refine QaL 100 (fun i:Nat=>[(0,plV l),(1,.fn K [] cap),(7,.int .i64 l.length),(8,.int .i64 i)]) (fun _=>[]) (fun i=>i<=l.length/\∀(j:Nat)y,j<i->l[j]?=some y->q y=false) (fun i=>l.length-i) 0 ?_ ⟨Zah _,fun j y k=>absurd k (ZaC _)⟩ ?_;·exact⟨[],rfl,Zcx,ZcA,Zcz (Zcq (Qgd _)) (Zcz (Zcq c) (Zcz (Zcq rfl) (Zcz (Zcq rfl) Zcy)))⟩
 rintro i⟨hi,m⟩;by_cases a:i<l.length
 ·obtain⟨x,b⟩:=Qap a;have h:=hk x (Zae b);have d:=Qo4 b;have f:2<=(List.drop (i*2) (l.flatMap plC)).length:=by rw[Za3,o];omega
  cases g:q x
  ·rw[g]at h;refine Zc0 (Zc6 a d f @Zbc @Qaa @Qab @Qac) ?_;refine⟨_,by simpa using h,?_⟩;refine ZcV ?_;refine⟨i+1,by omega,⟨by omega,fun j y k p=>?_⟩,?_⟩
   ·by_cases e:j=i;·subst e;rw[b]at p;cases p;exact g
    exact m j y (by omega) p
   exact⟨[],rfl,Zcx,ZcA,Zcz (Zcq (Qgd _)) (Zcz (Zcq c) (Zcz (Zcq rfl) (Zcz (Zcq rfl) Zcy)))⟩
  rw[g]at h;refine Zc0 (Zc6 a d f @Zbc @Qaa @Qab @Qac) ?_;refine⟨_,by simpa using h,?_⟩;refine ZcV ?_;refine⟨.inr trivial,_,rfl,?_⟩;rw[QcI b g m];rfl
 refine ZcW a ?_;refine⟨.inr trivial,_,rfl,?_⟩;rw[QbV fun x b=>by obtain⟨j,k,r⟩:=Zbg b;exact m j x (by omega) (by rw[Zal k,r])];rfl
theorem contains93(l:List Vs)(t:Nat)(f:l.length<=1000000):PSpec Tryz.prog 93 [plV l,.fn 94 [] [.fptr [.int .i64 (t:Int)]]] (.bool (decide (t∈l.map (·.st)))):=by
 refine Zcu 64 XK.ok93 rfl (by rw[noRefs,Qgd];rfl) rfl ?_;have d:=index164 (K:=94) (cap:=[.fptr [.int .i64 (t:Int)]]) (fun v=>v.st==t) l f rfl fun v _=>lead94 v t;have b:=@Qhh _ (fun v:Vs=>v.st==t) l;have he:l.any (fun v=>v.st==t)=decide (t∈l.map (·.st)):=by
  rw[Zby,ZbR,decide_eq_true_eq,Zan];constructor;·rintro⟨x,c,e⟩;exact⟨x,c,by simpa using e⟩
  rintro⟨x,c,e⟩;exact⟨x,c,by simpa using e⟩
 rw[he]at b;generalize idxQ (fun v:Vs=>v.st==t) l=a at*;unfold XK.s93;refine ZcV ?_;refine cp d ?_;refine ZcW b ?_;exact⟨.inr trivial,_,rfl,rfl⟩
abbrev xtE(q:Aut)(u:List Nat)(i:Nat)(v:Vs)(l:List Vs)(A:List Nat):List Vs:=extL q i v l (A.filter fun e=>(stepA q.es v.st e).isSome&&u.contains e)
theorem QsT{q:Aut}{u:List Nat}{i j e:Nat}{v:Vs}{l:List Vs}{A:List Nat}(h:A[j]?=some e):xtE q u i v l (A.take (j+1))=if((stepA q.es v.st e).isSome&&u.contains e)=true then ext1 q i v (xtE q u i v l (A.take j)) e else xtE q u i v l (A.take j):=by
 unfold xtE;rw[take_succ' h,Zbi,Zbv];split;·unfold extL;rw[Za4];rfl
 rw[List.filter_nil,Zap]
abbrev x14:List AV:=[.int .i64 0,.int .i64 0,.int .i64 0,.int .i64 0,.nilsl,.int .i64 0,.int .i64 0,.int .i64 0,.int .i64 0,.int .i64 0,.int .i64 0,.int .i64 0,.int .i64 0,.int .i64 0]
theorem leads44{c:Cel}{q:Aut}{TA TB:List (List Nat)}{X:List Nat}{F:List (Nat×Int×Int×Int)}{r:Res}{left:Nat->Bool}(h:StOk c q left F r (uncL c.ev 5))(hq5:∀x∈q.al,x<5){s n:Nat}{A:Rm}(hx:remAt r.rem n=some A):PSpec Tryz.prog 44 [.agg (wldP c q TA TB X F r),.int .i64 (s:Int),.int .i64 (n:Int)] (expV (leadsG q (uncL c.ev 5) r.rem F s n)):=by
 obtain⟨hxm,rfl⟩:=QcA hx;obtain⟨I,t,hb⟩:=Qll h.w h.R hxm;have hxn:=(h.R.st A hxm).1;have d:=QoX _ _ _ hb;have P:=@nrW c q TA TB X F r;have e:leadsG q (uncL c.ev 5) r.rem F s A.st=ldx r.rem F s A.st I t:=by unfold leadsG;rw[hb]
 rw[e];refine Zct 64 XK.ok44 rfl (by rw[noRefs,nrW1];rfl) (Qa5 _) ?_;unfold ldx;have hRm:=fun s=>@removal43 c q TA TB X F r h.rl s;have hw:=h.w;have hn5:=hw.n5;have hel:=WfA.el1 hw;have hSt:=fun(v:Nat)(e:Nat)=>step38 q v e (by omega);have M:=Qae q.al;unfold XK.s44;refine ZcV ?_;refine Qaq 160 (fun z:Nat×List Vs=>[(3,.ptr 50 0 0),(6,.ptr 51 0 0),(7,.ptr 52 0 0),(8,.sl 60 0 0 z.2.length 2),(9,.int .i64 (z.1:Int))]) (fun z=>[(50,.cells 0 (wldP c q TA TB X F r)),(51,.cells 0 x14),(52,.cells 0 [.int .i64 4,.int .i64 (s:Int),.int .i64 (A.st:Int),.int .i64 (-1),.nilsl,.int .i64 0,.int .i64 0,.int .i64 0,.int .i64 0,.int .i64 0,.int .i64 0,.int .i64 0,.int .i64 0,.int .i64 0]),(60,.cells 0 (z.2.flatMap plC))]) (fun z=>LOk q.n z.2/\∃k,bgo q (uncL c.ev 5) r.rem k z.1 z.2=some (I,t)) (fun z=>q.n+1-z.1) (0,[v0 A.st]) 0 300 (fun _:Unit=>[(3,.ptr 50 0 0),(6,.ptr 51 0 0),(7,.ptr 52 0 0)]) (fun _=>[(50,.cells 0 (wldP c q TA TB X F r)),(51,.cells 0 x14),(52,.cells 0 [.int .i64 4,.int .i64 (s:Int),.int .i64 (A.st:Int),.int .i64 (-1),sliN I,.int .i64 (t:Int),.int .i64 ((rmD r.rem t).st:Int),.int .i64 (rmD r.rem t).rank,.int .i64 ((rmD r.rem t).reason:Int),.int .i64 (rmD r.rem t).ev,.int .i64 0,.int .i64 0,.int .i64 0,.int .i64 0])]) (fun _=>True) ?_ ⟨LOk.one hxn,_,hb⟩ ?_ ?_;·exact⟨[(50,.blk 64 0),(51,.blk 65 0),(52,.blk 69 0),(60,.blk 73 0)],rfl,Zcx,ZcB rfl rfl gg (Zcr P) (ZcB rfl rfl gg (Zcr rfl) (ZcB rfl rfl gg (Zcr rfl) (ZcB rfl rfl gg (ZcH (Zcq rfl) (ZcH Rn.frznil ZcG)) ZcA))),Zcz (Rn.x2 rfl rfl) (Zcz (Rn.x2 rfl rfl) (Zcz (Rn.x2 rfl rfl) (Zcz (Rn.x1 rfl rfl) au29)))⟩
 ·rintro⟨i,l⟩⟨hl,k,hk⟩;dsimp only at hl hk⊢;obtain⟨k',rfl⟩:∃k',k=k'+1:=by cases k with|zero=>cases hk|succ k=>exact⟨k,rfl⟩
  rw[bgo]at hk;cases U:l[i]? with|none=>rw[U]at hk;cases hk|some v=>
  rw[U]at hk;dsimp only at hk;have u:=(Zag.1 U).1;obtain⟨G,hg1⟩:=pl_at U;have hvn:=hl.st v (Zae U);have hll:=hl.len;have hcl:=QdW l;have J:=hRm v.st;by_cases f:badS r.rem v.st=true
  ·rw[if_pos f]at hk;cases hk;have hz3:∃z,remAt r.rem v.st=some z/\(z.reason=1\/z.reason=3):=by unfold badS at f;cases C:remAt r.rem v.st with|none=>rw[C]at f;cases f|some z=>
    rw[C]at f;replace f:(!Nat.beq z.reason 2)=true:=f;have h3:z.reason≠2:=fun e=>by rw[e]at f;exact absurd f (by decide)
    have:=h.R.re z (QcA C).1;exact⟨z,rfl,by omega⟩
   obtain⟨z,C,K⟩:=hz3;have hD:rmD r.rem v.st=z:=by unfold rmD;rw[C];rfl
   rw[hD,C]at J;rw[hD];have hnr:=Qae v.run;obtain⟨R,S,zc,T⟩:=z;dsimp only at K J⊢;rcases K with rfl|rfl;·refine ZcW u ?_;refine Qbr [] rfl rfl ?_;refine ZcW (Zc1 u G) ?_;refine cp J ?_;refine ZcW (Zc2 u G hg1) ?_;refine⟨trivial,?_⟩;exact⟨(),[(50,.blk 50 0),(51,.blk 51 0),(52,.blk 52 0)],rfl,Zcx,ZcB rfl rfl gg (Zcr P) (ZcB rfl rfl gg (Zcr rfl) (ZcB rfl rfl gg (Zcr (by simp only[noRefs,noRef,Qad];rfl)) ZcA)),Zcz (Rn.x2 rfl rfl) (Zcz (Rn.x2 rfl rfl) (Zcz (Rn.x2 rfl rfl) Zcy))⟩
   refine ZcW u ?_;refine Qbr [] rfl rfl ?_;refine ZcW (Zc1 u G) ?_;refine cp J ?_;refine ZcW (Zc2 u G hg1) ?_;refine⟨trivial,?_⟩;exact⟨(),[(50,.blk 50 0),(51,.blk 51 0),(52,.blk 52 0)],rfl,Zcx,ZcB rfl rfl gg (Zcr P) (ZcB rfl rfl gg (Zcr rfl) (ZcB rfl rfl gg (Zcr (by simp only[noRefs,noRef,Qad];rfl)) ZcA)),Zcz (Rn.x2 rfl rfl) (Zcz (Rn.x2 rfl rfl) (Zcz (Rn.x2 rfl rfl) Zcy))⟩
  rw[if_neg f]at hk;have hne:¬((rmD r.rem v.st).reason:Int)=1/\¬((rmD r.rem v.st).reason:Int)=3:=by unfold rmD;cases C:remAt r.rem v.st with|none=>exact⟨by show¬((0:Nat):Int)=1;omega,by show¬((0:Nat):Int)=3;omega⟩|some z=>
   rw[Qlr C]at f;have h2:z.reason=2:=by simpa using f
   show¬(z.reason:Int)=1/\¬(z.reason:Int)=3;omega
  obtain⟨hne1,hne3⟩:=hne;have hrl0:v.run.length<=1000000:=by have:=QrJ hl i v U;omega
  have hCl:=clone56 v.run hrl0;have hrl1:(ints (nz v.run)).length=v.run.length:=by simp[ints]
  have hEl:q.al.length<=32:=Qb4 hw;have hLE:=fun j=>hl.exts (a:=q) (i:=i) (v:=v) (es:=(q.al.take j).filter fun e=>(stepA q.es v.st e).isSome&&(uncL c.ev 5).contains e) U fun e he=>Qjq hw (u:=uncL c.ev 5) (ZaL.2 ⟨ZaQ (ZaL.1 he).1,(ZaL.1 he).2⟩);have hfin:extL q i v l (ucE q (uncL c.ev 5) v.st)=xtE q (uncL c.ev 5) i v l q.al:=rfl;rw[hfin]at hk;refine ZcW u ?_;refine Qbr [] rfl rfl ?_;refine ZcW (Zc1 u G) ?_;refine cp J ?_;refine ZcW (Zc1 hne1 hne3) ?_;refine⟨trivial,?_⟩;refine Qaq 160 (fun j:Nat=>[(3,.ptr 50 0 0),(6,.ptr 51 0 0),(7,.ptr 52 0 0),(8,.sl 60 0 0 (xtE q (uncL c.ev 5) i v l (q.al.take j)).length 2),(9,.int .i64 (i:Int)),(64,sliN q.al),(65,.int .i64 q.al.length),(66,.int .i64 j)]) (fun j=>[(50,.cells 0 (wldP c q TA TB X F r)),(51,.cells 0 x14),(52,.cells 0 [.int .i64 4,.int .i64 (s:Int),.int .i64 (A.st:Int),.int .i64 (-1),.nilsl,.int .i64 0,.int .i64 0,.int .i64 0,.int .i64 0,.int .i64 0,.int .i64 0,.int .i64 0,.int .i64 0,.int .i64 0]),(60,.cells 0 ((xtE q (uncL c.ev 5) i v l (q.al.take j)).flatMap plC))]) (fun j=>j<=q.al.length) (fun j=>q.al.length-j) 0 2 400 (fun _:Unit=>[(3,.ptr 50 0 0),(6,.ptr 51 0 0),(7,.ptr 52 0 0),(8,.sl 60 0 0 (xtE q (uncL c.ev 5) i v l q.al).length 2),(9,.int .i64 (i:Int))]) (fun _=>[(50,.cells 0 (wldP c q TA TB X F r)),(51,.cells 0 x14),(52,.cells 0 [.int .i64 4,.int .i64 (s:Int),.int .i64 (A.st:Int),.int .i64 (-1),.nilsl,.int .i64 0,.int .i64 0,.int .i64 0,.int .i64 0,.int .i64 0,.int .i64 0,.int .i64 0,.int .i64 0,.int .i64 0]),(60,.cells 0 ((xtE q (uncL c.ev 5) i v l q.al).flatMap plC))]) (fun _=>True) ?_ (Zah _) ?_ ?_;·exact⟨[(50,.blk 50 0),(51,.blk 51 0),(52,.blk 52 0),(60,.blk 60 0)],rfl,Zcx,ZcB rfl rfl gg (Zcr P) (ZcB rfl rfl gg (Zcr rfl) (ZcB rfl rfl gg (Zcr rfl) (ZcB rfl rfl gg (Zcr (Qcc _)) ZcA))),Zcz (Rn.x2 rfl rfl) (Zcz (Rn.x2 rfl rfl) (Zcz (Rn.x2 rfl rfl) (Zcz (Rn.x1 rfl rfl) (Zcz (Zcq rfl) (Zcz (Zcq M) au29)))))⟩
  ·rintro j hj;by_cases g:j<q.al.length;·obtain⟨e,he⟩:=Qap g;have hem:=Zae he;have H:=hq5 e hem;have m:=hSt v.st e;rw[Qfv]at m;have hv':(xtE q (uncL c.ev 5) i v l (q.al.take j))[i]?=some v:=Qj3 U;obtain⟨hL1,_⟩:=hLE j;have o:=QsT (q:=q) (u:=uncL c.ev 5) (i:=i) (v:=v) (l:=l) he;change LOk q.n (xtE q (uncL c.ev 5) i v l (q.al.take j))at hL1;generalize xtE q (uncL c.ev 5) i v l (q.al.take j)=l' at*;have w:=(Zag.1 hv').1;obtain⟨E,hg1'⟩:=pl_at hv';have L:=QdW l';have hl'l:=hL1.len;cases B:stepA q.es v.st e with|none=>rw[B]at m;dsimp only at m;refine ZcW (Zc1 g (Qaz he)) ?_;refine Qbr [] rfl rfl ?_;refine ZcW (Zc1 w E) ?_;refine cp m ?_;refine ZcV ?_;refine⟨trivial,?_⟩;refine⟨j+1,by omega,by omega,?_⟩;rw[o,B,if_neg (by simp)];exact⟨[(50,.blk 50 0),(51,.blk 51 0),(52,.blk 52 0),(60,.blk 60 0)],rfl,Zcx,ZcB rfl rfl gg (Zcr P) (ZcB rfl rfl gg (Zcr rfl) (ZcB rfl rfl gg (Zcr rfl) (ZcB rfl rfl gg (Zcr (Qcc _)) ZcA))),Zcz (Rn.x2 rfl rfl) (Zcz (Rn.x2 rfl rfl) (Zcz (Rn.x2 rfl rfl) (Zcz (Rn.x1 rfl rfl) (Zcz (Zcq rfl) (Zcz (Zcq M) au29)))))⟩|some to=>
    rw[B]at m;dsimp only at m;have Y:¬(to:Int)<0:=by omega
    have hta:toA q v.st e=to:=by unfold toA;rw[B];rfl
    have p:=QeN (f:=c.ev) H;have hdl:e*5+5<=(evsC c.ev).length:=by rw[Qfm];omega
    have N:(e:Int)<5:=by omega
    by_cases Q:(c.ev e).c=true
    ·have hu:(uncL c.ev 5).contains e=false:=by rw[ZaA];intro hm;have:=(ZaL.1 (ZaG.1 hm)).2;rw[Q]at this;cases this
     refine ZcW (Zc1 g (Qaz he)) ?_;refine Qbr [] rfl rfl ?_;refine ZcW (Zc1 w E) ?_;refine cp m ?_;simp(disch:=first|omega|exact PairsOK.mk rfl|(simp only[lenW]<;>omega))only[Y,N,H,p,evC,Q,Qaa,Qab,Qac,wW,wV,simprocAttr];refine⟨trivial,?_⟩;refine⟨j+1,by omega,by omega,?_⟩;rw[o,B,hu,if_neg (by simp)];exact⟨[(50,.blk 50 0),(51,.blk 51 0),(52,.blk 52 0),(60,.blk 60 0)],rfl,Zcx,ZcB rfl rfl gg (Zcr P) (ZcB rfl rfl gg (Zcr rfl) (ZcB rfl rfl gg (Zcr rfl) (ZcB rfl rfl gg (Zcr (Qcc _)) ZcA))),Zcz (Rn.x2 rfl rfl) (Zcz (Rn.x2 rfl rfl) (Zcz (Rn.x2 rfl rfl) (Zcz (Rn.x1 rfl rfl) (Zcz (Zcq rfl) (Zcz (Zcq M) au29)))))⟩
    have hu:(uncL c.ev 5).contains e=true:=ZaG.2 (ZaL.2 ⟨Zat.2 H,by simp[Q]⟩);have V:(c.ev e).c=false:=by simpa using Q
    have hC:=contains93 l' to (by omega);by_cases hm:to∈l'.map (·.st);·rw[decide_eq_true hm]at hC;refine ZcW (Zc1 g (Qaz he)) ?_;refine Qbr [] rfl rfl ?_;refine ZcW (Zc1 w E) ?_;refine cp m ?_;simp(disch:=first|omega|exact PairsOK.mk rfl|(simp only[lenW]<;>omega))only[Y,N,H,p,evC,V,Qaa,Qab,Qac,wW,wV,simprocAttr];refine⟨trivial,?_⟩;refine SU.chc (ZcL (ZcO (FrzTo.all gg L) (ZcO (FrzTo.fn ZcN (ZcO (ZcK (g:=0) (cs:=[.int .i64 (to:Int)]) gg (Zcw _)) ZcN)) ZcN)) hC rfl) ?_;refine ZcV ?_;refine⟨j+1,by omega,by omega,?_⟩;rw[o,B,hu,if_pos (by rfl)];unfold ext1;rw[hta,if_pos hm];exact⟨[(50,.blk 50 0),(51,.blk 51 0),(52,.blk 52 0),(60,.blk 60 0)],rfl,Zcx,ZcB rfl rfl gg (Zcr P) (ZcB rfl rfl gg (Zcr rfl) (ZcB rfl rfl gg (Zcr rfl) (ZcB rfl rfl gg (Zcr (Qcc _)) ZcA))),Zcz (Rn.x2 rfl rfl) (Zcz (Rn.x2 rfl rfl) (Zcz (Rn.x2 rfl rfl) (Zcz (Rn.x1 rfl rfl) (Zcz (Zcq rfl) (Zcz (Zcq M) au29)))))⟩
    rw[decide_eq_false hm]at hC;refine ZcW (Zc1 g (Qaz he)) ?_;refine Qbr [] rfl rfl ?_;refine ZcW (Zc1 w E) ?_;refine cp m ?_;simp(disch:=first|omega|exact PairsOK.mk rfl|(simp only[lenW]<;>omega))only[Y,N,H,p,evC,V,Qaa,Qab,Qac,wW,wV,simprocAttr];refine⟨trivial,?_⟩;refine SU.chc (ZcL (ZcO (FrzTo.all gg L) (ZcO (FrzTo.fn ZcN (ZcO (ZcK (g:=0) (cs:=[.int .i64 (to:Int)]) gg (Zcw _)) ZcN)) ZcN)) hC rfl) ?_;refine ZcV ?_;refine Qf3 [(103,[199])] 7 (x:=.f 41) (ag:=[.t 102]) (d:=some 103) rfl rfl rfl ?_;refine ZcW (Zc1 w hg1') ?_;refine⟨41,ints (nz v.run),v.run.length,1,rfl,⟨hCl.1,by show noRefs [sliN v.run]=true;rw[noRefs,Qae];rfl,83,0,0,_,_,rfl,Zah _,gg,hCl⟩,Qad _,by decide,gg,?_⟩;refine ZcW (Zc1 L hrl1) ?_;refine⟨⟨⟨_,rfl,fun b hb=>hb⟩,trivial⟩,?_⟩;refine⟨j+1,by omega,by omega,?_⟩;rw[o,B,hu,if_pos (by rfl)];unfold ext1;rw[hta,if_neg hm,Zaq,Zaf];have hse:ints (nz (v.run++[e]))=ints (nz v.run)++[.int .i64 (e:Int)]:=by simp[ints,nz]
    refine⟨[(50,.blk 50 0),(51,.blk 51 0),(52,.blk 52 0),(60,.blk 60 1)],rfl,Zcx,ZcB rfl rfl gg (Zcr P) (ZcB rfl rfl gg (Zcr rfl) (ZcB rfl rfl gg (Zcr rfl) (ZcB rfl rfl gg (RnL.append (Zcr (Qcc _)) (ZcH (Zcq rfl) (ZcH ?_ ZcG))) ZcA))),Zcz (Rn.x2 rfl rfl) (Zcz (Rn.x2 rfl rfl) (Zcz (Rn.x2 rfl rfl) (Zcz (Rn.x1 rfl rfl) (Zcz (Zcq rfl) (Zcz (Zcq M) au29)))))⟩;exact ZcI (b:=199) (g:=1) gg rfl rfl (by simp) (by simp[ints]) (RnL.eq hse (Qad _))
   have e:j=q.al.length:=by omega
   subst e;refine ZcY g ?_;exact⟨(),[(50,.blk 50 0),(51,.blk 51 0),(52,.blk 52 0),(60,.blk 60 0)],rfl,Zcx,ZcB rfl rfl gg (Zcr P) (ZcB rfl rfl gg (Zcr rfl) (ZcB rfl rfl gg (Zcr rfl) (ZcB rfl rfl gg (Zcr (Qcc _)) ZcA))),Zcz (Rn.x2 rfl rfl) (Zcz (Rn.x2 rfl rfl) (Zcz (Rn.x2 rfl rfl) (Zcz (Rn.x1 rfl rfl) (Zcz (Zcq rfl) Zcy))))⟩
  rintro _ _;refine ZcV ?_;have hle:=hLE q.al.length;rw[Zar]at hle;refine⟨(i+1,xtE q (uncL c.ev 5) i v l q.al),by dsimp only;have:=hle.1.len;omega,⟨hle.1,_,hk⟩,?_⟩;exact⟨[(50,.blk 50 0),(51,.blk 51 0),(52,.blk 52 0),(60,.blk 60 0)],rfl,Zcx,ZcB rfl rfl gg (Zcr P) (ZcB rfl rfl gg (Zcr rfl) (ZcB rfl rfl gg (Zcr rfl) (ZcB rfl rfl gg (Zcr (Qcc _)) ZcA))),Zcz (Rn.x2 rfl rfl) (Zcz (Rn.x2 rfl rfl) (Zcz (Rn.x2 rfl rfl) (Zcz (Rn.x1 rfl rfl) au29)))⟩
 rintro _ _;have hz3:∃z,remAt r.rem t=some z/\(z.reason=1\/z.reason=3):=by unfold badS at d;cases C:remAt r.rem t with|none=>rw[C]at d;cases d|some z=>
  rw[C]at d;replace d:(!Nat.beq z.reason 2)=true:=d;have h3:z.reason≠2:=fun e=>by rw[e]at d;exact absurd d (by decide)
  have:=h.R.re z (QcA C).1;exact⟨z,rfl,by omega⟩
 obtain⟨z,C,K⟩:=hz3;have hD:rmD r.rem t=z:=by unfold rmD;rw[C];rfl
 rw[hD];have hnr:=Qae I;have Z:=Qc2 F;have hFl:=h.Fl;obtain⟨R,S,zc,T⟩:=z;dsimp only at K⊢;rcases K with rfl|rfl
 ·rw[if_pos rfl];have hlast:=Qnm (t:=t) rs00 h.F1;have hra:rsnAt F t=F.foldl (fun a y=>if y.1=t then y else a) rs00:=hlast.symm;rw[hra];refine ZcV ?_;refine Qaq 160 (fun i:Nat=>[(6,.ptr 51 0 0),(7,.ptr 52 0 0),(117,rss F),(118,.int .i64 F.length),(119,.int .i64 i)]) (fun i=>[(51,.cells 0 x14),(52,.cells 0 (expC ⟨4,s,A.st,-1,I,t,⟨R,S,1,T⟩,(F.take i).foldl (fun a y=>if y.1=t then y else a) rs00⟩))]) (fun i=>i<=F.length) (fun i=>F.length-i) 0 4 300 (fun _:Unit=>[(6,.ptr 51 0 0),(7,.ptr 52 0 0)]) (fun _=>[(51,.cells 0 x14),(52,.cells 0 (expC ⟨4,s,A.st,-1,I,t,⟨R,S,1,T⟩,F.foldl (fun a y=>if y.1=t then y else a) rs00⟩))]) (fun _=>True) ?_ (Zah _) ?_ ?_;·exact⟨[(51,.blk 51 0),(52,.blk 52 0)],rfl,Zcx,ZcB rfl rfl gg (Zcr rfl) (ZcB rfl rfl gg (Zcr (Qch ⟨4,s,A.st,-1,I,t,⟨R,S,1,T⟩,rs00⟩)) ZcA),Zcz (Rn.x2 rfl rfl) (Zcz (Rn.x2 rfl rfl) (Zcz (Zcq Z) au29))⟩
  ·rintro i hi;by_cases g:i<F.length
   ·obtain⟨y,hy⟩:=Qap g;have p:=Qf9 hy;have hdl:4<=((F.flatMap rsC).drop (i*4)).length:=by rw[p];simp
    have o:(F.take (i+1)).foldl (fun a y=>if y.1=t then y else a) rs00=if y.1=t then y else(F.take i).foldl (fun a y=>if y.1=t then y else a) rs00:=by rw[take_succ' hy,Za4];rfl
    generalize(F.take i).foldl (fun a y=>if y.1=t then y else a) rs00=acc at*;by_cases e:y.1=t;·rw[if_pos e]at o;obtain⟨ya,yb,yc,yd⟩:=y;dsimp only at e p;subst e;refine ZcW (Zc2 g p hdl) ?_;refine⟨i+1,by omega,by omega,?_⟩;rw[o,show((i+1:Nat):Int)=(i:Int)+1 by omega];exact⟨[(51,.blk 51 0),(52,.blk 52 0)],rfl,Zcx,ZcB rfl rfl gg (Zcr rfl) (ZcB rfl rfl gg (Zcr (Qch ⟨4,s,A.st,-1,I,ya,⟨R,S,1,T⟩,(ya,yb,yc,yd)⟩)) ZcA),Zcz (Rn.x2 rfl rfl) (Zcz (Rn.x2 rfl rfl) (Zcz (Zcq Z) (Zcz (Zcq rfl) (Zcz (Zcq rfl) Zcy))))⟩
    have e':¬(y.1:Int)=(t:Int):=by omega
    rw[if_neg e]at o;refine ZcW (Zc3 g p hdl e') ?_;refine⟨i+1,by omega,by omega,?_⟩;rw[o,show((i+1:Nat):Int)=(i:Int)+1 by omega];exact⟨[(51,.blk 51 0),(52,.blk 52 0)],rfl,Zcx,ZcB rfl rfl gg (Zcr rfl) (ZcB rfl rfl gg (Zcr (Qch ⟨4,s,A.st,-1,I,t,⟨R,S,1,T⟩,acc⟩)) ZcA),Zcz (Rn.x2 rfl rfl) (Zcz (Rn.x2 rfl rfl) (Zcz (Zcq Z) (Zcz (Zcq rfl) (Zcz (Zcq rfl) Zcy))))⟩
   have e:i=F.length:=by omega
   subst e;refine ZcY g ?_;exact⟨(),[(51,.blk 51 0),(52,.blk 52 0)],rfl,Zcx,ZcB rfl rfl gg (Zcr rfl) (ZcB rfl rfl gg (Zcr (Qch _)) ZcA),Zcz (Rn.x2 rfl rfl) (Zcz (Rn.x2 rfl rfl) Zcy)⟩
  rintro _ _;generalize F.foldl (fun a y=>if y.1=t then y else a) rs00=acc at*;refine ZcV ?_;refine⟨.inr trivial,_,rfl,Zcq ?_⟩;exact Qa5 ⟨4,s,A.st,-1,I,t,⟨R,S,1,T⟩,acc⟩
 rw[if_neg (by decide)];refine ZcV ?_;refine⟨.inr trivial,_,rfl,Zcq ?_⟩;exact Qa5 ⟨4,s,A.st,-1,I,t,⟨R,S,3,T⟩,rs00⟩
end Go.AM.SO
namespace Go.AM.SO
open Go.Proofs Go.AM.SD Go.AM.SE
end Go.AM.SO
namespace Go.AM.XL
open Go.Proofs
set_option maxHeartbeats 4000000
noncomputable section
def cf:YA.Cf:={most:=.pure,always:=[39,40,41,45,46].map fun k=>(k,.heap)}
def s11:SFn:=by
 refine(?f:YA.Yt Tryz.prog cf 11 [[0,4],[14,15,16,17,18,19],[1,2,20,21],[4,2,20,23,24,22,25,26],[6,27],[1,5,28],[4,28,30,31,32,33,29,34,35],[37,38,39,36,40,41,42],[9,10,11,43,44,45,46,47,48,49,50,51,52,53,54,55,56,57,58,59,60,61,62,63,64,65,66,67,68,69,70,71],[1,5,7,8,72],[4,72,73,74,75,76,77,78,79,80,81],[1,5,7,8,82,83,84,85,86,87,88],[4,82,90,91,92,89,93,94,12],[13,95],[1,5,7,8,96,97,98,99,100,101,102],[1,5,7,8,96,103,104,105,106,107,108,109,110,111,112]]) ?s ?h;case h=>exact YA.rr
 exact fun s _=>s
theorem ok11:okFn Tryz.prog 11 s11=true:=by kernel_rfl
end
end Go.AM.XL
namespace Go.AM.SO
open Go.Proofs Go.AM.SD Go.AM.SE
theorem spQ_5(c:Cel)(h:WfCel c):∀x∈(spQ c).al,x<5:=(QdC (Qb5 h) (by rw[QbZ];have:=h.c3;have:=h.r2;omega)).a5
theorem leadsW(c:Cel)(h:WfCel c)(s:Nat){n:Nat}{x:Rm}(b:remAt (resC c).rem n=some x):PSpec Tryz.prog 44 [.agg (wldC c),.int .i64 (s:Int),.int .i64 (n:Int)] (expV (leadsX c s n)):=by have a:=@leads44 c (spQ c) (spA c (sync0 (allA c)).1) (spB c (sync0 (allA c)).1) (spP c (sync0 (auL c.cs)).1 (sync0 (allA c)).1) (forbC c) (resC c) (leftC c) (Qhd c h) (spQ_5 c h) s n x b;unfold wldC leadsX;generalize leadsG (syncA (allA c)) (uncL c.ev 5) (resC c).rem (forbC c) s n=L at*;exact a
theorem removalW(c:Cel)(h:WfCel c)(s:Nat):PSpec Tryz.prog 43 [.agg (wldC c),.int .i64 (s:Int)] (.tup [rmV (rmD (resC c).rem s),.bool (remAt (resC c).rem s).isSome]):=by unfold wldC;exact removal43 (Qhd c h).rl s
theorem Qen(c:Cel):wldC c=wldP c (spQ c) (spA c (sync0 (allA c)).1) (spB c (sync0 (allA c)).1) (spP c (sync0 (auL c.cs)).1 (sync0 (allA c)).1) (forb c (sync0 (allA c)).1.length) (resC c):=rfl
end Go.AM.SO
namespace Go.AM.SO
open Go.Proofs Go.AM.SD Go.AM.SE
theorem Qt9(c:Cel)(h:WfCel c)(d:(resC c).sup.n=0):∃x,remAt (resC c).rem 0=some x:=by
 have hw:=wfA_c c h;have a:0<(spQ c).n:=by obtain⟨t,b⟩:=@sync_pre (allA c);show 0<(sync0 (allA c)).1.length;rw[<-b];simp
 cases hm:remAt (resC c).rem 0 with|some x=>exact⟨x,rfl⟩|none=>have f:=(Qd5 (Qft c h) a).1 hm;obtain⟨_,t,b⟩:=Qdr (left:=leftC c) hw;have:(resC c).sup.n=(sAll (spQ c) (leftC c)).1.length:=rfl;rw[this,b,f]at d;simp[a]at d
theorem Qnp(c:Cel)(h:WfCel c)(s n:Nat)(a:n<(spQ c).n):(leadsX c s n).run.length<=1000000:=Qls (wfA_c c h) a
theorem law11(g:PSpec Tryz.prog 19 [] (.bool true))(p:Pln)(h:POk p)(H:p.xn<=9223372036854775807)(st:Int):W2 Tryz.prog ⟨XL.s11.n,0⟩ XL.s11.body (fun e B=>(e=.normal\/e=.ret)/\resV B.T B.h XL.s11.res=some [.bool true]) ⟨argT 0 [plnV p,.int .i64 st],.e⟩:=by
 refine(Zcs (n:=40) (Q:=fun e T h _=>(e=.normal\/e=.ret)/\resV T h XL.s11.res=some [.bool true]) (show wS Tryz.prog ⟨XL.s11.n,0⟩ XL.s11.body [] 40 _ _ _ from ?_)).mono fun e B⟨_,h⟩=>h;have hlen:=SU.Qdz h;have b:=SU.QdA h;have k:PSpec Tryz.prog 32 [.agg (plnC p)] (.bool (decide (p.xn<=4))):=short25 p h H;have t:PSpec Tryz.prog 33 [.agg (plnC p)] (.tup [.agg (wldC (mkC p)),.bool true]):=begin33 p h;have hw:=@Qg1 p;have a:(plnC p).take 152=plnC p:=by rw[<-hlen,Zar]
 have o:=none28;show wS _ _ _ _ _ (argT 0 [.agg (plnC p),.int .i64 st]) _ _;generalize plnC p=C at*;generalize mkC p=c at*;by_cases M:p.xn<=4
 ·rw[decide_eq_true M]at k;have m:=empty24 c hw;obtain⟨X1,E,y,d⟩:∃(X1:Exp)(E:Int),PSpec Tryz.prog 23 [celV c,.int .i64 st] (.tup [expV X1,.int .i64 E])/\((st<0/\X1=x00/\E=2)\/(¬st<0/\((spQ c).n:Int)<=st/\X1=x00/\E=2)\/(∃s:Nat,st=(s:Int)/\¬(s:Int)<0/\¬((spQ c).n:Int)<=(s:Int)/\PSpec Tryz.prog 43 [.agg (wldC c),.int .i64 (s:Int)] (.tup [rmV (rmD (resC c).rem s),.bool false])/\X1=x00/\E=22)\/(∃s:Nat,st=(s:Int)/\¬(s:Int)<0/\¬((spQ c).n:Int)<=(s:Int)/\PSpec Tryz.prog 43 [.agg (wldC c),.int .i64 (s:Int)] (.tup [rmV (rmD (resC c).rem s),.bool true])/\PSpec Tryz.prog 44 [.agg (wldC c),.int .i64 (s:Int),.int .i64 (s:Int)] (expV X1)/\E=0/\PSpec Tryz.prog 37 [expV X1,expV X1] (.bool true))):=by
   by_cases g1:st<0;·exact⟨x00,2,state23R c hw (.inl g1),.inl ⟨g1,rfl,rfl⟩⟩
   by_cases g2:((spQ c).n:Int)<=st;·exact⟨x00,2,state23R c hw (.inr g2),.inr (.inl ⟨g1,g2,rfl,rfl⟩)⟩
   obtain⟨s,rfl⟩:=ZaY (show 0<=st by omega);have G:s<(spQ c).n:=by omega
   have i:=removalW c hw s;have g:=state23K c hw G;cases hm:remAt (resC c).rem s with|none=>rw[hm]at i g;exact⟨x00,22,g,.inr (.inr (.inl ⟨s,rfl,g1,g2,i,rfl,rfl⟩))⟩|some x=>rw[hm]at i g;exact⟨leadsX c s s,0,g,.inr (.inr (.inr ⟨s,rfl,g1,g2,i,leadsW c hw s hm,rfl,same37 _ (Qnp c hw s s G)⟩))⟩
  by_cases K:(resC c).sup.n=0
  ·rw[if_pos K]at m;obtain⟨x,L⟩:=Qt9 c hw K;have l:PSpec Tryz.prog 44 [.agg (wldC c),.int .i64 0,.int .i64 0] (expV (leadsX c 0 0)):=leadsW c hw 0 L;have J:0<(spQ c).n:=by obtain⟨hm,N⟩:=QcA L;exact Nat.lt_of_le_of_lt (Zah _) ((Qft c hw).st x hm).1
   have w:=same37 _ (Qnp c hw 0 0 J);have f:decide (((resC c).sup.n:Int)=0)=true:=decide_eq_true (by omega);have v:aEq (.flat false [.b]) true (.bool true) (.bool true)=some (.bool false):=rfl;rw[Qen]at t l d;generalize leadsX c 0 0=L0 at*;generalize resC c=r at*;generalize spQ c=q at*;generalize spA c (sync0 (allA c)).1=A at*;generalize spB c (sync0 (allA c)).1=B at*;generalize spP c (sync0 (auL c.cs)).1 (sync0 (allA c)).1=X at*;generalize forb c (sync0 (allA c)).1.length=F at*;rcases d with⟨g1,rfl,rfl⟩|⟨g1,g2,rfl,rfl⟩|⟨s,rfl,g1,g2,i,rfl,rfl⟩|⟨s,rfl,g1,g2,i,I,rfl,z⟩;·skip;unfold XL.s11;refine ZcW (Zc2 hlen b a) ?_;refine cp g ?_;refine ZcW (Zc1 hlen a) ?_;refine cp k ?_;refine ZcW (Zc1 hlen a) ?_;refine cp t ?_;refine ZcV ?_;refine cp y ?_;refine ZcV ?_;refine cp m ?_;refine ZcW (Zc1 f v) ?_;refine cp l ?_;refine ZcV ?_;refine cp w ?_;refine ZcW g1 ?_;refine cp o ?_;refine ZcV ?_;exact⟨.inr trivial,rfl⟩
   ·skip;unfold XL.s11;refine ZcW (Zc2 hlen b a) ?_;refine cp g ?_;refine ZcW (Zc1 hlen a) ?_;refine cp k ?_;refine ZcW (Zc1 hlen a) ?_;refine cp t ?_;refine ZcV ?_;refine cp y ?_;refine ZcV ?_;refine cp m ?_;refine ZcW (Zc1 f v) ?_;refine cp l ?_;refine ZcV ?_;refine cp w ?_;refine ZcW (Zc1 g1 g2) ?_;refine cp o ?_;refine ZcV ?_;exact⟨.inr trivial,rfl⟩
   ·skip;unfold XL.s11;refine ZcW (Zc2 hlen b a) ?_;refine cp g ?_;refine ZcW (Zc1 hlen a) ?_;refine cp k ?_;refine ZcW (Zc1 hlen a) ?_;refine cp t ?_;refine ZcV ?_;refine cp y ?_;refine ZcV ?_;refine cp m ?_;refine ZcW (Zc1 f v) ?_;refine cp l ?_;refine ZcV ?_;refine cp w ?_;refine ZcW (Zc1 g1 g2) ?_;refine cp i ?_;refine ZcV ?_;refine cp o ?_;refine ZcV ?_;exact⟨.inr trivial,rfl⟩
   skip;unfold XL.s11;refine ZcW (Zc2 hlen b a) ?_;refine cp g ?_;refine ZcW (Zc1 hlen a) ?_;refine cp k ?_;refine ZcW (Zc1 hlen a) ?_;refine cp t ?_;refine ZcV ?_;refine cp y ?_;refine ZcV ?_;refine cp m ?_;refine ZcW (Zc1 f v) ?_;refine cp l ?_;refine ZcV ?_;refine cp w ?_;refine ZcW (Zc1 g1 g2) ?_;refine cp i ?_;refine ZcV ?_;refine cp I ?_;refine ZcV ?_;refine cp z ?_;refine ZcV ?_;exact⟨.inr trivial,rfl⟩
  rw[if_neg K]at m;have f:¬((resC c).sup.n:Int)=0:=by omega
  have u:aEq (.flat false [.b]) true (.bool false) (.bool false)=some (.bool false):=rfl;rw[Qen]at t d;generalize resC c=r at*;generalize spQ c=q at*;generalize spA c (sync0 (allA c)).1=A at*;generalize spB c (sync0 (allA c)).1=B at*;generalize spP c (sync0 (auL c.cs)).1 (sync0 (allA c)).1=X at*;generalize forb c (sync0 (allA c)).1.length=F at*;rcases d with⟨g1,rfl,rfl⟩|⟨g1,g2,rfl,rfl⟩|⟨s,rfl,g1,g2,i,rfl,rfl⟩|⟨s,rfl,g1,g2,i,I,rfl,z⟩;·skip;unfold XL.s11;refine ZcW (Zc2 hlen b a) ?_;refine cp g ?_;refine ZcW (Zc1 hlen a) ?_;refine cp k ?_;refine ZcW (Zc1 hlen a) ?_;refine cp t ?_;refine ZcV ?_;refine cp y ?_;refine ZcV ?_;refine cp m ?_;refine ZcW (Zc1 f u) ?_;refine cp o ?_;refine ZcW g1 ?_;refine cp o ?_;refine ZcV ?_;exact⟨.inr trivial,rfl⟩
  ·skip;unfold XL.s11;refine ZcW (Zc2 hlen b a) ?_;refine cp g ?_;refine ZcW (Zc1 hlen a) ?_;refine cp k ?_;refine ZcW (Zc1 hlen a) ?_;refine cp t ?_;refine ZcV ?_;refine cp y ?_;refine ZcV ?_;refine cp m ?_;refine ZcW (Zc1 f u) ?_;refine cp o ?_;refine ZcW (Zc1 g1 g2) ?_;refine cp o ?_;refine ZcV ?_;exact⟨.inr trivial,rfl⟩
  ·skip;unfold XL.s11;refine ZcW (Zc2 hlen b a) ?_;refine cp g ?_;refine ZcW (Zc1 hlen a) ?_;refine cp k ?_;refine ZcW (Zc1 hlen a) ?_;refine cp t ?_;refine ZcV ?_;refine cp y ?_;refine ZcV ?_;refine cp m ?_;refine ZcW (Zc1 f u) ?_;refine cp o ?_;refine ZcW (Zc1 g1 g2) ?_;refine cp i ?_;refine ZcV ?_;refine cp o ?_;refine ZcV ?_;exact⟨.inr trivial,rfl⟩
  skip;unfold XL.s11;refine ZcW (Zc2 hlen b a) ?_;refine cp g ?_;refine ZcW (Zc1 hlen a) ?_;refine cp k ?_;refine ZcW (Zc1 hlen a) ?_;refine cp t ?_;refine ZcV ?_;refine cp y ?_;refine ZcV ?_;refine cp m ?_;refine ZcW (Zc1 f u) ?_;refine cp o ?_;refine ZcW (Zc1 g1 g2) ?_;refine cp i ?_;refine ZcV ?_;refine cp I ?_;refine ZcV ?_;refine cp z ?_;refine ZcV ?_;exact⟨.inr trivial,rfl⟩
 rw[decide_eq_false M]at k;unfold XL.s11;refine ZcW (Zc2 hlen b a) ?_;refine cp g ?_;refine ZcW (Zc1 hlen a) ?_;refine cp k ?_;refine ZcV ?_;refine cp g ?_;refine ZcV ?_;exact⟨.inr trivial,rfl⟩
end Go.AM.SO
namespace Go.AM.EM
open Go.Proofs
set_option maxHeartbeats 4000000
noncomputable section
def cf:YA.Cf:={always:=[(83,.borrow)]}
noncomputable def ft:FT2:=YA.tre Tryz.prog cf 20 [15,16,17,19,21,22,26,27,36,39,40,41,46,48,57,58,59,60,61,62,63,64,68,69,73,74,75,76,77,78,79,80,81,82,83,84,89,90,91,92,96,97,99,108,109,112,113,114,115,116,117,118,119,120,121,122,123,124,125,128,129,130,131,132,133,134,135,136,137,138,139,140,141,142,143,144,145,146,147,148,160,161,162,163,171,174,175,176,177,178,179,180,181,182,194,196,197,198,199,200,201,202,203,204,205,214,215,216,217,218,219,220,221,222,227,228,229,230,231,232,234,235,238,249,250,251,252,253,254,255,256,257,261,262,263,264,265,270,271,272,287,288,289,290,291,297,298,299,300,301,302,303,304,312,313,314,315,316,317,318,319,320,321]
theorem ft_ok:ft.OK Tryz.prog:=YA.QgE _ _ (YA.QfI (by kernel_rfl))
end
end Go.AM.EM
