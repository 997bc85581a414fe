/- Lemmas on the way to ExplainEventsCardSaid. Conditions: none of ours. -/
import Derived.Test.YtgfnbkngfedlkaaGreatDoorProg
import Derived.KernelRfl
import Derived.Test.YtgfnbkngfedlkaaGreatDoorAmW18
set_option linter.unusedSectionVars false
set_option maxHeartbeats 32000000
set_option maxRecDepth 100000
set_option linter.unusedVariables false
set_option linter.unusedSimpArgs false
namespace Go.AM.SO
open Go.Proofs Go.AM.SD Go.AM.SE
abbrev wldP(c:Cel)(q:Aut)(TA TB:List (List Nat))(X:List Nat)(F:List (Nat×Int×Int×Int))(r:Res):List AV:=[evsV c.ev,its 99 c.cs,its 114 c.rs,exs c.xs,cos c.ks,sliN q.al,.int .i64 (q.n:Int),sliN q.ms,egsN q.es,tuV TA,tuV TB,sliN X,rss F,sliN r.kept,sli r.dist,rms r.rem,.int .i64 (r.rounds:Int),sliN r.sup.al,.int .i64 (r.sup.n:Int),sliN r.sup.ms,egsN r.sup.es,sliN r.orig]
theorem nrW{c:Cel}{q:Aut}{TA TB:List (List Nat)}{X:List Nat}{F:List (Nat×Int×Int×Int)}{r:Res}:noRefs (wldP c q TA TB X F r)=true:=by have h1:=SU.QaM c;rw[celV,noRef]at h1;simp only[noRefs,Zaa,Zac]at h1;obtain⟨b,a2,a3,a4,a5⟩:=h1;have a:=QdV r;rw[noRef]at a;simp only[noRefs,Zaa,Zac]at a;simp only[noRefs,b,a2,a3,a4,a5,Qae,Qai,Qa8,Qc2,a];rfl
theorem nrW1{c:Cel}{q:Aut}{TA TB:List (List Nat)}{X:List Nat}{F:List (Nat×Int×Int×Int)}{r:Res}:noRef (.agg (wldP c q TA TB X F r))=true:=by rw[noRef];exact nrW
def wldC(c:Cel):List AV:=wldP c (spQ c) (spA c (sync0 (allA c)).1) (spB c (sync0 (allA c)).1) (spP c (sync0 (auL c.cs)).1 (sync0 (allA c)).1) (forb c (sync0 (allA c)).1.length) (resC c)
theorem begin33(p:Pln)(h:POk p):Pq 33 [plnV p] (.tup [.agg (wldC (mkC p)),.bool true]):=by
 have hlen:=SU.Qdz h;have a:=SU.QdA h;have g:Pq 88 [.agg (plnC p)] (celV (mkC p)):=SU.Make26 p h;have f:(plnC p).take 152=plnC p:=by rw[<-hlen,Zar]
 have d:=cell22 (mkC p) Qg1;have b:=@SU.Qd7 p;refine Zct 64 XK.ok33 rfl (by simp only[noRefs,noRef,b];rfl) (by rw[noRef,noRefs];unfold wldC;rw[nrW1];rfl) ?_;show wS _ _ _ _ _ (argT 0 [.agg (plnC p)]) _ _;rw[spC,spG]at d;unfold wldC;have hnw:=@nrW1 (mkC p) (spQ (mkC p)) (spA (mkC p) (sync0 (allA (mkC p))).1) (spB (mkC p) (sync0 (allA (mkC p))).1) (spP (mkC p) (sync0 (auL (mkC p).cs)).1 (sync0 (allA (mkC p))).1) (forb (mkC p) (sync0 (allA (mkC p))).1.length) (resC (mkC p));change Pq 89 [celV (mkC p)] (.tup [.agg [sliN (spQ (mkC p)).al,.int .i64 ((spQ (mkC p)).n:Int),sliN (spQ (mkC p)).ms,egsN (spQ (mkC p)).es,tuV (spA (mkC p) (sync0 (allA (mkC p))).1),tuV (spB (mkC p) (sync0 (allA (mkC p))).1),sliN (spP (mkC p) (sync0 (auL (mkC p).cs)).1 (sync0 (allA (mkC p))).1),rss (forb (mkC p) (sync0 (allA (mkC p))).1.length)],SE.rsV (resC (mkC p)),.int .i64 0])at d;generalize forb (mkC p) (sync0 (allA (mkC p))).1.length=F at*;generalize spA (mkC p) (sync0 (allA (mkC p))).1=A at*;generalize spB (mkC p) (sync0 (allA (mkC p))).1=B at*;generalize spP (mkC p) (sync0 (auL (mkC p).cs)).1 (sync0 (allA (mkC p))).1=X at*;generalize resC (mkC p)=r at*;generalize spQ (mkC p)=q at*;generalize mkC p=c at*;generalize plnC p=C at*;unfold XK.s33;refine ZcW (Zc2 hlen a f) ?_;refine cp g ?_;refine ZcV ?_;refine cp d ?_;refine ZcV ?_;refine⟨.inr trivial,_,rfl,Zcq ?_⟩;rw[noRef,noRefs,hnw];rfl
def stI(es:List Ed)(s:Nat)(e:Int):Int:=match es.find? fun x=>x.1==s&&decide ((x.2.1:Int)=e)with|some x=>(x.2.2:Int)|none=>-1
theorem Qfv(es:List Ed)(s e:Nat):stI es s (e:Int)=match stepA es s e with|some t=>(t:Int)|none=>-1:=by
 unfold stI stepA;have:(fun x:Ed=>x.1==s&&decide ((x.2.1:Int)=(e:Int)))=fun x=>x.1==s&&x.2.1==e:=by funext x;rw[Zby];simp;intro _;omega
 rw[this];cases es.find? fun x=>x.1==s&&x.2.1==e<;>rfl
theorem step38(a:Aut)(s:Nat)(e:Int)(r:a.es.length<=1000000):Pq 38 [aV a,.int .i64 (s:Int),.int .i64 e] (.int .i64 (stI a.es s e)):=by
 refine Zcu 64 XK.ok38 rfl (by(try simp only[noRefs,Qad,Qaf,noRef,noRefs,Zad,Zac])<;>rfl) rfl ?_;unfold XK.s38;refine ZcV ?_;refine Qaq 100 (fun i:Nat=>[(1,.int .i64 (s:Int)),(2,.int .i64 e),(10,egsN a.es),(11,.int .i64 a.es.length),(12,.int .i64 i)]) (fun _=>[]) (fun i=>i<=a.es.length/\∀(j:Nat)y,j<i->a.es[j]?=some y->(y.1==s&&decide ((y.2.1:Int)=e))=false) (fun i=>a.es.length-i) 0 0 200 (fun _:Unit=>[]) (fun _=>[]) (fun _=>∀y∈a.es,(y.1==s&&decide ((y.2.1:Int)=e))=false) ?_ ⟨Zah _,fun j y f=>absurd f (ZaC _)⟩ ?_ ?_;·exact⟨[],rfl,Zcx,ZcA,Zcz (Zcq rfl) (Zcz (Zcq rfl) (Zcz (Zcq (Qai _)) au29))⟩
 ·rintro i⟨hi,k⟩;by_cases b:i<a.es.length
  ·obtain⟨x,o⟩:=Qap b;have d:=QaJ o;have g:3<=((a.es.flatMap edC).drop (i*3)).length:=by rw[d];simp
   have l:(x.1==s&&decide ((x.2.1:Int)=e))=false->i+1<=a.es.length/\∀(j:Nat)y,j<i+1->a.es[j]?=some y->(y.1==s&&decide ((y.2.1:Int)=e))=false:=fun q=>⟨by omega,fun j y f h=>by
    by_cases p:j=i;·subst p;rw[o]at h;cases h;exact q
    exact k j y (by omega) h⟩;by_cases h1:x.1=s
   ·have c:(x.1:Int)=(s:Int):=by omega
    by_cases m:(x.2.1:Int)=e
    ·refine ZcW (Zc4 b d g c m) ?_;refine⟨.inr trivial,_,rfl,?_⟩;have hf:a.es.find? (fun x=>x.1==s&&decide ((x.2.1:Int)=e))=some x:=by refine List.find?_eq_some_iff_getElem.2 ⟨by simp[h1,m],i,b,(Zag.1 o).2,fun j f=>?_⟩;rw[k j _ f (Zal (by omega))];rfl
     unfold stI;rw[hf];rfl
    refine ZcW (Zc4 b d g c m) ?_;refine⟨i+1,by omega,l (by simp[m]),?_⟩;exact⟨[],rfl,Zcx,ZcA,Zcz (Zcq rfl) (Zcz (Zcq rfl) (Zcz (Zcq (Qai _)) au29))⟩
   have c:¬(x.1:Int)=(s:Int):=by omega
   refine ZcW (Zc3 b d g c) ?_;refine⟨i+1,by omega,l (by simp[h1]),?_⟩;exact⟨[],rfl,Zcx,ZcA,Zcz (Zcq rfl) (Zcz (Zcq rfl) (Zcz (Zcq (Qai _)) au29))⟩
  have e:i=a.es.length:=by omega
  subst e;refine ZcW b ?_;refine⟨(),fun y h=>?_,⟨[],rfl,au0,au30,au29⟩⟩;obtain⟨j,f⟩:=ZbI h;exact k j y (Zag.1 f).1 f
 rintro _ k;refine ZcV ?_;refine⟨.inr trivial,_,rfl,?_⟩;have hf:a.es.find? (fun x=>x.1==s&&decide ((x.2.1:Int)=e))=none:=Za6.2 fun y h=>by rw[k y h];simp
 unfold stI;rw[hf];rfl
theorem removal43{c:Cel}{q:Aut}{TA TB:List (List Nat)}{X:List Nat}{F:List (Nat×Int×Int×Int)}{r:Res}(p:r.rem.length<=1000000)(s:Nat):Pq 43 [.agg (wldP c q TA TB X F r),.int .i64 (s:Int)] (.tup [rmV (rmD r.rem s),.bool (remAt r.rem s).isSome]):=by
 have hw:=@nrW1 c q TA TB X F r;have b:noRef (rms r.rem)=true:=by simp only[noRef,Qak]
 refine Zcu 64 XK.ok43 rfl (by rw[noRefs,hw];rfl) rfl ?_;unfold XK.s43;refine ZcV ?_;refine Qaq 100 (fun i:Nat=>[(1,.int .i64 (s:Int)),(4,.ptr 50 0 0),(11,rms r.rem),(12,.int .i64 r.rem.length),(13,.int .i64 i)]) (fun _=>[(50,.cells 0 [.int .i64 0,.int .i64 0,.int .i64 0,.int .i64 0])]) (fun i=>i<=r.rem.length/\∀(j:Nat)y,j<i->r.rem[j]?=some y->(y.st==s)=false) (fun i=>r.rem.length-i) 0 0 200 (fun _:Unit=>[(4,.ptr 50 0 0)]) (fun _=>[(50,.cells 0 [.int .i64 0,.int .i64 0,.int .i64 0,.int .i64 0])]) (fun _=>∀y∈r.rem,(y.st==s)=false) ?_ ⟨Zah _,fun j y g=>absurd g (ZaC _)⟩ ?_ ?_;·exact⟨[(50,.blk 65 0)],rfl,Zcx,ZcB rfl rfl gg (Zcr rfl) ZcA,Zcz (Zcq rfl) (Zcz (Rn.x2 rfl rfl) (Zcz (Zcq b) au29))⟩
 ·rintro i⟨hi,l⟩;by_cases a:i<r.rem.length
  ·obtain⟨x,m⟩:=Qap a;have h:=Qo1 m;have k:4<=((r.rem.flatMap rmC).drop (i*4)).length:=by rw[h];simp
   by_cases h1:x.st=s
   ·have d:(x.st:Int)=(s:Int):=by omega
    refine ZcW (Zc3 a h k d) ?_;refine⟨.inr trivial,_,rfl,?_⟩;have hf:remAt r.rem s=some x:=by refine List.find?_eq_some_iff_getElem.2 ⟨by simp[h1],i,a,(Zag.1 m).2,fun j g=>?_⟩;rw[l j _ g (Zal (by omega))];rfl
    unfold rmD;rw[hf];subst h1;rfl
   have d:¬(x.st:Int)=(s:Int):=by omega
   refine ZcW (Zc3 a h k d) ?_;refine⟨i+1,by omega,⟨by omega,fun j y g f=>?_⟩,?_⟩
   ·by_cases o:j=i;·subst o;rw[m]at f;cases f;simpa using h1
    exact l j y (by omega) f
   exact⟨[(50,.blk 50 0)],rfl,Zcx,ZcB rfl rfl gg (Zcr rfl) ZcA,Zcz (Zcq rfl) (Zcz (Rn.x2 rfl rfl) (Zcz (Zcq b) au29))⟩
  have e:i=r.rem.length:=by omega
  subst e;refine ZcW a ?_;refine⟨(),fun y f=>?_,[(50,.blk 50 0)],rfl,Zcx,ZcB rfl rfl gg (Zcr rfl) ZcA,Zcz (Rn.x2 rfl rfl) Zcy⟩;obtain⟨j,g⟩:=ZbI f;exact l j y (Zag.1 g).1 g
 rintro _ l;refine ZcV ?_;refine⟨.inr trivial,_,rfl,?_⟩;have hf:remAt r.rem s=none:=Za6.2 fun y f=>by rw[l y f];simp
 unfold rmD;rw[hf];rfl
theorem QsS{S:Aut}{n s:Nat}{w:List Nat}:wlk S (n::w) s=match(sOut S.es (fun _=>true) s)[n%(sOut S.es (fun _=>true) s).length]? with|none=>([],s)|some x=>(x.2.1::(wlk S w x.2.2).1,(wlk S w x.2.2).2):=rfl
theorem Qt4{S:Aut}{s:Nat}:wlk S [] s=([],s):=rfl
def wkO(r:Res)(w:List Nat):List Nat×Nat:=if r.sup.n=0 then([],0)else((wlk r.sup w 0).1,r.orig.getD (wlk r.sup w 0).2 0)
theorem Qvj(es:List Ed)(s:Nat):sOut es (fun _=>true) s=es.filter fun x=>x.1==s:=by unfold sOut;refine ZbF fun x _=>?_;simp
theorem QrH(l:List Ed):(l.flatMap edC).length=l.length*3:=Qa9 (k:=3) (fun _=>rfl) l
theorem QrI{l:List Ed}{j s:Nat}{x:Ed}(h:l[j]?=some x):(l.take (j+1)).filter (fun x=>x.1==s)=(l.take j).filter (fun x=>x.1==s)++if x.1=s then[x]else[]:=by
 rw[take_succ' h,Zbi,Zbv];by_cases e:x.1=s;·simp[e]
 simp[e]
theorem walk34{c:Cel}{q:Aut}{TA TB:List (List Nat)}{X:List Nat}{F:List (Nat×Int×Int×Int)}{r:Res}(s:WfA r.sup)(Z:r.orig.length=r.sup.n)(w:List Nat)(M:∀x∈w,x<256)(hwl:w.length<=8):Pq 34 [.agg (wldP c q TA TB X F r),.fsl (u8s w) w.length 1] (.tup [sliN (wkO r w).1,.int .i64 ((wkO r w).2:Int)]):=by
 have o:=@nrW c q TA TB X F r;refine Zct 64 XK.ok34 rfl (by rw[noRefs,nrW1,noRefs,noRef,QaH];rfl) (by simp only[noRef,noRefs,Qad];rfl) ?_;have hnw:=QaH w;have R:=WfA.el1 s;have hn5:=s.n5;have d:noRef (.fsl (u8s w) w.length 1)=true:=by rw[noRef,hnw]
 have t:=Qai r.sup.es;unfold XK.s34;refine ZcV ?_;refine Qaq 140 (fun z:Nat×List Nat×Nat=>[(2,.ptr 50 0 0),(6,.int .i64 (z.2.2:Int)),(7,.sl 61 0 0 z.2.1.length 1),(14,.fsl (u8s w) w.length 1),(15,.int .i64 w.length),(16,.int .i64 z.1)]) (fun z=>[(50,.cells 0 (wldP c q TA TB X F r)),(61,.cells 0 (ints (nz z.2.1)))]) (fun z=>z.1<=w.length/\z.2.1.length<=z.1/\wlk r.sup w 0=(z.2.1++(wlk r.sup (w.drop z.1) z.2.2).1,(wlk r.sup (w.drop z.1) z.2.2).2)) (fun z=>w.length-z.1) (0,[],0) 0 300 (fun z:List Nat×Nat=>[(2,.ptr 50 0 0),(6,.int .i64 (z.2:Int)),(7,.sl 61 0 0 z.1.length 1)]) (fun z=>[(50,.cells 0 (wldP c q TA TB X F r)),(61,.cells 0 (ints (nz z.1)))]) (fun z=>z=wlk r.sup w 0/\z.1.length<=w.length) ?_ ⟨Zah _,ZaM _,rfl⟩ ?_ ?_;·exact⟨[(50,.blk 64 0),(61,.nil)],rfl,Zcx,ZcB rfl rfl gg (Zcr o) (ZcC rfl rfl ZcA),Zcz (Rn.x2 rfl rfl) (Zcz (Zcq rfl) (Zcz (Rn.x4 rfl rfl) (Zcz (Zcq d) au29)))⟩
 ·rintro⟨i,out,a⟩⟨hi,I,hk⟩;dsimp only at hi I hk⊢;have Q:(ints (nz out)).length=out.length:=by simp[ints]
  by_cases h:i<w.length
  ·obtain⟨x,K⟩:=Qap h;have N:((u8s w).drop i).head?=some (.int .u8 (x:Int)):=by rw[Zb7];exact QgX K
   have Y:x<256:=M x (Zae K);have u:w.drop i=x::w.drop (i+1):=by rw[Zbf h,(Zag.1 K).2]
   rw[u]at hk;have hEl:(r.sup.es.filter fun y=>y.1==a).length<=131072:=Zaw (ZaI ..) R;refine ZcW (Zc1 h N) ?_;refine Qaq 140 (fun j:Nat=>[(2,.ptr 50 0 0),(6,.int .i64 (a:Int)),(7,.sl 61 0 0 out.length 1),(9,.int .u8 (x:Int)),(10,.sl 62 0 0 ((r.sup.es.take j).filter fun y=>y.1==a).length 3),(14,.fsl (u8s w) w.length 1),(15,.int .i64 w.length),(16,.int .i64 i),(23,egsN r.sup.es),(24,.int .i64 r.sup.es.length),(25,.int .i64 j)]) (fun j=>[(50,.cells 0 (wldP c q TA TB X F r)),(61,.cells 0 (ints (nz out))),(62,.cells 0 (((r.sup.es.take j).filter fun y=>y.1==a).flatMap edC))]) (fun j=>j<=r.sup.es.length) (fun j=>r.sup.es.length-j) 0 2 420 (fun _:Unit=>[(2,.ptr 50 0 0),(6,.int .i64 (a:Int)),(7,.sl 61 0 0 out.length 1),(9,.int .u8 (x:Int)),(10,.sl 62 0 0 (r.sup.es.filter fun y=>y.1==a).length 3),(14,.fsl (u8s w) w.length 1),(15,.int .i64 w.length),(16,.int .i64 i)]) (fun _=>[(50,.cells 0 (wldP c q TA TB X F r)),(61,.cells 0 (ints (nz out))),(62,.cells 0 ((r.sup.es.filter fun y=>y.1==a).flatMap edC))]) (fun _=>True) ?_ (Zah _) ?_ ?_;·exact⟨[(50,.blk 50 0),(61,.blk 61 0),(62,.nil)],rfl,Zcx,ZcB rfl rfl gg (Zcr o) (ZcB rfl rfl gg (Zcr (Qad _)) (ZcC rfl rfl ZcA)),Zcz (Rn.x2 rfl rfl) (Zcz (Zcq rfl) (Zcz (Rn.x1 rfl rfl) (Zcz (Zcq rfl) (Zcz (Rn.x4 rfl rfl) (Zcz (Zcq d) (Zcz (Zcq rfl) (Zcz (Zcq rfl) (Zcz (Zcq t) au29))))))))⟩
   ·rintro j hj;by_cases f:j<r.sup.es.length
    ·obtain⟨y,C⟩:=Qap f;have b:=QaJ C;have k:3<=((r.sup.es.flatMap edC).drop (j*3)).length:=by rw[b];simp
     have g:=QrI (s:=a) C;have hfl:((r.sup.es.take j).filter fun y=>y.1==a).length<=j:=Zaw (ZaI ..) (by simp;omega);have B:=QrH ((r.sup.es.take j).filter fun y=>y.1==a);by_cases e:y.1=a
     ·have S:(y.1:Int)=(a:Int):=by omega
      rw[if_pos e]at g;refine ZcW (Zc4 f b k S B) ?_;refine⟨j+1,by omega,by omega,?_⟩;rw[g,Zaq,Zaf,show[y].flatMap edC=[.int .i64 (a:Int),.int .i64 (y.2.1:Int),.int .i64 (y.2.2:Int)]by simp[edC,e]];exact⟨[(50,.blk 50 0),(61,.blk 61 0),(62,.blk 62 1)],rfl,Zcx,ZcB rfl rfl gg (Zcr o) (ZcB rfl rfl gg (Zcr (Qad _)) (ZcB rfl rfl gg (Zcr (SU.Qav (Qaf _) rfl)) ZcA)),Zcz (Rn.x2 rfl rfl) (Zcz (Zcq rfl) (Zcz (Rn.x1 rfl rfl) (Zcz (Zcq rfl) (Zcz (Rn.x1 rfl rfl) (Zcz (Zcq d) (Zcz (Zcq rfl) (Zcz (Zcq rfl) (Zcz (Zcq t) au29))))))))⟩
     have S:¬(y.1:Int)=(a:Int):=by omega
     rw[if_neg e,Zap]at g;refine ZcW (Zc3 f b k S) ?_;refine⟨j+1,by omega,by omega,?_⟩;rw[g];exact⟨[(50,.blk 50 0),(61,.blk 61 0),(62,.blk 62 0)],rfl,Zcx,ZcB rfl rfl gg (Zcr o) (ZcB rfl rfl gg (Zcr (Qad _)) (ZcB rfl rfl gg (Zcr (Qaf _)) ZcA)),Zcz (Rn.x2 rfl rfl) (Zcz (Zcq rfl) (Zcz (Rn.x1 rfl rfl) (Zcz (Zcq rfl) (Zcz (Rn.x1 rfl rfl) (Zcz (Zcq d) (Zcz (Zcq rfl) (Zcz (Zcq rfl) (Zcz (Zcq t) au29))))))))⟩
    have e:j=r.sup.es.length:=by omega
    subst e;refine ZcY f ?_;exact⟨(),[(50,.blk 50 0),(61,.blk 61 0),(62,.blk 62 0)],rfl,Zcx,ZcB rfl rfl gg (Zcr o) (ZcB rfl rfl gg (Zcr (Qad _)) (ZcB rfl rfl gg (Zcr (Qaf _)) ZcA)),Zcz (Rn.x2 rfl rfl) (Zcz (Zcq rfl) (Zcz (Rn.x1 rfl rfl) (Zcz (Zcq rfl) (Zcz (Rn.x1 rfl rfl) (Zcz (Zcq d) (Zcz (Zcq rfl) (Zcz (Zcq rfl) Zcy)))))))⟩
   rintro _ _;rw[QsS,Qvj]at hk;have B:=QrH (r.sup.es.filter fun y=>y.1==a);generalize(r.sup.es.filter fun y=>y.1==a)=E at*;by_cases hE:E.length=0
   ·have p:(E.length:Int)=0:=by omega
    have L:E=[]:=Zbj hE;rw[L]at hk;simp only[Za5,Nat.mod_zero,List.getElem?_nil,Zap]at hk;refine ZcW p ?_;exact⟨(out,a),⟨hk.symm,by dsimp only;omega⟩,[(50,.blk 50 0),(61,.blk 61 0)],rfl,Zcx,ZcB rfl rfl gg (Zcr o) (ZcB rfl rfl gg (Zcr (Qad _)) ZcA),Zcz (Rn.x2 rfl rfl) (Zcz (Zcq rfl) (Zcz (Rn.x1 rfl rfl) Zcy))⟩
   have p:¬(E.length:Int)=0:=by omega
   have hm:x%E.length<E.length:=Zch _ (by omega);obtain⟨y,C⟩:=Qap hm;rw[C]at hk;dsimp only at hk;have G:aBin .rem (.int .i64 (x:Int)) (.int .i64 (E.length:Int))=some (.int .i64 ((x%E.length:Nat):Int)):=Qk4 (by omega);generalize x%E.length=m at*;have b:=QaJ C;have k:3<=((E.flatMap edC).drop (m*3)).length:=by rw[b];simp
   refine ZcW (Zc5 p G hm b k Q) ?_;refine⟨(i+1,out++[y.2.1],y.2.2),by dsimp only;omega,⟨by dsimp only;omega,by dsimp only;rw[List.length_append,List.length_singleton];omega,?_⟩,?_⟩;·dsimp only;rw[hk,ZaV];rfl
   dsimp only;rw[QaF,Qay,Zaf];exact⟨[(50,.blk 50 0),(61,.blk 61 1)],rfl,Zcx,ZcB rfl rfl gg (Zcr o) (ZcB rfl rfl gg (Zcr (SU.Qav (Qad _) rfl)) ZcA),Zcz (Rn.x2 rfl rfl) (Zcz (Zcq rfl) (Zcz (Rn.x1 rfl rfl) (Zcz (Zcq d) au29)))⟩
  have e:i=w.length:=by omega
  subst e;rw[Zcg]at hk;rw[Qt4]at hk;dsimp only at hk;rw[Zap]at hk;refine ZcW h ?_;exact⟨(out,a),⟨hk.symm,by dsimp only;omega⟩,[(50,.blk 50 0),(61,.blk 61 0)],rfl,Zcx,ZcB rfl rfl gg (Zcr o) (ZcB rfl rfl gg (Zcr (Qad _)) ZcA),Zcz (Rn.x2 rfl rfl) (Zcz (Zcq rfl) (Zcz (Rn.x1 rfl rfl) Zcy))⟩
 rintro⟨out,a⟩⟨V,P⟩;dsimp only at P⊢;unfold wkO;rw[<-V];dsimp only;by_cases U:r.sup.n=0
 ·have A:(r.orig.length:Int)=0:=by omega
  rw[if_pos U];refine ZcW A ?_;exact⟨.inr trivial,_,rfl,Rn.tup (ZcH Rn.frznil (Zcr rfl))⟩
 have A:¬(r.orig.length:Int)=0:=by omega
 rw[if_neg U];have H:=(Qnn s w 0 (by omega)).2.2.1;rw[<-V]at H;dsimp only at H⊢;have l:a<r.orig.length:=by omega
 obtain⟨v,T⟩:=Qap l;have J:r.orig.getD a 0=v:=by rw[Zak,T];rfl
 rw[J];refine ZcW (Zc2 A l (Qaz T)) ?_;exact⟨.inr trivial,_,rfl,Rn.tup (ZcH (Rn.fz0 (b:=61) rfl (by simp[ints]) (Zcr (Qad _))) (Zcr rfl))⟩
def stZ(es:List Ed)(v:Nat)(e:Int):Option Nat:=if 0<=e then stepA es v e.toNat else none
theorem Qt5(es:List Ed)(v e:Nat):stZ es v (e:Int)=stepA es v e:=by unfold stZ;rw[if_pos (by omega),ZbL]
theorem Qt6(es:List Ed)(v:Nat)(e:Int):stZ es v e=((sOut es (fun _=>true) v).find? fun x=>decide ((x.2.1:Int)=e)).map (·.2.2):=by
 unfold stZ;split;·rename_i h;obtain⟨k,rfl⟩:=ZaY h;rw[ZbL,QdY];congr 2;funext x;exact decide_eq_decide.2 (by omega)
 rename_i h;rw[Za6.2 fun x _ a=>by simp at a;omega];rfl
theorem Qfw{a:Aut}(h:WfA a){v t:Nat}{e:Int}(b:stZ a.es v e=some t):t<a.n/\∃k:Nat,e=(k:Int)/\k∈a.al/\stepA a.es v k=some t:=by
 unfold stZ at b;split at b;·rename_i c;obtain⟨k,rfl⟩:=ZaY c;rw[ZbL]at b;refine⟨Qcu h.esn b,k,rfl,?_,b⟩;unfold stepA at b;cases hf:a.es.find? fun x=>x.1==v&&x.2.1==k with|none=>rw[hf]at b;cases b|some x=>have h1:=ZbM hf;simp at h1;rw[<-h1.2];exact h.ev x (Za2 hf)
 cases b
theorem ev262Z(x:Ed)(e:Int):Pq 264 [.agg [.int .i64 (x.1:Int),.int .i64 (x.2.1:Int),.int .i64 (x.2.2:Int)],.fptr [.int .i64 e]] (.bool (decide ((x.2.1:Int)=e))):=by refine Zcu 64 TQ.ok264 rfl rfl rfl ?_;unfold TQ.s264;refine ZcV ?_;exact⟨.inr trivial,_,rfl,rfl⟩
def nxZ(a:Aut)(v:Nat)(e:Int):Int:=match stZ a.es v e with|some t=>(t:Int)|none=>-1
theorem next226Z(a:Aut)(v:Nat)(e:Int)(h:WfA a)(q:v<a.n):Pq 219 [aV a,.int .i64 (v:Int),.int .i64 e] (.int .i64 (nxZ a v e)):=by
 have r:=h.n5;refine Zcu 64 TQ.ok219 rfl (by(try simp only[noRefs,Qad,Qaj,Qaf,noRef,noRefs,Zad,Zac])<;>rfl) rfl ?_;have ho:=out199 a v h (by omega);have g:(sOut a.es (fun _=>true) v).length<=131072:=Zaw (ZaI ..) (WfA.el1 h);have m:=index48 (K:=264) (cap:=[.fptr [.int .i64 e]]) (fun x=>decide ((x.2.1:Int)=e)) (sOut a.es (fun _=>true) v) (by omega) rfl fun x _=>ev262Z x e;unfold nxZ;rw[Qt6];generalize sOut a.es (fun _=>true) v=o at*;rw[Qf6];have s:=@QdB _ (fun x:Ed=>decide ((x.2.1:Int)=e)) o;have l:idxQ (fun x:Ed=>decide ((x.2.1:Int)=e)) o=-1/\o[o.findIdx fun x=>decide ((x.2.1:Int)=e)]?=none\/∃y,idxQ (fun x:Ed=>decide ((x.2.1:Int)=e)) o=((o.findIdx fun x=>decide ((x.2.1:Int)=e):Nat):Int)/\o[o.findIdx fun x=>decide ((x.2.1:Int)=e)]?=some y:=by
  unfold idxQ;by_cases c:o.any (fun x=>decide ((x.2.1:Int)=e))=true;·rw[if_pos c];obtain⟨y,p⟩:=Qap (Zbn (p:=fun x:Ed=>decide ((x.2.1:Int)=e)) (xs:=o) (by simpa using c));exact .inr ⟨y,rfl,p⟩
  rw[if_neg c];refine .inl ⟨rfl,ZaD (Nat.le_of_not_lt fun b=>c ?_)⟩;rw[ZbR];exact⟨_,List.getElem_mem b,Zcc (w:=b)⟩
 generalize(o.findIdx fun x=>decide ((x.2.1:Int)=e))=k at*;generalize idxQ (fun x:Ed=>decide ((x.2.1:Int)=e)) o=i at*;unfold TQ.s219;refine ZcV ?_;refine cp ho ?_;refine ZcV ?_;refine SU.chc (ZcL (ZcO (Zcv _) (ZcO (FrzTo.fn ZcN (ZcO (ZcK (g:=0) (cs:=[.int .i64 e]) gg (Zcw _)) ZcN)) ZcN)) m rfl) ?_;rcases l with⟨rfl,hk⟩|⟨y,rfl,hk⟩;·refine ZcV ?_;rw[hk];exact⟨.inr trivial,_,rfl,rfl⟩
 have f:k<o.length:=(Zag.1 hk).1;have g1:¬(k:Int)<0:=by omega
 have d:=QaJ hk;refine ZcW (Zc2 g1 f d) ?_;rw[hk];exact⟨.inr trivial,_,rfl,rfl⟩
def runZ(es:List Ed):Nat->List Int->Option Nat|s,[]=>some s|s,x::w=>match stZ es s x with|some n=>runZ es n w|none=>none
theorem QdD{es:List Ed}:∀{w:List Nat}{s:Nat},runZ es s (nz w)=runA es s w|[],s=>rfl|x::w,s=>by show(match stZ es s (x:Int)with|some n=>runZ es n (nz w)|none=>none)=_;rw[Qt5];unfold runA;cases stepA es s x with|none=>rfl|some n=>exact QdD
theorem Qhc{a:Aut}(h:WfA a):∀{w:List Int}{s t:Nat},runZ a.es s w=some t->∃v:List Nat,w=nz v/\(∀x∈v,x∈a.al)|[],s,t,_=>⟨[],rfl,fun x g=>by cases g⟩|x::w,s,t,b=>by unfold runZ at b;cases d:stZ a.es s x with|none=>rw[d]at b;cases b|some n=>rw[d]at b;obtain⟨_,k,rfl,hk,_⟩:=Qfw h d;obtain⟨v,rfl,f⟩:=Qhc h b;exact⟨k::v,rfl,fun y c=>by
 rcases Zau.1 c with rfl|c;·exact hk
 exact f y c⟩
def folZ(es:List Ed):Nat->List Int->Nat×Nat|s,[]=>(s,0)|s,x::w=>match stZ es s x with|some n=>((folZ es n w).1,(folZ es n w).2+1)|none=>(s,0)
theorem QiD{es:List Ed}:∀{w:List Int}{s:Nat},(folZ es s w).2<=w.length/\decide ((folZ es s w).2=w.length)=(runZ es s w).isSome/\∀t,runZ es s w=some t->folZ es s w=(t,w.length)|[],s=>⟨ZaM _,rfl,fun t h=>by cases h;rfl⟩|x::w,s=>by unfold folZ runZ;cases c:stZ es s x with|none=>exact⟨Zah _,rfl,fun t h=>by cases h⟩|some n=>
 obtain⟨h1,a,b⟩:=@QiD es w n;refine⟨by simp;omega,?_,fun t h=>?_⟩;·simp only[ZaF];rw[<-a];exact decide_eq_decide.2 (by omega)
 show((folZ es n w).1,(folZ es n w).2+1)=_;rw[b t h];rfl
theorem follow194Z(a:Aut)(w:List Int)(h:WfA a)(hp:0<a.n)(hw:w.length<=100000):Pq 163 [aV a,.int .i64 0,sli w] (.tup [.int .i64 ((folZ a.es 0 w).1:Int),.int .i64 ((folZ a.es 0 w).2:Int)]):=by
 have m:=h.n5;refine Zcu 64 TU.ok163 rfl (by(try simp only[noRefs,Qad,Qaj,Qaf,noRef,noRefs,Zad,Zac])<;>rfl) rfl ?_;unfold TU.s163;refine ZcV ?_;refine QaL 100 (fun s:Nat×Nat=>[(1,.int .i64 s.2),(2,sli w),(3,.ptr 60 0 0),(11,sli w),(12,.int .i64 w.length),(13,.int .i64 s.1)]) (fun _=>[(60,.cells 0 [sliN a.al,.int .i64 (a.n:Int),sliN a.ms,egsN a.es])]) (fun s=>s.1<=w.length/\s.2<a.n/\folZ a.es 0 w=((folZ a.es s.2 (w.drop s.1)).1,(folZ a.es s.2 (w.drop s.1)).2+s.1)) (fun s=>w.length-s.1) (0,0) ?_ ⟨Zah _,hp,rfl⟩ ?_;·exact⟨[(60,.blk 64 0)],rfl,au0,au26,au23⟩
 rintro⟨i,s⟩⟨hi,l,hf⟩;simp only at hi l hf;by_cases b:i<w.length;·obtain⟨x,k⟩:=Qap b;have f:=QaV k;have g:=next226Z a s x h l;unfold nxZ at g;rw[Zbf b,(Zag.1 k).2]at hf;refine ZcW (Zc1 b f) ?_;refine cp g ?_;cases c:stZ a.es s x with|none=>simp only[folZ,c]at hf;rw[hf];refine ZcV ?_;exact⟨.inr trivial,_,rfl,by(try simp only[ZbW]);rfl⟩|some n=>
  simp only[folZ,c]at hf;have d:=(Qfw h c).1;have g1:¬(n:Int)<0:=by omega
  refine ZcW g1 ?_;exact⟨(i+1,n),by simp;omega,⟨by simp;omega,d,by rw[hf];simp;omega⟩,⟨[(60,.blk 60 0)],rfl,au0,au26,au23⟩⟩
 have e:i=w.length:=by omega
 subst e;rw[Zcg]at hf;simp only[folZ]at hf;refine ZcW b ?_;rw[hf];exact⟨.inr trivial,_,rfl,by(try simp only[ZbW]);rfl⟩
theorem reached113Z(a:Aut)(w:List Int)(h:WfA a)(hp:0<a.n)(hw:w.length<=100000):Pq 92 [aV a,sli w] (.tup [.int .i64 ((folZ a.es 0 w).1:Int),.bool (runZ a.es 0 w).isSome]):=by
 have d:=h.n5;refine Zcu 64 TU.ok92 rfl (by(try simp only[noRefs,Qad,Qaj,Qaf,noRef,noRefs,Zad,Zac])<;>rfl) rfl ?_;have c:=follow194Z a w h hp hw;obtain⟨h1,b,_⟩:=@QiD a.es w 0;have g0:¬(a.n:Int)=0:=by omega
 unfold TU.s92;refine ZcW g0 ?_;refine cp c ?_;refine ZcW b ?_;exact⟨.inr trivial,_,rfl,rfl⟩
theorem generates40Z(a:Aut)(w:List Int)(h:WfA a)(hp:0<a.n)(hw:w.length<=100000):Pq 40 [aV a,sli w] (.tup [.bool (runZ a.es 0 w).isSome,.int .i64 0]):=by refine Zcu 64 TU.ok40 rfl (by(try simp only[noRefs,Qad,Qaj,Qaf,noRef,noRefs,Zad,Zac])<;>rfl) rfl ?_;have hc:=check112B a h;have b:=reached113Z a w h hp hw;unfold TU.s40;refine ZcV ?_;refine cp hc ?_;refine ZcV ?_;refine cp b ?_;refine ZcV ?_;exact⟨.inr trivial,_,rfl,rfl⟩
theorem run217(a:Aut)(x:Nat)(h:WfA a):Pq 217 [.int .i64 (x:Int),.fptr [sliN a.al,.int .i64 (a.n:Int),sliN a.ms,egsN a.es]] (.bool (!a.al.contains x)):=by
 refine Zcu 64 XA.ok217 rfl (by simp only[noRefs,noRef,Qad,Qaf];rfl) rfl ?_;have d:=Qby h.al h.al5;have c:=contains62 (nz a.al) (x:Int) (by simp;omega);have hm:decide ((x:Int)∈nz a.al)=a.al.contains x:=by
  rw[Zby,decide_eq_true_eq,ZaG];constructor
  ·intro b;obtain⟨y,f,e⟩:=Zan.1 b;have:y=x:=by omega
   rw[<-this];exact f
  intro b;exact Zan.2 ⟨x,b,rfl⟩
 rw[hm,Qbn]at c;unfold XA.s217;refine ZcV ?_;refine cp c ?_;refine ZcV ?_;exact⟨.inr trivial,_,rfl,rfl⟩
theorem run141(a:Aut)(w:List Nat)(h:WfA a)(hp:0<a.n)(hw:w.length<=100000)(k:∀x∈w,x∈a.al){t:Nat}(g:runA a.es 0 w=some t):Pq 141 [aV a,.int .i64 0,sliN w] (.tup [.int .i64 (t:Int),.int .i64 w.length,.int .i64 0]):=by
 refine Zcu 64 XA.ok141 rfl (by(try simp only[noRefs,Qad,Qaj,Qaf,noRef,noRefs,Zad,Zac])<;>rfl) rfl ?_;have i:Pq 204 [aV a,.int .i64 0] (.int .i64 0):=state207 a 0 h hp;have d:=contains36 (K:=217) (cap:=[.fptr [sliN a.al,.int .i64 (a.n:Int),sliN a.ms,egsN a.es]]) (fun x=>!a.al.contains x) w (by omega) (by simp only[noRefs,noRef,Qad,Qaf];rfl) fun x _=>run217 a x h;have b:w.any (fun x=>!a.al.contains x)=false:=by rw[List.any_eq_false];intro x l;simp[k x l]
 rw[b]at d;have c:=follow194Z a (nz w) h hp (by simpa[nz]using hw);rw[(@QiD a.es (nz w) 0).2.2 t (by rw[QdD];exact g),Qbn]at c;have f:(nz w).length=w.length:=by simp[nz]
 rw[f]at c;unfold XA.s141;refine ZcV ?_;refine cp i ?_;refine ZcV ?_;refine SU.chc (ZcL (ZcO (Zcv _) (ZcO (FrzTo.fn ZcN (ZcO (ZcK (g:=0) (cs:=[sliN a.al,.int .i64 (a.n:Int),sliN a.ms,egsN a.es]) gg (Zcw _)) ZcN)) ZcN)) d rfl) ?_;refine ZcV ?_;refine cp c ?_;refine ZcV ?_;exact⟨.inr trivial,_,rfl,rfl⟩
theorem Qhd(c:Cel)(h:WfCel c):StOk c (spQ c) (leftC c) (forbC c) (resC c) (uncL c.ev 5):=by
 have hw:=wfA_c c h;have a:=Qft c h;have d:=hw.n5;refine⟨hw,(Qj1 _).1,?_,a,(Qjt c _).1,?_,Qvf hw,?_⟩;·have :(uncL c.ev 5).length<=5:=Zaw (ZaI ..) (by simp);omega
 ·have :=Qf8 c (sync0 (allA c)).1.length;have b:(syncA (allA c)).n=(sync0 (allA c)).1.length:=rfl;show(forb c (sync0 (allA c)).1.length).length<=1000000;omega
 have :=Qlo a;omega
theorem eventC(c:Cel)(h:WfCel c){v:Nat}(g:v<(spQ c).n)(e:Nat):Pq 79 [.fptr (stdC c),.int .i64 (v:Int),.int .i64 (e:Int)] (expV (eventX c v e)):=by
 rw[Qde];have l:=Qhp g;obtain⟨m,b⟩:=Qfs h _ (Zae l);have a:=QiB (A:=auL c.cs) (B:=auL c.rs) m;rw[QaZ]at a;have hp:WfA (plA c):=(QdC (Qa3 h) (by rw[QaZ];have:=h.c3;omega)).toWfA;have hk:ixT (sync0 (auL c.cs)).1 ((tup c v).take c.cs.length)<(plA c).n:=Qg5 b;have o:(spP c (sync0 (auL c.cs)).1 (sync0 (allA c)).1)[v]?=some (ixT (sync0 (auL c.cs)).1 ((tup c v).take c.cs.length)):=by unfold spP;rw[ZaB,l];rfl
 have r:(spB c (sync0 (allA c)).1)[v]?=some ((tup c v).drop c.cs.length):=by unfold spB;rw[ZaB,l];rfl
 have d:((plA c).al.contains e&&(stepA (plA c).es (ixT (sync0 (auL c.cs)).1 ((tup c v).take c.cs.length)) e).isSome)=pOk c v e:=by unfold pOk;cases hc:(evA (auL c.cs)).contains e with|false=>have:(plA c).al.contains e=false:=hc;rw[this];rfl|true=>have k:(plA c).al.contains e=true:=hc;rw[k,Qgc (Qa3 h) (Qhm b) (ZaG.1 hc),Option.isSome_map]
 have f:=@event79 c (plA c) (spQ c) (spA c (sync0 (allA c)).1) (spB c (sync0 (allA c)).1) (spP c (sync0 (auL c.cs)).1 (sync0 (allA c)).1) (forbC c) (resC c) (uncL c.ev 5) (leftC c) (Qhd c h) hp h.r2 h.ra v _ e _ o hk g r (by rw[a.1,QaZ]) (fun i y p=>a.2 i y.2 (by rw[ZaB,p];rfl)) (fun q1 q2 s=>by
  have q:pOk c v e=true:=by rw[<-d,q1,q2];rfl
  exact(Qjw h g).2 ⟨q,s⟩);rw[d]at f;exact f
theorem Qfx(c:Cel)(h:WfCel c):WfA (resC c).sup:=Qmq (left:=leftC c) (wfA_c c h)
theorem QiE(c:Cel):(resC c).orig.length=(resC c).sup.n:=rfl
def BErr(c:Cel)(w:List Int)(e:Int):Prop:=((resC c).sup.n=0/\e=21)\/((resC c).sup.n≠0/\4096<w.length/\e=15)\/((resC c).sup.n≠0/\w.length<=4096/\runZ (resC c).sup.es 0 w=none/\e=10)
theorem QeY(c:Cel):noRef (.fptr (stdC c))=true:=by rw[noRef];exact Qjv c
theorem behindE(c:Cel)(h:WfCel c)(w:List Int)(a:w.length<=100000){e:Int}(he:BErr c w e):Pq 78 [celV c,sli w] (.tup [.nilptr,.int .i64 0,.int .i64 e]):=by
 refine Zcu 64 XA.ok78 rfl (by rw[noRefs,SU.QaM,noRefs,Qan];rfl) rfl ?_;have hO:=open80 c h;have b:=Qfx c h;have i:=fun hp=>generates40Z (resC c).sup w b hp a;unfold BErr at he;rw[Qde]at hO;generalize resC c=r at*;generalize spQ c=q at*;generalize plA c=p at*;generalize spA c (sync0 (allA c)).1=A at*;generalize spB c (sync0 (allA c)).1=B at*;generalize spP c (sync0 (auL c.cs)).1 (sync0 (allA c)).1=X at*;generalize forb c (sync0 (allA c)).1.length=F at*;generalize uncL c.ev 5=u at*;rcases he with⟨d,rfl⟩|⟨d,h1,rfl⟩|⟨d,h1,g,rfl⟩
 ·have g0:(r.sup.n:Int)=0:=by omega
  unfold XA.s78;refine ZcV ?_;refine cp hO ?_;refine ZcW g0 ?_;exact⟨.inr trivial,_,rfl,rfl⟩
 ·have g0:¬(r.sup.n:Int)=0:=by omega
  have g1:(4096:Int)<(w.length:Int):=by omega
  unfold XA.s78;refine ZcV ?_;refine cp hO ?_;refine ZcW (Zc1 g0 g1) ?_;exact⟨.inr trivial,_,rfl,rfl⟩
 have g0:¬(r.sup.n:Int)=0:=by omega
 have g1:¬(4096:Int)<(w.length:Int):=by omega
 have f:=i (by omega);rw[g]at f;unfold XA.s78;refine ZcV ?_;refine cp hO ?_;refine ZcW (Zc1 g0 g1) ?_;refine cp f ?_;refine ZcV ?_;exact⟨.inr trivial,_,rfl,rfl⟩
theorem behindK(c:Cel)(h:WfCel c)(w:List Nat)(C:w.length<=4096){t v:Nat}(m:runA (resC c).sup.es 0 w=some t)(G:(resC c).sup.n≠0)(z:(resC c).orig[t]?=some v):Pq 78 [celV c,sliN w] (.tup [.fptr (stdC c),.int .i64 (v:Int),.int .i64 0]):=by
 have b:=QeY c;refine Zct 64 XA.ok78 rfl (by rw[noRefs,SU.QaM,noRefs,Qae];rfl) (by rw[noRef,noRefs,b];rfl) ?_;have hO:=open80 c h;have a:=Qfx c h;have s:=generates40Z (resC c).sup (nz w) a (by omega) (by simpa[nz]using(by omega:w.length<=100000));rw[QdD,m,Qbn]at s;obtain⟨E,g,d⟩:=Qhc a (w:=nz w) (by rw[QdD];exact m);have k:E=w:=by
  have:=congrArg (List.map Int.toNat) g;unfold nz at this;rw[List.map_map,List.map_map]at this;have e:∀l:List Nat,l.map (Int.toNat∘fun x:Nat=>(x:Int))=l:=fun l=>by rw[show(Int.toNat∘fun x:Nat=>(x:Int))=id from funext fun x=>ZbL x,List.map_id]
  rw[e,e]at this;exact this.symm
 rw[k]at d;have f:=run141 (resC c).sup w a (by omega) (by omega) d m;have i:=(Zag.1 z).1;have o:=Qaz z;have y:noRef (.fptr (stdC c))=true:=b;rw[Qde]at hO y⊢;generalize resC c=r at*;generalize spQ c=q at*;generalize plA c=p at*;generalize spA c (sync0 (allA c)).1=A at*;generalize spB c (sync0 (allA c)).1=B at*;generalize spP c (sync0 (auL c.cs)).1 (sync0 (allA c)).1=X at*;generalize forb c (sync0 (allA c)).1.length=F at*;generalize uncL c.ev 5=u at*;have g0:¬(r.sup.n:Int)=0:=by omega
 have g1:¬(4096:Int)<(w.length:Int):=by omega
 unfold XA.s78;refine ZcV ?_;refine cp hO ?_;refine ZcW (Zc1 g0 g1) ?_;refine cp s ?_;refine ZcV ?_;refine cp f ?_;refine ZcW (Zc1 i o) ?_;refine⟨.inr trivial,_,rfl,Zcq ?_⟩;rw[noRef,noRefs,y];rfl
theorem rnx0{m:Nat}{π:Nat->Option Src}{h:Heap}:Rn m π h (expV x00) (.agg [.int .i64 0,.int .i64 0,.int .i64 0,.int .i64 0,.nilsl,.int .i64 0,.int .i64 0,.int .i64 0,.int .i64 0,.int .i64 0,.int .i64 0,.int .i64 0,.int .i64 0,.int .i64 0]):=Rn.agg (ZcH (Zcq rfl) (ZcH (Zcq rfl) (ZcH (Zcq rfl) (ZcH (Zcq rfl) (ZcH Rn.frznil (Zcr rfl))))))
theorem event22E(c:Cel)(h:WfCel c)(w:List Int)(a:w.length<=100000){e:Int}(he:BErr c w e)(ev:Int):Pq 22 [celV c,sli w,.int .i64 ev] (.tup [expV x00,.int .i64 e]):=by
 refine Zct 64 XA.ok22 rfl (by rw[noRefs,SU.QaM,noRefs,Qan];rfl) rfl ?_;have f:=behindE c h w a he;have b:¬e=0:=by unfold BErr at he;omega
 have d:=Qa4 c;unfold XA.s22;refine ZcV ?_;refine cp f ?_;refine ZcW b ?_;exact⟨.inr trivial,_,rfl,Rn.tup (ZcH rnx0 (Zcr rfl))⟩
theorem event22R(c:Cel)(h:WfCel c)(w:List Nat)(a:w.length<=4096){t v:Nat}(g:runA (resC c).sup.es 0 w=some t)(k:(resC c).sup.n≠0)(i:(resC c).orig[t]?=some v){ev:Int}(d:ev<0\/5<=ev):Pq 22 [celV c,sliN w,.int .i64 ev] (.tup [expV x00,.int .i64 2]):=by
 refine Zct 64 XA.ok22 rfl (by rw[noRefs,SU.QaM,noRefs,Qae];rfl) rfl ?_;have b:=behindK c h w a g k i;have f:=Qa4 c;by_cases g1:ev<0;·unfold XA.s22;refine ZcV ?_;refine cp b ?_;refine ZcW g1 ?_;exact⟨.inr trivial,_,rfl,Rn.tup (ZcH rnx0 (Zcr rfl))⟩
 have g2:(5:Int)<=ev:=by omega
 unfold XA.s22;refine ZcV ?_;refine cp b ?_;refine ZcW (Zc1 g1 g2) ?_;exact⟨.inr trivial,_,rfl,Rn.tup (ZcH rnx0 (Zcr rfl))⟩
theorem event22K(c:Cel)(h:WfCel c)(w:List Nat)(b:w.length<=4096){t v:Nat}(i:runA (resC c).sup.es 0 w=some t)(m:(resC c).sup.n≠0)(f:(resC c).orig[t]?=some v){e:Nat}(he:e<5):Pq 22 [celV c,sliN w,.int .i64 (e:Int)] (.tup [expV (eventX c v e),.int .i64 0]):=by
 have a:=(Qfu h f).1;have g:=eventC c h a e;have k:=behindK c h w b i m f;generalize eventX c v e=x at*;refine Zct 64 XA.ok22 rfl (by rw[noRefs,SU.QaM,noRefs,Qae];rfl) (by rw[noRef,noRefs,Qa5];rfl) ?_;have l:=Qa4 c;have d:=Qa5 x;have g1:¬(e:Int)<0:=by omega
 have g2:¬(5:Int)<=(e:Int):=by omega
 generalize stdC c=S at*;unfold XA.s22;refine ZcV ?_;refine cp k ?_;refine ZcW (Zc1 g1 g2) ?_;refine cp g ?_;refine ZcV ?_;refine⟨.inr trivial,_,rfl,Zcq ?_⟩;rw[noRef,noRefs,d];rfl
theorem forb26E(c:Cel)(h:WfCel c)(w:List Int)(a:w.length<=100000){e:Int}(he:BErr c w e):Pq 26 [celV c,sli w] (.tup [sliN [],.int .i64 e]):=by
 refine Zct 64 XA.ok26 rfl (by rw[noRefs,SU.QaM,noRefs,Qan];rfl) rfl ?_;have f:=behindE c h w a he;have b:¬e=0:=by unfold BErr at he;omega
 have d:=Qa4 c;unfold XA.s26;refine ZcV ?_;refine cp f ?_;refine ZcW b ?_;exact⟨.inr trivial,_,rfl,Rn.tup (ZcH Rn.frznil (Zcr rfl))⟩
theorem forb26K(c:Cel)(h:WfCel c)(w:List Nat)(o:w.length<=4096){t v:Nat}(A:runA (resC c).sup.es 0 w=some t)(r:(resC c).sup.n≠0)(q:(resC c).orig[t]?=some v):Pq 26 [celV c,sliN w] (.tup [sliN (forbE c v 5),.int .i64 0]):=by
 have l:=(Qfu h q).1;have k:=fun e=>eventC c h l e;have u:=behindK c h w o A r q;have s:=Qjy c v;have p:forbE c v 0=[]:=rfl;have m:∀i,(forbE c v i).length<=i:=fun i=>Zaw (ZaI ..) (by simp);generalize forbE c v=d at*;generalize eventX c v=x at*;refine Zct 64 XA.ok26 rfl (by rw[noRefs,SU.QaM,noRefs,Qae];rfl) (by simp only[noRef,noRefs,Qad];rfl) ?_;have B:=Qa4 c;have g:=QeY c;generalize stdC c=S at*;unfold XA.s26;refine ZcV ?_;refine cp u ?_;refine ZcV ?_;refine Qaq 140 (fun i:Nat=>[(6,.fptr S),(7,.int .i64 (v:Int)),(9,.sl 61 0 0 (d i).length 1),(24,.int .i64 5),(25,.int .i64 i)]) (fun i=>[(61,.cells 0 (ints (nz (d i))))]) (fun i=>i<=5) (fun i=>5-i) 0 0 300 (fun _:Unit=>[(9,.sl 61 0 0 (d 5).length 1)]) (fun _=>[(61,.cells 0 (ints (nz (d 5))))]) (fun _=>True) ?_ (Zah _) ?_ ?_;·rw[p];exact⟨[(61,.nil)],rfl,Zcx,ZcC rfl rfl ZcA,Zcz (Zcq g) au29⟩
 ·rintro i hi;have z:=m i;have f:(ints (nz (d i))).length=(d i).length:=by simp[ints]
  have C:=Qa5 (x i);by_cases y:i<5
  ·have b:(i:Int)<5:=by omega
   have hk:=s i;by_cases k3:(x i).kind=3;·rw[if_pos (.inl k3)]at hk;have a:=k i;refine ZcW b ?_;refine cp a ?_;simp(disch:=first|omega|exact PairsOK.mk rfl|(simp only[lenW]<;>omega))only[k3,f,Qaa,Qab,Qac,wW,wV,simprocAttr];refine⟨i+1,by omega,by omega,?_⟩;rw[hk,QaF,Qay,Zaf];exact⟨[(61,.blk 61 1)],rfl,Zcx,ZcB rfl rfl gg (Zcr (SU.Qav (Qad _) rfl)) ZcA,Zcz (Zcq g) au29⟩
   by_cases k4:(x i).kind=4;·rw[if_pos (.inr k4)]at hk;have a:=k i;refine ZcW b ?_;refine cp a ?_;simp(disch:=first|omega|exact PairsOK.mk rfl|(simp only[lenW]<;>omega))only[k3,k4,f,Qaa,Qab,Qac,wW,wV,simprocAttr];refine⟨i+1,by omega,by omega,?_⟩;rw[hk,QaF,Qay,Zaf];exact⟨[(61,.blk 61 1)],rfl,Zcx,ZcB rfl rfl gg (Zcr (SU.Qav (Qad _) rfl)) ZcA,Zcz (Zcq g) au29⟩
   rw[if_neg (by simp[k3,k4]),Zap]at hk;have a:=k i;refine ZcW b ?_;refine cp a ?_;simp(disch:=first|omega|exact PairsOK.mk rfl|(simp only[lenW]<;>omega))only[k3,k4,Qaa,Qab,Qac,wW,wV,simprocAttr];refine⟨i+1,by omega,by omega,?_⟩;rw[hk];exact⟨[(61,.blk 61 0)],rfl,Zcx,ZcB rfl rfl gg (Zcr (Qad _)) ZcA,Zcz (Zcq g) au29⟩
  have e:i=5:=by omega
  subst e;refine ZcV ?_;exact⟨(),[(61,.blk 61 0)],rfl,Zcx,ZcB rfl rfl gg (Zcr (Qad _)) ZcA,au29⟩
 rintro _ _;refine ZcV ?_;exact⟨.inr trivial,_,rfl,Rn.tup (ZcH (Rn.fz0 (b:=61) rfl (by simp[ints]) (Zcr (Qad _))) (Zcr rfl))⟩
theorem QrJ{n:Nat}{l:List Vs}(a:LOk n l):∀(j:Nat)w,l[j]?=some w->w.run.length<=j:=by intro j;induction j using Nat.strongRecOn with|_ j g=>
 intro w hw;rcases a.bf j w hw with⟨_,b2⟩|⟨b,f,_,b2,d,c⟩;·rw[b2];simp
 have :=g b b2 f d;rw[c,Zaf,Zbk];omega
theorem Qt7{a:Aut}{u:List Nat}{R:List Rm}(h:WfA a):∀(k i:Nat)(l:List Vs){r:List Nat}{t:Nat},LOk a.n l->bgo a u R k i l=some (r,t)->r.length<=a.n:=by intro k;induction k with|zero=>intro i l r t _ b;cases b|succ k f=>
 intro i l r t d b;unfold bgo at b;split at b;·cases b
 rename_i v c;split at b;·cases b;have:=QrJ d i v c;have:=(Zag.1 c).1;have:=d.len;omega
 exact f _ _ (d.exts (es:=ucE a u v.st) c fun e he=>Qjq h he).1 b
theorem Qls{q:Aut}{u:List Nat}{R:List Rm}{F:List (Nat×Int×Int×Int)}{s n:Nat}(h:WfA q)(b:n<q.n):(leadsG q u R F s n).run.length<=1000000:=by
 have c:=h.n5;unfold leadsG;split;·rename_i r t a;have:=Qt7 h _ _ _ (LOk.one b) a;show r.length<=_;omega
 exact Zah _
theorem QrK{c:Cel}(h:WfCel c){v e:Nat}(a:v<(syncA (allA c)).n):(eventX c v e).run.length<=1000000:=by
 unfold eventX eventG;split
 ·split;·exact Zah _
  split;·rename_i hp hf b;exact Qls (wfA_c c h) (Qj2 h a hp (by omega)).2
  exact Zah _
 exact Zah _
theorem same37(x:Exp)(b:x.run.length<=1000000):Pq 37 [expV x,expV x] (.bool true):=by
 refine Zcu 64 XK.ok37 rfl (by rw[noRefs,noRefs,Qa5];rfl) rfl ?_;have a:=eq41N x.run x.run b;rw[decide_eq_true rfl]at a;have c:aEq (.flat true [.i,.i,.i,.i]) false (.agg [.int .i64 (x.rm.st:Int),.int .i64 x.rm.rank,.int .i64 (x.rm.reason:Int),.int .i64 x.rm.ev]) (.agg [.int .i64 (x.rm.st:Int),.int .i64 x.rm.rank,.int .i64 (x.rm.reason:Int),.int .i64 x.rm.ev])=some (.bool true):=by simp[aEq,eqCells,eqCell]
 have d:aEq (.flat true [.i,.i,.i,.i]) false (.agg [.int .i64 (x.rs.1:Int),.int .i64 x.rs.2.1,.int .i64 x.rs.2.2.1,.int .i64 x.rs.2.2.2]) (.agg [.int .i64 (x.rs.1:Int),.int .i64 x.rs.2.1,.int .i64 x.rs.2.2.1,.int .i64 x.rs.2.2.2])=some (.bool true):=by simp[aEq,eqCells,eqCell]
 unfold XK.s37;refine ZcV ?_;refine cp a ?_;refine ZcW (Zc1 c d) ?_;exact⟨.inr trivial,_,rfl,rfl⟩
theorem none28:Pq 28 [expV x00] (.bool true):=by
 refine Zcu 64 XK.ok28 rfl rfl rfl ?_;have c:Pq 37 [expV x00,.agg [.int .i64 0,.int .i64 0,.int .i64 0,.int .i64 0,.nilsl,.int .i64 0,.int .i64 0,.int .i64 0,.int .i64 0,.int .i64 0,.int .i64 0,.int .i64 0,.int .i64 0,.int .i64 0]] (.bool true):=by
  refine Zcu 64 XK.ok37 rfl rfl rfl ?_;have b:Pq 36 [sliN [],.nilsl] (.bool true):=by refine Zcu 64 XK.ok36 rfl rfl rfl ?_;unfold XK.s36;refine ZcV ?_;refine QaL 100 (fun i:Nat=>[(0,sliN []),(1,.nilsl),(12,.int .i64 0),(13,.int .i64 0)]) (fun _=>[]) (fun i=>True) (fun i=>0) 0 ⟨[],rfl,au0,au30,au29⟩ trivial ?_;rintro i _;refine ZcV ?_;exact⟨.inr trivial,_,rfl,rfl⟩
  have a:aEq (.flat true [.i,.i,.i,.i]) false (.agg [.int .i64 0,.int .i64 0,.int .i64 0,.int .i64 0]) (.agg [.int .i64 0,.int .i64 0,.int .i64 0,.int .i64 0])=some (.bool true):=rfl;unfold XK.s37;refine ZcV ?_;refine cp b ?_;refine ZcW a ?_;exact⟨.inr trivial,_,rfl,rfl⟩
 unfold XK.s28;refine ZcV ?_;refine cp c ?_;refine ZcV ?_;exact⟨.inr trivial,_,rfl,rfl⟩
def plC(v:Vs):List AV:=[.int .i64 (v.st:Int),sliN v.run]
abbrev plE(v:Vs):AV:=.agg [.int .i64 (v.st:Int),sliN v.run]
theorem Qo4{l:List Vs}{i:Nat}{v:Vs}(h:l[i]?=some v):(l.flatMap plC).drop (i*2)=.int .i64 (v.st:Int)::sliN v.run::(l.drop (i+1)).flatMap plC:=Qa7 (f:=plC) (k:=2) (fun _=>rfl) h
theorem pl_at{l:List Vs}{i:Nat}{v:Vs}(h:l[i]?=some v):(l.flatMap plC)[i*2]?=some (.int .i64 (v.st:Int))/\(l.flatMap plC)[i*2+1]?=some (sliN v.run):=by
 have a:=Qo4 h;refine⟨?_,?_⟩;·have :=congrArg (fun L:List AV=>L[0]?) a;simpa using this
 have :=congrArg (fun L:List AV=>L[1]?) a;simpa using this
theorem QdW(l:List Vs):(l.flatMap plC).length=l.length*2:=Qa9 (k:=2) (fun _=>rfl) l
theorem Qcc(l:List Vs):noRefs (l.flatMap plC)=true:=by induction l with|nil=>rfl|cons x l a=>rw[Zay];exact SU.Qav (by rw[plC,noRefs,noRefs,Qae];rfl) a
abbrev plV(l:List Vs):AV:=.fsl (l.flatMap plC) l.length 2
theorem Qgd(l:List Vs):noRef (plV l)=true:=by rw[noRef];exact Qcc l
theorem lead94(v:Vs)(t:Nat):Pq 94 [plE v,.fptr [.int .i64 (t:Int)]] (.bool (v.st==t)):=by refine Zcu 64 XK.ok94 rfl (by simp only[noRefs,noRef,Qad];rfl) rfl ?_;unfold XK.s94;refine ZcV ?_;refine⟨.inr trivial,_,rfl,?_⟩;exact congrArg AV.bool (by rw[Zby];simp)
theorem index164{K:Nat}{cap:List AV}(q:Vs->Bool)(l:List Vs)(s:l.length<=1000000)(hc:noRefs cap=true)(hk:∀x∈l,Pq K (plE x::cap) (.bool (q x))):Pq 164 [plV l,.fn K [] cap] (.int .i64 (idxQ q l)):=by
 refine Zcu 64 XK.ok164 rfl (by rw[noRefs,noRefs,Qbc hc,Qgd];rfl) rfl ?_;have c:=Qbc (K:=K) hc;have o:=QdW l;unfold XK.s164;refine ZcV ?_;refine QaL 100 (fun i:Nat=>[(0,plV l),(1,.fn K [] cap),(7,.int .i64 l.length),(8,.int .i64 i)]) (fun _=>[]) (fun i=>i<=l.length/\∀(j:Nat)y,j<i->l[j]?=some y->q y=false) (fun i=>l.length-i) 0 ?_ ⟨Zah _,fun j y k=>absurd k (ZaC _)⟩ ?_;·exact⟨[],rfl,Zcx,ZcA,Zcz (Zcq (Qgd _)) (Zcz (Zcq c) (Zcz (Zcq rfl) (Zcz (Zcq rfl) Zcy)))⟩
 rintro i⟨hi,m⟩;by_cases a:i<l.length
 ·obtain⟨x,b⟩:=Qap a;have h:=hk x (Zae b);have d:=Qo4 b;have f:2<=(List.drop (i*2) (l.flatMap plC)).length:=by rw[Za3,o];omega
  cases g:q x
  ·rw[g]at h;refine Zc0 (Zc6 a d f @Zbc @Qaa @Qab @Qac) ?_;refine⟨_,by simpa using h,?_⟩;refine ZcV ?_;refine⟨i+1,by omega,⟨by omega,fun j y k p=>?_⟩,?_⟩
   ·by_cases e:j=i;·subst e;rw[b]at p;cases p;exact g
    exact m j y (by omega) p
   exact⟨[],rfl,Zcx,ZcA,Zcz (Zcq (Qgd _)) (Zcz (Zcq c) (Zcz (Zcq rfl) (Zcz (Zcq rfl) Zcy)))⟩
  rw[g]at h;refine Zc0 (Zc6 a d f @Zbc @Qaa @Qab @Qac) ?_;refine⟨_,by simpa using h,?_⟩;refine ZcV ?_;refine⟨.inr trivial,_,rfl,?_⟩;rw[QcI b g m];rfl
 refine ZcW a ?_;refine⟨.inr trivial,_,rfl,?_⟩;rw[QbV fun x b=>by obtain⟨j,k,r⟩:=Zbg b;exact m j x (by omega) (by rw[Zal k,r])];rfl
theorem contains93(l:List Vs)(t:Nat)(f:l.length<=1000000):Pq 93 [plV l,.fn 94 [] [.fptr [.int .i64 (t:Int)]]] (.bool (decide (t∈l.map (·.st)))):=by
 refine Zcu 64 XK.ok93 rfl (by rw[noRefs,Qgd];rfl) rfl ?_;have d:=index164 (K:=94) (cap:=[.fptr [.int .i64 (t:Int)]]) (fun v=>v.st==t) l f rfl fun v _=>lead94 v t;have b:=@Qhh _ (fun v:Vs=>v.st==t) l;have he:l.any (fun v=>v.st==t)=decide (t∈l.map (·.st)):=by
  rw[Zby,ZbR,decide_eq_true_eq,Zan];constructor;·rintro⟨x,c,e⟩;exact⟨x,c,by simpa using e⟩
  rintro⟨x,c,e⟩;exact⟨x,c,by simpa using e⟩
 rw[he]at b;generalize idxQ (fun v:Vs=>v.st==t) l=a at*;unfold XK.s93;refine ZcV ?_;refine cp d ?_;refine ZcW b ?_;exact⟨.inr trivial,_,rfl,rfl⟩
abbrev xtE(q:Aut)(u:List Nat)(i:Nat)(v:Vs)(l:List Vs)(A:List Nat):List Vs:=extL q i v l (A.filter fun e=>(stepA q.es v.st e).isSome&&u.contains e)
theorem QsT{q:Aut}{u:List Nat}{i j e:Nat}{v:Vs}{l:List Vs}{A:List Nat}(h:A[j]?=some e):xtE q u i v l (A.take (j+1))=if((stepA q.es v.st e).isSome&&u.contains e)=true then ext1 q i v (xtE q u i v l (A.take j)) e else xtE q u i v l (A.take j):=by
 unfold xtE;rw[take_succ' h,Zbi,Zbv];split;·unfold extL;rw[Za4];rfl
 rw[List.filter_nil,Zap]
abbrev x14:List AV:=[.int .i64 0,.int .i64 0,.int .i64 0,.int .i64 0,.nilsl,.int .i64 0,.int .i64 0,.int .i64 0,.int .i64 0,.int .i64 0,.int .i64 0,.int .i64 0,.int .i64 0,.int .i64 0]
theorem leads44{c:Cel}{q:Aut}{TA TB:List (List Nat)}{X:List Nat}{F:List (Nat×Int×Int×Int)}{r:Res}{left:Nat->Bool}(h:StOk c q left F r (uncL c.ev 5))(hq5:∀x∈q.al,x<5){s n:Nat}{A:Rm}(hx:remAt r.rem n=some A):Pq 44 [.agg (wldP c q TA TB X F r),.int .i64 (s:Int),.int .i64 (n:Int)] (expV (leadsG q (uncL c.ev 5) r.rem F s n)):=by
 obtain⟨hxm,rfl⟩:=QcA hx;obtain⟨I,t,hb⟩:=Qll h.w h.R hxm;have hxn:=(h.R.st A hxm).1;have d:=QoX _ _ _ hb;have P:=@nrW c q TA TB X F r;have e:leadsG q (uncL c.ev 5) r.rem F s A.st=ldx r.rem F s A.st I t:=by unfold leadsG;rw[hb]
 rw[e];refine Zct 64 XK.ok44 rfl (by rw[noRefs,nrW1];rfl) (Qa5 _) ?_;unfold ldx;have hRm:=fun s=>@removal43 c q TA TB X F r h.rl s;have hw:=h.w;have hn5:=hw.n5;have hel:=WfA.el1 hw;have hSt:=fun(v:Nat)(e:Nat)=>step38 q v e (by omega);have M:=Qae q.al;unfold XK.s44;refine ZcV ?_;refine Qaq 160 (fun z:Nat×List Vs=>[(3,.ptr 50 0 0),(6,.ptr 51 0 0),(7,.ptr 52 0 0),(8,.sl 60 0 0 z.2.length 2),(9,.int .i64 (z.1:Int))]) (fun z=>[(50,.cells 0 (wldP c q TA TB X F r)),(51,.cells 0 x14),(52,.cells 0 [.int .i64 4,.int .i64 (s:Int),.int .i64 (A.st:Int),.int .i64 (-1),.nilsl,.int .i64 0,.int .i64 0,.int .i64 0,.int .i64 0,.int .i64 0,.int .i64 0,.int .i64 0,.int .i64 0,.int .i64 0]),(60,.cells 0 (z.2.flatMap plC))]) (fun z=>LOk q.n z.2/\∃k,bgo q (uncL c.ev 5) r.rem k z.1 z.2=some (I,t)) (fun z=>q.n+1-z.1) (0,[v0 A.st]) 0 300 (fun _:Unit=>[(3,.ptr 50 0 0),(6,.ptr 51 0 0),(7,.ptr 52 0 0)]) (fun _=>[(50,.cells 0 (wldP c q TA TB X F r)),(51,.cells 0 x14),(52,.cells 0 [.int .i64 4,.int .i64 (s:Int),.int .i64 (A.st:Int),.int .i64 (-1),sliN I,.int .i64 (t:Int),.int .i64 ((rmD r.rem t).st:Int),.int .i64 (rmD r.rem t).rank,.int .i64 ((rmD r.rem t).reason:Int),.int .i64 (rmD r.rem t).ev,.int .i64 0,.int .i64 0,.int .i64 0,.int .i64 0])]) (fun _=>True) ?_ ⟨LOk.one hxn,_,hb⟩ ?_ ?_;·exact⟨[(50,.blk 64 0),(51,.blk 65 0),(52,.blk 69 0),(60,.blk 73 0)],rfl,Zcx,ZcB rfl rfl gg (Zcr P) (ZcB rfl rfl gg (Zcr rfl) (ZcB rfl rfl gg (Zcr rfl) (ZcB rfl rfl gg (ZcH (Zcq rfl) (ZcH Rn.frznil ZcG)) ZcA))),Zcz (Rn.x2 rfl rfl) (Zcz (Rn.x2 rfl rfl) (Zcz (Rn.x2 rfl rfl) (Zcz (Rn.x1 rfl rfl) au29)))⟩
 ·rintro⟨i,l⟩⟨hl,k,hk⟩;dsimp only at hl hk⊢;obtain⟨k',rfl⟩:∃k',k=k'+1:=by cases k with|zero=>cases hk|succ k=>exact⟨k,rfl⟩
  rw[bgo]at hk;cases U:l[i]? with|none=>rw[U]at hk;cases hk|some v=>
  rw[U]at hk;dsimp only at hk;have u:=(Zag.1 U).1;obtain⟨G,hg1⟩:=pl_at U;have hvn:=hl.st v (Zae U);have hll:=hl.len;have hcl:=QdW l;have J:=hRm v.st;by_cases f:badS r.rem v.st=true
  ·rw[if_pos f]at hk;cases hk;have hz3:∃z,remAt r.rem v.st=some z/\(z.reason=1\/z.reason=3):=by unfold badS at f;cases C:remAt r.rem v.st with|none=>rw[C]at f;cases f|some z=>
    rw[C]at f;replace f:(!Nat.beq z.reason 2)=true:=f;have h3:z.reason≠2:=fun e=>by rw[e]at f;exact absurd f (by decide)
    have:=h.R.re z (QcA C).1;exact⟨z,rfl,by omega⟩
   obtain⟨z,C,K⟩:=hz3;have hD:rmD r.rem v.st=z:=by unfold rmD;rw[C];rfl
   rw[hD,C]at J;rw[hD];have hnr:=Qae v.run;obtain⟨R,S,zc,T⟩:=z;dsimp only at K J⊢;rcases K with rfl|rfl;·refine ZcW u ?_;refine Qbr [] rfl rfl ?_;refine ZcW (Zc1 u G) ?_;refine cp J ?_;refine ZcW (Zc2 u G hg1) ?_;refine⟨trivial,?_⟩;exact⟨(),[(50,.blk 50 0),(51,.blk 51 0),(52,.blk 52 0)],rfl,Zcx,ZcB rfl rfl gg (Zcr P) (ZcB rfl rfl gg (Zcr rfl) (ZcB rfl rfl gg (Zcr (by simp only[noRefs,noRef,Qad];rfl)) ZcA)),Zcz (Rn.x2 rfl rfl) (Zcz (Rn.x2 rfl rfl) (Zcz (Rn.x2 rfl rfl) Zcy))⟩
   refine ZcW u ?_;refine Qbr [] rfl rfl ?_;refine ZcW (Zc1 u G) ?_;refine cp J ?_;refine ZcW (Zc2 u G hg1) ?_;refine⟨trivial,?_⟩;exact⟨(),[(50,.blk 50 0),(51,.blk 51 0),(52,.blk 52 0)],rfl,Zcx,ZcB rfl rfl gg (Zcr P) (ZcB rfl rfl gg (Zcr rfl) (ZcB rfl rfl gg (Zcr (by simp only[noRefs,noRef,Qad];rfl)) ZcA)),Zcz (Rn.x2 rfl rfl) (Zcz (Rn.x2 rfl rfl) (Zcz (Rn.x2 rfl rfl) Zcy))⟩
  rw[if_neg f]at hk;have hne:¬((rmD r.rem v.st).reason:Int)=1/\¬((rmD r.rem v.st).reason:Int)=3:=by unfold rmD;cases C:remAt r.rem v.st with|none=>exact⟨by show¬((0:Nat):Int)=1;omega,by show¬((0:Nat):Int)=3;omega⟩|some z=>
   rw[Qlr C]at f;have h2:z.reason=2:=by simpa using f
   show¬(z.reason:Int)=1/\¬(z.reason:Int)=3;omega
  obtain⟨hne1,hne3⟩:=hne;have hrl0:v.run.length<=1000000:=by have:=QrJ hl i v U;omega
  have hCl:=clone56 v.run hrl0;have hrl1:(ints (nz v.run)).length=v.run.length:=by simp[ints]
  have hEl:q.al.length<=32:=Qb4 hw;have hLE:=fun j=>hl.exts (a:=q) (i:=i) (v:=v) (es:=(q.al.take j).filter fun e=>(stepA q.es v.st e).isSome&&(uncL c.ev 5).contains e) U fun e he=>Qjq hw (u:=uncL c.ev 5) (ZaL.2 ⟨ZaQ (ZaL.1 he).1,(ZaL.1 he).2⟩);have hfin:extL q i v l (ucE q (uncL c.ev 5) v.st)=xtE q (uncL c.ev 5) i v l q.al:=rfl;rw[hfin]at hk;refine ZcW u ?_;refine Qbr [] rfl rfl ?_;refine ZcW (Zc1 u G) ?_;refine cp J ?_;refine ZcW (Zc1 hne1 hne3) ?_;refine⟨trivial,?_⟩;refine Qaq 160 (fun j:Nat=>[(3,.ptr 50 0 0),(6,.ptr 51 0 0),(7,.ptr 52 0 0),(8,.sl 60 0 0 (xtE q (uncL c.ev 5) i v l (q.al.take j)).length 2),(9,.int .i64 (i:Int)),(64,sliN q.al),(65,.int .i64 q.al.length),(66,.int .i64 j)]) (fun j=>[(50,.cells 0 (wldP c q TA TB X F r)),(51,.cells 0 x14),(52,.cells 0 [.int .i64 4,.int .i64 (s:Int),.int .i64 (A.st:Int),.int .i64 (-1),.nilsl,.int .i64 0,.int .i64 0,.int .i64 0,.int .i64 0,.int .i64 0,.int .i64 0,.int .i64 0,.int .i64 0,.int .i64 0]),(60,.cells 0 ((xtE q (uncL c.ev 5) i v l (q.al.take j)).flatMap plC))]) (fun j=>j<=q.al.length) (fun j=>q.al.length-j) 0 2 400 (fun _:Unit=>[(3,.ptr 50 0 0),(6,.ptr 51 0 0),(7,.ptr 52 0 0),(8,.sl 60 0 0 (xtE q (uncL c.ev 5) i v l q.al).length 2),(9,.int .i64 (i:Int))]) (fun _=>[(50,.cells 0 (wldP c q TA TB X F r)),(51,.cells 0 x14),(52,.cells 0 [.int .i64 4,.int .i64 (s:Int),.int .i64 (A.st:Int),.int .i64 (-1),.nilsl,.int .i64 0,.int .i64 0,.int .i64 0,.int .i64 0,.int .i64 0,.int .i64 0,.int .i64 0,.int .i64 0,.int .i64 0]),(60,.cells 0 ((xtE q (uncL c.ev 5) i v l q.al).flatMap plC))]) (fun _=>True) ?_ (Zah _) ?_ ?_;·exact⟨[(50,.blk 50 0),(51,.blk 51 0),(52,.blk 52 0),(60,.blk 60 0)],rfl,Zcx,ZcB rfl rfl gg (Zcr P) (ZcB rfl rfl gg (Zcr rfl) (ZcB rfl rfl gg (Zcr rfl) (ZcB rfl rfl gg (Zcr (Qcc _)) ZcA))),Zcz (Rn.x2 rfl rfl) (Zcz (Rn.x2 rfl rfl) (Zcz (Rn.x2 rfl rfl) (Zcz (Rn.x1 rfl rfl) (Zcz (Zcq rfl) (Zcz (Zcq M) au29)))))⟩
  ·rintro j hj;by_cases g:j<q.al.length;·obtain⟨e,he⟩:=Qap g;have hem:=Zae he;have H:=hq5 e hem;have m:=hSt v.st e;rw[Qfv]at m;have hv':(xtE q (uncL c.ev 5) i v l (q.al.take j))[i]?=some v:=Qj3 U;obtain⟨hL1,_⟩:=hLE j;have o:=QsT (q:=q) (u:=uncL c.ev 5) (i:=i) (v:=v) (l:=l) he;change LOk q.n (xtE q (uncL c.ev 5) i v l (q.al.take j))at hL1;generalize xtE q (uncL c.ev 5) i v l (q.al.take j)=l' at*;have w:=(Zag.1 hv').1;obtain⟨E,hg1'⟩:=pl_at hv';have L:=QdW l';have hl'l:=hL1.len;cases B:stepA q.es v.st e with|none=>rw[B]at m;dsimp only at m;refine ZcW (Zc1 g (Qaz he)) ?_;refine Qbr [] rfl rfl ?_;refine ZcW (Zc1 w E) ?_;refine cp m ?_;refine ZcV ?_;refine⟨trivial,?_⟩;refine⟨j+1,by omega,by omega,?_⟩;rw[o,B,if_neg (by simp)];exact⟨[(50,.blk 50 0),(51,.blk 51 0),(52,.blk 52 0),(60,.blk 60 0)],rfl,Zcx,ZcB rfl rfl gg (Zcr P) (ZcB rfl rfl gg (Zcr rfl) (ZcB rfl rfl gg (Zcr rfl) (ZcB rfl rfl gg (Zcr (Qcc _)) ZcA))),Zcz (Rn.x2 rfl rfl) (Zcz (Rn.x2 rfl rfl) (Zcz (Rn.x2 rfl rfl) (Zcz (Rn.x1 rfl rfl) (Zcz (Zcq rfl) (Zcz (Zcq M) au29)))))⟩|some to=>
    rw[B]at m;dsimp only at m;have Y:¬(to:Int)<0:=by omega
    have hta:toA q v.st e=to:=by unfold toA;rw[B];rfl
    have p:=QeN (f:=c.ev) H;have hdl:e*5+5<=(evsC c.ev).length:=by rw[Qfm];omega
    have N:(e:Int)<5:=by omega
    by_cases Q:(c.ev e).c=true
    ·have hu:(uncL c.ev 5).contains e=false:=by rw[ZaA];intro hm;have:=(ZaL.1 (ZaG.1 hm)).2;rw[Q]at this;cases this
     refine ZcW (Zc1 g (Qaz he)) ?_;refine Qbr [] rfl rfl ?_;refine ZcW (Zc1 w E) ?_;refine cp m ?_;simp(disch:=first|omega|exact PairsOK.mk rfl|(simp only[lenW]<;>omega))only[Y,N,H,p,evC,Q,Qaa,Qab,Qac,wW,wV,simprocAttr];refine⟨trivial,?_⟩;refine⟨j+1,by omega,by omega,?_⟩;rw[o,B,hu,if_neg (by simp)];exact⟨[(50,.blk 50 0),(51,.blk 51 0),(52,.blk 52 0),(60,.blk 60 0)],rfl,Zcx,ZcB rfl rfl gg (Zcr P) (ZcB rfl rfl gg (Zcr rfl) (ZcB rfl rfl gg (Zcr rfl) (ZcB rfl rfl gg (Zcr (Qcc _)) ZcA))),Zcz (Rn.x2 rfl rfl) (Zcz (Rn.x2 rfl rfl) (Zcz (Rn.x2 rfl rfl) (Zcz (Rn.x1 rfl rfl) (Zcz (Zcq rfl) (Zcz (Zcq M) au29)))))⟩
    have hu:(uncL c.ev 5).contains e=true:=ZaG.2 (ZaL.2 ⟨Zat.2 H,by simp[Q]⟩);have V:(c.ev e).c=false:=by simpa using Q
    have hC:=contains93 l' to (by omega);by_cases hm:to∈l'.map (·.st);·rw[decide_eq_true hm]at hC;refine ZcW (Zc1 g (Qaz he)) ?_;refine Qbr [] rfl rfl ?_;refine ZcW (Zc1 w E) ?_;refine cp m ?_;simp(disch:=first|omega|exact PairsOK.mk rfl|(simp only[lenW]<;>omega))only[Y,N,H,p,evC,V,Qaa,Qab,Qac,wW,wV,simprocAttr];refine⟨trivial,?_⟩;refine SU.chc (ZcL (ZcO (FrzTo.all gg L) (ZcO (FrzTo.fn ZcN (ZcO (ZcK (g:=0) (cs:=[.int .i64 (to:Int)]) gg (Zcw _)) ZcN)) ZcN)) hC rfl) ?_;refine ZcV ?_;refine⟨j+1,by omega,by omega,?_⟩;rw[o,B,hu,if_pos (by rfl)];unfold ext1;rw[hta,if_pos hm];exact⟨[(50,.blk 50 0),(51,.blk 51 0),(52,.blk 52 0),(60,.blk 60 0)],rfl,Zcx,ZcB rfl rfl gg (Zcr P) (ZcB rfl rfl gg (Zcr rfl) (ZcB rfl rfl gg (Zcr rfl) (ZcB rfl rfl gg (Zcr (Qcc _)) ZcA))),Zcz (Rn.x2 rfl rfl) (Zcz (Rn.x2 rfl rfl) (Zcz (Rn.x2 rfl rfl) (Zcz (Rn.x1 rfl rfl) (Zcz (Zcq rfl) (Zcz (Zcq M) au29)))))⟩
    rw[decide_eq_false hm]at hC;refine ZcW (Zc1 g (Qaz he)) ?_;refine Qbr [] rfl rfl ?_;refine ZcW (Zc1 w E) ?_;refine cp m ?_;simp(disch:=first|omega|exact PairsOK.mk rfl|(simp only[lenW]<;>omega))only[Y,N,H,p,evC,V,Qaa,Qab,Qac,wW,wV,simprocAttr];refine⟨trivial,?_⟩;refine SU.chc (ZcL (ZcO (FrzTo.all gg L) (ZcO (FrzTo.fn ZcN (ZcO (ZcK (g:=0) (cs:=[.int .i64 (to:Int)]) gg (Zcw _)) ZcN)) ZcN)) hC rfl) ?_;refine ZcV ?_;refine Qf3 [(103,[199])] 7 (x:=.f 41) (ag:=[.t 102]) (d:=some 103) rfl rfl rfl ?_;refine ZcW (Zc1 w hg1') ?_;refine⟨41,ints (nz v.run),v.run.length,1,rfl,⟨hCl.1,by show noRefs [sliN v.run]=true;rw[noRefs,Qae];rfl,83,0,0,_,_,rfl,Zah _,gg,hCl⟩,Qad _,by decide,gg,?_⟩;refine ZcW (Zc1 L hrl1) ?_;refine⟨⟨⟨_,rfl,fun b hb=>hb⟩,trivial⟩,?_⟩;refine⟨j+1,by omega,by omega,?_⟩;rw[o,B,hu,if_pos (by rfl)];unfold ext1;rw[hta,if_neg hm,Zaq,Zaf];have hse:ints (nz (v.run++[e]))=ints (nz v.run)++[.int .i64 (e:Int)]:=by simp[ints,nz]
    refine⟨[(50,.blk 50 0),(51,.blk 51 0),(52,.blk 52 0),(60,.blk 60 1)],rfl,Zcx,ZcB rfl rfl gg (Zcr P) (ZcB rfl rfl gg (Zcr rfl) (ZcB rfl rfl gg (Zcr rfl) (ZcB rfl rfl gg (RnL.append (Zcr (Qcc _)) (ZcH (Zcq rfl) (ZcH ?_ ZcG))) ZcA))),Zcz (Rn.x2 rfl rfl) (Zcz (Rn.x2 rfl rfl) (Zcz (Rn.x2 rfl rfl) (Zcz (Rn.x1 rfl rfl) (Zcz (Zcq rfl) (Zcz (Zcq M) au29)))))⟩;exact ZcI (b:=199) (g:=1) gg rfl rfl (by simp) (by simp[ints]) (RnL.eq hse (Qad _))
   have e:j=q.al.length:=by omega
   subst e;refine ZcY g ?_;exact⟨(),[(50,.blk 50 0),(51,.blk 51 0),(52,.blk 52 0),(60,.blk 60 0)],rfl,Zcx,ZcB rfl rfl gg (Zcr P) (ZcB rfl rfl gg (Zcr rfl) (ZcB rfl rfl gg (Zcr rfl) (ZcB rfl rfl gg (Zcr (Qcc _)) ZcA))),Zcz (Rn.x2 rfl rfl) (Zcz (Rn.x2 rfl rfl) (Zcz (Rn.x2 rfl rfl) (Zcz (Rn.x1 rfl rfl) (Zcz (Zcq rfl) Zcy))))⟩
  rintro _ _;refine ZcV ?_;have hle:=hLE q.al.length;rw[Zar]at hle;refine⟨(i+1,xtE q (uncL c.ev 5) i v l q.al),by dsimp only;have:=hle.1.len;omega,⟨hle.1,_,hk⟩,?_⟩;exact⟨[(50,.blk 50 0),(51,.blk 51 0),(52,.blk 52 0),(60,.blk 60 0)],rfl,Zcx,ZcB rfl rfl gg (Zcr P) (ZcB rfl rfl gg (Zcr rfl) (ZcB rfl rfl gg (Zcr rfl) (ZcB rfl rfl gg (Zcr (Qcc _)) ZcA))),Zcz (Rn.x2 rfl rfl) (Zcz (Rn.x2 rfl rfl) (Zcz (Rn.x2 rfl rfl) (Zcz (Rn.x1 rfl rfl) au29)))⟩
 rintro _ _;have hz3:∃z,remAt r.rem t=some z/\(z.reason=1\/z.reason=3):=by unfold badS at d;cases C:remAt r.rem t with|none=>rw[C]at d;cases d|some z=>
  rw[C]at d;replace d:(!Nat.beq z.reason 2)=true:=d;have h3:z.reason≠2:=fun e=>by rw[e]at d;exact absurd d (by decide)
  have:=h.R.re z (QcA C).1;exact⟨z,rfl,by omega⟩
 obtain⟨z,C,K⟩:=hz3;have hD:rmD r.rem t=z:=by unfold rmD;rw[C];rfl
 rw[hD];have hnr:=Qae I;have Z:=Qc2 F;have hFl:=h.Fl;obtain⟨R,S,zc,T⟩:=z;dsimp only at K⊢;rcases K with rfl|rfl
 ·rw[if_pos rfl];have hlast:=Qnm (t:=t) rs00 h.F1;have hra:rsnAt F t=F.foldl (fun a y=>if y.1=t then y else a) rs00:=hlast.symm;rw[hra];refine ZcV ?_;refine Qaq 160 (fun i:Nat=>[(6,.ptr 51 0 0),(7,.ptr 52 0 0),(117,rss F),(118,.int .i64 F.length),(119,.int .i64 i)]) (fun i=>[(51,.cells 0 x14),(52,.cells 0 (expC ⟨4,s,A.st,-1,I,t,⟨R,S,1,T⟩,(F.take i).foldl (fun a y=>if y.1=t then y else a) rs00⟩))]) (fun i=>i<=F.length) (fun i=>F.length-i) 0 4 300 (fun _:Unit=>[(6,.ptr 51 0 0),(7,.ptr 52 0 0)]) (fun _=>[(51,.cells 0 x14),(52,.cells 0 (expC ⟨4,s,A.st,-1,I,t,⟨R,S,1,T⟩,F.foldl (fun a y=>if y.1=t then y else a) rs00⟩))]) (fun _=>True) ?_ (Zah _) ?_ ?_;·exact⟨[(51,.blk 51 0),(52,.blk 52 0)],rfl,Zcx,ZcB rfl rfl gg (Zcr rfl) (ZcB rfl rfl gg (Zcr (Qch ⟨4,s,A.st,-1,I,t,⟨R,S,1,T⟩,rs00⟩)) ZcA),Zcz (Rn.x2 rfl rfl) (Zcz (Rn.x2 rfl rfl) (Zcz (Zcq Z) au29))⟩
  ·rintro i hi;by_cases g:i<F.length
   ·obtain⟨y,hy⟩:=Qap g;have p:=Qf9 hy;have hdl:4<=((F.flatMap rsC).drop (i*4)).length:=by rw[p];simp
    have o:(F.take (i+1)).foldl (fun a y=>if y.1=t then y else a) rs00=if y.1=t then y else(F.take i).foldl (fun a y=>if y.1=t then y else a) rs00:=by rw[take_succ' hy,Za4];rfl
    generalize(F.take i).foldl (fun a y=>if y.1=t then y else a) rs00=acc at*;by_cases e:y.1=t;·rw[if_pos e]at o;obtain⟨ya,yb,yc,yd⟩:=y;dsimp only at e p;subst e;refine ZcW (Zc2 g p hdl) ?_;refine⟨i+1,by omega,by omega,?_⟩;rw[o,show((i+1:Nat):Int)=(i:Int)+1 by omega];exact⟨[(51,.blk 51 0),(52,.blk 52 0)],rfl,Zcx,ZcB rfl rfl gg (Zcr rfl) (ZcB rfl rfl gg (Zcr (Qch ⟨4,s,A.st,-1,I,ya,⟨R,S,1,T⟩,(ya,yb,yc,yd)⟩)) ZcA),Zcz (Rn.x2 rfl rfl) (Zcz (Rn.x2 rfl rfl) (Zcz (Zcq Z) (Zcz (Zcq rfl) (Zcz (Zcq rfl) Zcy))))⟩
    have e':¬(y.1:Int)=(t:Int):=by omega
    rw[if_neg e]at o;refine ZcW (Zc3 g p hdl e') ?_;refine⟨i+1,by omega,by omega,?_⟩;rw[o,show((i+1:Nat):Int)=(i:Int)+1 by omega];exact⟨[(51,.blk 51 0),(52,.blk 52 0)],rfl,Zcx,ZcB rfl rfl gg (Zcr rfl) (ZcB rfl rfl gg (Zcr (Qch ⟨4,s,A.st,-1,I,t,⟨R,S,1,T⟩,acc⟩)) ZcA),Zcz (Rn.x2 rfl rfl) (Zcz (Rn.x2 rfl rfl) (Zcz (Zcq Z) (Zcz (Zcq rfl) (Zcz (Zcq rfl) Zcy))))⟩
   have e:i=F.length:=by omega
   subst e;refine ZcY g ?_;exact⟨(),[(51,.blk 51 0),(52,.blk 52 0)],rfl,Zcx,ZcB rfl rfl gg (Zcr rfl) (ZcB rfl rfl gg (Zcr (Qch _)) ZcA),Zcz (Rn.x2 rfl rfl) (Zcz (Rn.x2 rfl rfl) Zcy)⟩
  rintro _ _;generalize F.foldl (fun a y=>if y.1=t then y else a) rs00=acc at*;refine ZcV ?_;refine⟨.inr trivial,_,rfl,Zcq ?_⟩;exact Qa5 ⟨4,s,A.st,-1,I,t,⟨R,S,1,T⟩,acc⟩
 rw[if_neg (by decide)];refine ZcV ?_;refine⟨.inr trivial,_,rfl,Zcq ?_⟩;exact Qa5 ⟨4,s,A.st,-1,I,t,⟨R,S,3,T⟩,rs00⟩
theorem contains39(l:List Nat)(e:Nat)(f:l.length<=1000000):Pq 39 [sliN l,.int .i64 (e:Int)] (.bool (l.contains e)):=by
 have b:=contains62 (nz l) (e:Int) (by simp[nz];omega);have hm:decide ((e:Int)∈nz l)=l.contains e:=by
  rw[Zby,decide_eq_true_eq,ZaG];constructor
  ·intro a;obtain⟨y,c,d⟩:=Zan.1 a;have:y=e:=by omega
   rw[<-this];exact c
  intro a;exact Zan.2 ⟨e,a,rfl⟩
 rw[hm,Qbn]at b;exact b
def anyC(l:List (Nat×Aut))(e:Nat):Bool:=l.any fun x=>x.2.al.contains e
theorem QrL{l:List (Nat×Aut)}{i e:Nat}{x:Nat×Aut}(h:l[i]?=some x):anyC (l.take (i+1)) e=(anyC (l.take i) e||x.2.al.contains e):=by unfold anyC;rw[take_succ' h,List.any_append];simp
abbrev x2(v:Nat):List AV:=[.int .i64 0,.int .i64 (v:Int),.int .i64 (-1),.int .i64 (-1),.nilsl,.int .i64 (-1),.int .i64 0,.int .i64 0,.int .i64 0,.int .i64 0,.int .i64 0,.int .i64 0,.int .i64 0,.int .i64 0]
theorem rnx{m:Nat}{π:Nat->Option Src}{h:Heap}(k s n r e:Int):Rn m π h (expV ⟨k,s,n,r,[],e,rm00,rs00⟩) (.agg [.int .i64 k,.int .i64 s,.int .i64 n,.int .i64 r,.nilsl,.int .i64 e,.int .i64 0,.int .i64 0,.int .i64 0,.int .i64 0,.int .i64 0,.int .i64 0,.int .i64 0,.int .i64 0]):=Rn.agg (ZcH (Zcq rfl) (ZcH (Zcq rfl) (ZcH (Zcq rfl) (ZcH (Zcq rfl) (ZcH Rn.frznil (Zcr rfl))))))
theorem event35{c:Cel}{q:Aut}{TA TB:List (List Nat)}{X:List Nat}{F:List (Nat×Int×Int×Int)}{r:Res}{left:Nat->Bool}(h:StOk c q left F r (uncL c.ev 5))(hq5:∀x∈q.al,x<5)(hc3:c.cs.length<=3)(hr2:c.rs.length<=2)(hca:∀x∈c.cs,WfI x.2)(hra:∀x∈c.rs,WfI x.2){v:Nat}(e:Nat)(hv:v<q.n){I m:List Nat}(hta:TA[v]?=some I)(htal:I.length=c.cs.length)(htb:TB[v]?=some m)(htbl:m.length=c.rs.length){V:Bool}(S:V=true↔anyC c.cs e=true/\∀(i:Nat)x,c.cs[i]?=some x->x.2.al.contains e=true->(stepA x.2.es (I.getD i 0) e).isSome=true)(hq:V=true->rfI c m e<0->(stepA q.es v e).isSome=true):Pq 35 [.agg (wldP c q TA TB X F r),.int .i64 (v:Int),.int .i64 (e:Int)] (expV (eventG q (uncL c.ev 5) r.rem F V (rfI c m e) v e)):=by
 have K:=@nrW c q TA TB X F r;refine Zct 64 XK.ok35 rfl (by rw[noRefs,nrW1];rfl) (Qa5 _) ?_;have T:=@SU.QaC 99 c.cs;have P:=@SU.QaC 114 c.rs;have hel:=WfA.el1 h.w;have J:=(Zag.1 hta).1;have M:=(Zag.1 htb).1;have Y:=Qfr hta;have Z:=Qfr htb;unfold XK.s35;refine ZcV ?_;refine Qaq 160 (fun i:Nat=>[(1,.int .i64 (v:Int)),(2,.int .i64 (e:Int)),(3,.ptr 50 0 0),(6,.ptr 51 0 0),(7,.ptr 52 0 0),(8,.bool (anyC (c.cs.take i) e)),(19,its 99 c.cs),(20,.int .i64 c.cs.length),(21,.int .i64 i)]) (fun i=>[(50,.cells 0 (wldP c q TA TB X F r)),(51,.cells 0 x14),(52,.cells 0 (x2 v))]) (fun i=>i<=c.cs.length/\∀(j:Nat)x,j<i->c.cs[j]?=some x->x.2.al.contains e=true->(stepA x.2.es (I.getD j 0) e).isSome=true) (fun i=>c.cs.length-i) 0 0 300 (fun _:Unit=>[(1,.int .i64 (v:Int)),(2,.int .i64 (e:Int)),(3,.ptr 50 0 0),(6,.ptr 51 0 0),(7,.ptr 52 0 0),(8,.bool (anyC c.cs e))]) (fun _=>[(50,.cells 0 (wldP c q TA TB X F r)),(51,.cells 0 x14),(52,.cells 0 (x2 v))]) (fun _=>∀(j:Nat)x,c.cs[j]?=some x->x.2.al.contains e=true->(stepA x.2.es (I.getD j 0) e).isSome=true) ?_ ⟨Zah _,fun j x hj=>absurd hj (ZaC _)⟩ ?_ ?_;·exact⟨[(50,.blk 64 0),(51,.blk 65 0),(52,.blk 68 0)],rfl,Zcx,ZcB rfl rfl gg (Zcr K) (ZcB rfl rfl gg (Zcr rfl) (ZcB rfl rfl gg (Zcr rfl) ZcA)),Zcz (Zcq rfl) (Zcz (Zcq rfl) (Zcz (Rn.x2 rfl rfl) (Zcz (Rn.x2 rfl rfl) (Zcz (Rn.x2 rfl rfl) (Zcz (Zcq rfl) (Zcz (Zcq T) au29))))))⟩
 ·rintro i⟨hi,hb⟩;by_cases b:i<c.cs.length
  ·obtain⟨x,o⟩:=Qap b;have B:=hca x (Zae o);have f:=SU.Qcq (ch:=99) o;have l:5<=((c.cs.flatMap (itC 99)).drop (i*5)).length:=by rw[f];simp
   have k:i<I.length:=by omega
   obtain⟨w,hw⟩:=Qap k;have E:I.getD i 0=w:=by rw[Zak,hw];rfl
   have z:=contains39 x.2.al e (by have:=Qb4 B.wf;omega);have a:=step38 x.2 w e (by have:=WfA.el1 B.wf;omega);rw[Qfv]at a;have p:=QrL (e:=e) o;have g:(x.2.al.contains e=true->(stepA x.2.es w e).isSome=true)->i+1<=c.cs.length/\∀(j:Nat)y,j<i+1->c.cs[j]?=some y->y.2.al.contains e=true->(stepA y.2.es (I.getD j 0) e).isSome=true:=fun q=>⟨by omega,fun j y hj Q=>by
    by_cases e2:j=i;·subst e2;rw[o]at Q;cases Q;rw[E];exact q
    exact hb j y (by omega) Q⟩;cases t:x.2.al.contains e with
   |false=>rw[t]at z p g;rw[Bool.or_false]at p;generalize anyC (c.cs.take i) e=pp at*;refine ZcW (Zc2 b f l) ?_;refine cp z ?_;refine ZcV ?_;refine⟨i+1,by omega,g (fun h=>by cases h),?_⟩;rw[p];exact⟨[(50,.blk 50 0),(51,.blk 51 0),(52,.blk 52 0)],rfl,Zcx,ZcB rfl rfl gg (Zcr K) (ZcB rfl rfl gg (Zcr rfl) (ZcB rfl rfl gg (Zcr rfl) ZcA)),Zcz (Zcq rfl) (Zcz (Zcq rfl) (Zcz (Rn.x2 rfl rfl) (Zcz (Rn.x2 rfl rfl) (Zcz (Rn.x2 rfl rfl) (Zcz (Zcq rfl) (Zcz (Zcq T) au29))))))⟩
   |true=>rw[t]at z p g;rw[Bool.or_true]at p;cases s:stepA x.2.es w e with|none=>
    rw[s]at a;dsimp only at a;have R:V=false:=by rw[ZaA];intro hp;have:=(S.1 hp).2 i x o t;rw[E,s]at this;cases this
    rw[R];refine ZcW (Zc2 b f l) ?_;refine cp z ?_;refine ZcW (Zc3 J Y k (Qaz hw)) ?_;refine cp a ?_;refine ZcV ?_;exact⟨.inr trivial,_,rfl,rnx 2 v (-1) (-1) (-1)⟩|some to=>
    rw[s]at a g;dsimp only at a;have N:¬(to:Int)<0:=by omega
    refine ZcW (Zc2 b f l) ?_;refine cp z ?_;refine ZcW (Zc3 J Y k (Qaz hw)) ?_;refine cp a ?_;refine ZcW N ?_;refine⟨i+1,by omega,g (fun _=>rfl),?_⟩;rw[p];exact⟨[(50,.blk 50 0),(51,.blk 51 0),(52,.blk 52 0)],rfl,Zcx,ZcB rfl rfl gg (Zcr K) (ZcB rfl rfl gg (Zcr rfl) (ZcB rfl rfl gg (Zcr rfl) ZcA)),Zcz (Zcq rfl) (Zcz (Zcq rfl) (Zcz (Rn.x2 rfl rfl) (Zcz (Rn.x2 rfl rfl) (Zcz (Rn.x2 rfl rfl) (Zcz (Zcq rfl) (Zcz (Zcq T) au29))))))⟩
  have e:i=c.cs.length:=by omega
  subst e;refine ZcY b ?_;refine⟨(),fun j x o=>hb j x (Zag.1 o).1 o,?_⟩;exact⟨[(50,.blk 50 0),(51,.blk 51 0),(52,.blk 52 0)],rfl,Zcx,ZcB rfl rfl gg (Zcr K) (ZcB rfl rfl gg (Zcr rfl) (ZcB rfl rfl gg (Zcr rfl) ZcA)),Zcz (Zcq rfl) (Zcz (Zcq rfl) (Zcz (Rn.x2 rfl rfl) (Zcz (Rn.x2 rfl rfl) (Zcz (Rn.x2 rfl rfl) (Zcz (Zcq rfl) Zcy)))))⟩
 rintro _ hb;cases hac:anyC c.cs e with|false=>
  have R:V=false:=by rw[ZaA];intro hp;have:=(S.1 hp).1;rw[hac]at this;cases this
  rw[R];refine ZcV ?_;exact⟨.inr trivial,_,rfl,rnx 2 v (-1) (-1) (-1)⟩|true=>
  have hpt:V=true:=S.2 ⟨hac,hb⟩;subst hpt;have hqt:=hq rfl;refine ZcV ?_;refine Qaq 160 (fun i:Nat=>[(1,.int .i64 (v:Int)),(2,.int .i64 (e:Int)),(3,.ptr 50 0 0),(6,.ptr 51 0 0),(7,.ptr 52 0 0),(54,its 114 c.rs),(55,.int .i64 c.rs.length),(56,.int .i64 i)]) (fun i=>[(50,.cells 0 (wldP c q TA TB X F r)),(51,.cells 0 x14),(52,.cells 0 (x2 v))]) (fun i=>i<=c.rs.length/\∀(j:Nat)y,j<i->(List.range c.rs.length)[j]?=some y->rfQ c m e y=false) (fun i=>c.rs.length-i) 0 2 300 (fun _:Unit=>[(1,.int .i64 (v:Int)),(2,.int .i64 (e:Int)),(3,.ptr 50 0 0),(6,.ptr 51 0 0),(7,.ptr 52 0 0)]) (fun _=>[(50,.cells 0 (wldP c q TA TB X F r)),(51,.cells 0 x14),(52,.cells 0 (x2 v))]) (fun _=>∀x∈List.range c.rs.length,rfQ c m e x=false) ?_ ⟨Zah _,fun j x hj=>absurd hj (ZaC _)⟩ ?_ ?_;·exact⟨[(50,.blk 50 0),(51,.blk 51 0),(52,.blk 52 0)],rfl,Zcx,ZcB rfl rfl gg (Zcr K) (ZcB rfl rfl gg (Zcr rfl) (ZcB rfl rfl gg (Zcr rfl) ZcA)),Zcz (Zcq rfl) (Zcz (Zcq rfl) (Zcz (Rn.x2 rfl rfl) (Zcz (Rn.x2 rfl rfl) (Zcz (Rn.x2 rfl rfl) (Zcz (Zcq P) au29)))))⟩
  ·rintro i⟨hi,u⟩;by_cases b:i<c.rs.length
   ·obtain⟨x,o⟩:=Qap b;have B:=hra x (Zae o);have f:=SU.Qcq (ch:=114) o;have l:5<=((c.rs.flatMap (itC 114)).drop (i*5)).length:=by rw[f];simp
    have k:i<m.length:=by omega
    obtain⟨w,hw⟩:=Qap k;have E:m.getD i 0=w:=by rw[Zak,hw];rfl
    have H:(List.range c.rs.length)[i]?=some i:=by simp[b]
    have z:=contains39 x.2.al e (by have:=Qb4 B.wf;omega);have a:=step38 x.2 w e (by have:=WfA.el1 B.wf;omega);rw[Qfv]at a;have d:rfQ c m e i=(x.2.al.contains e&&(stepA x.2.es w e).isNone):=by unfold rfQ;rw[o];dsimp only;rw[E]
    have g:∀q:rfQ c m e i=false,i+1<=c.rs.length/\∀(j:Nat)y,j<i+1->(List.range c.rs.length)[j]?=some y->rfQ c m e y=false:=fun q=>⟨by omega,fun j y hj Q=>by
     by_cases e2:j=i;·subst e2;rw[H]at Q;cases Q;exact q
     exact u j y (by omega) Q⟩;cases t:x.2.al.contains e with
    |false=>rw[t]at z d;rw[Zcd]at d;refine ZcW (Zc2 b f l) ?_;refine cp z ?_;refine ZcV ?_;refine⟨i+1,by omega,g d,?_⟩;exact⟨[(50,.blk 50 0),(51,.blk 51 0),(52,.blk 52 0)],rfl,Zcx,ZcB rfl rfl gg (Zcr K) (ZcB rfl rfl gg (Zcr rfl) (ZcB rfl rfl gg (Zcr rfl) ZcA)),Zcz (Zcq rfl) (Zcz (Zcq rfl) (Zcz (Rn.x2 rfl rfl) (Zcz (Rn.x2 rfl rfl) (Zcz (Rn.x2 rfl rfl) (Zcz (Zcq P) au29)))))⟩
    |true=>rw[t]at z d;rw[Zai]at d;cases s:stepA x.2.es w e with|none=>
     rw[s]at a d;dsimp only at a;refine ZcW (Zc2 b f l) ?_;refine cp z ?_;refine ZcW (Zc3 M Z k (Qaz hw)) ?_;refine cp a ?_;refine ZcV ?_;have U:rfI c m e=(i:Int):=by unfold rfI;rw[QcI H d u]
     refine⟨.inr trivial,_,rfl,?_⟩;unfold eventG;rw[if_pos rfl,U,if_pos (by omega)];exact rnx 3 v (-1) i (-1)|some to=>
     rw[s]at a d;dsimp only at a;have N:¬(to:Int)<0:=by omega
     refine ZcW (Zc2 b f l) ?_;refine cp z ?_;refine ZcW (Zc3 M Z k (Qaz hw)) ?_;refine cp a ?_;refine ZcW N ?_;refine⟨i+1,by omega,g d,?_⟩;exact⟨[(50,.blk 50 0),(51,.blk 51 0),(52,.blk 52 0)],rfl,Zcx,ZcB rfl rfl gg (Zcr K) (ZcB rfl rfl gg (Zcr rfl) (ZcB rfl rfl gg (Zcr rfl) ZcA)),Zcz (Zcq rfl) (Zcz (Zcq rfl) (Zcz (Rn.x2 rfl rfl) (Zcz (Rn.x2 rfl rfl) (Zcz (Rn.x2 rfl rfl) (Zcz (Zcq P) au29)))))⟩
   have e:i=c.rs.length:=by omega
   subst e;refine ZcW b ?_;refine⟨(),fun x o=>?_,?_⟩;·have :=Zat.1 o;exact u x x (by omega) (by simp[this])
   exact⟨[(50,.blk 50 0),(51,.blk 51 0),(52,.blk 52 0)],rfl,Zcx,ZcB rfl rfl gg (Zcr K) (ZcB rfl rfl gg (Zcr rfl) (ZcB rfl rfl gg (Zcr rfl) ZcA)),Zcz (Zcq rfl) (Zcz (Zcq rfl) (Zcz (Rn.x2 rfl rfl) (Zcz (Rn.x2 rfl rfl) (Zcz (Rn.x2 rfl rfl) Zcy))))⟩
  rintro _ u;have U:rfI c m e=-1:=by unfold rfI;rw[QbV u]
  obtain⟨n,hn⟩:=Za9.1 (hqt (by omega));have C:=step38 q v e (by omega);rw[Qfv,hn]at C;dsimp only at C;have G:=@removal43 c q TA TB X F r h.rl n;have hev:eventG q (uncL c.ev 5) r.rem F true (rfI c m e) v e=if(remAt r.rem n).isSome=true then leadsG q (uncL c.ev 5) r.rem F v n else⟨1,v,n,-1,[],-1,rm00,rs00⟩:=by unfold eventG;rw[if_pos rfl,U,if_neg (by decide),hn];rfl
  rw[hev];by_cases A:(remAt r.rem n).isSome=true;·obtain⟨y,hm⟩:=Za9.1 A;rw[if_pos A];rw[A]at G;have hL:=@leads44 c q TA TB X F r left h hq5 v n y hm;generalize leadsG q (uncL c.ev 5) r.rem F v n=L at*;have hnL:=Qa5 L;refine ZcV ?_;refine cp C ?_;refine ZcV ?_;refine cp G ?_;refine ZcV ?_;refine cp hL ?_;refine ZcV ?_;exact⟨.inr trivial,_,rfl,Zcq hnL⟩
  rw[if_neg A];have hmf:(remAt r.rem n).isSome=false:=by simpa using A
  rw[hmf]at G;refine ZcV ?_;refine cp C ?_;refine ZcV ?_;refine cp G ?_;refine ZcV ?_;exact⟨.inr trivial,_,rfl,rnx 1 v n (-1) (-1)⟩
end Go.AM.SO
namespace Go.AM.XL
open Go.Proofs
set_option maxHeartbeats 4000000
noncomputable section
def cf:YA.Cf:={most:=.pure,always:=[39,40,41,45,46].map fun k=>(k,.heap)}
def s6:SFn:=by
 refine(?f:YA.Yt Tryz.prog cf 6 [[0,6],[18,19,20,21,22,23,24,25,26,27,28],[1,2,3,29,30],[6,3,29,32,33,31,34,35],[8,36],[1,2,7,37],[6,1,37,39,40,41,38,42,43],[45,46,47,48,49,44,50,51],[9,53,54,55,56,52,57,58],[59,60,61,62],[2,7,10,11,12,13,14,63,64,65,66,67,68,69,70,71,72,73,74,75,76,77,78,79],[6,63],[80,81,82],[],[85,86],[87,88,89,90,91],[17,92,93,94],[16,97,98,99,100,101],[16,97,102],[13,14,15,83,84,96,95,109,108,106,107,103,104,105],[2,7,10,11,12,125,124,135,130,134,131,132,133,119,114,118,117,116,115,110],[6,119,114,118,117,116,115,110,111,112,113],[2,7,10,11,12,125,124,135,130,134,131,132,133,120,121,122,123,126],[2,7,10,11,12,125,124,135,130,134,131,132,133,120,127,128,129,136]]) ?s ?h;case h=>exact YA.rr
 exact fun s _=>s
theorem ok6:Kq 6 s6=true:=by kernel_rfl
end
end Go.AM.XL
namespace Go.AM.SO
open Go.Proofs Go.AM.SD Go.AM.SE
theorem spQ_5(c:Cel)(h:WfCel c):∀x∈(spQ c).al,x<5:=(QdC (Qb5 h) (by rw[QbZ];have:=h.c3;have:=h.r2;omega)).a5
theorem Qt8{c:Cel}(h:WfCel c){v e:Nat}:pOk c v e=true↔anyC c.cs e=true/\∀(i:Nat)x,c.cs[i]?=some x->x.2.al.contains e=true->(stepA x.2.es (((tup c v).take c.cs.length).getD i 0) e).isSome=true:=by
 unfold pOk anyC;rw[Zaa,ZaG,Qem (Qa3 h),Qgb,ZbR];constructor;·rintro⟨⟨a,d,f⟩,g⟩;obtain⟨x,b,rfl⟩:=Zan.1 d;exact⟨⟨x,b,ZaG.2 f⟩,fun i x b he=>g i x.2 (by rw[ZaB,b];rfl) (ZaG.1 he)⟩
 rintro⟨⟨x,b,hex⟩,g⟩;refine⟨⟨x.2,Zan.2 ⟨x,b,rfl⟩,ZaG.1 hex⟩,fun i a d he=>?_⟩;rw[ZaB]at d;cases b:c.cs[i]? with|none=>rw[b]at d;cases d|some y=>rw[b]at d;cases d;exact g i y b (ZaG.2 he)
theorem eventW(c:Cel)(h:WfCel c){v:Nat}(f:v<(spQ c).n)(e:Nat):Pq 35 [.agg (wldC c),.int .i64 (v:Int),.int .i64 (e:Int)] (expV (eventX c v e)):=by
 have i:=Qhp f;obtain⟨a,k⟩:=Qfs h _ (Zae i);have b:=Qnf (A:=auL c.cs) (B:=auL c.rs) a;have d:=QiB (A:=auL c.cs) (B:=auL c.rs) a;rw[QaZ]at b d;have hA:(spA c (sync0 (allA c)).1)[v]?=some ((tup c v).take c.cs.length):=by unfold spA;rw[ZaB,i];rfl
 have l:(spB c (sync0 (allA c)).1)[v]?=some ((tup c v).drop c.cs.length):=by unfold spB;rw[ZaB,i];rfl
 have g:=@event35 c (spQ c) (spA c (sync0 (allA c)).1) (spB c (sync0 (allA c)).1) (spP c (sync0 (auL c.cs)).1 (sync0 (allA c)).1) (forbC c) (resC c) (leftC c) (Qhd c h) (spQ_5 c h) h.c3 h.r2 h.ca h.ra v e f _ _ hA (by rw[b.1,QaZ]) l (by rw[d.1,QaZ]) (pOk c v e) (Qt8 h) (fun q1 q2=>(Qjw h f).2 ⟨q1,q2⟩);unfold wldC;exact g
theorem walkW(c:Cel)(h:WfCel c)(w:List Nat)(a:∀x∈w,x<256)(b:w.length<=8):Pq 34 [.agg (wldC c),.fsl (u8s w) w.length 1] (.tup [sliN (wkO (resC c) w).1,.int .i64 ((wkO (resC c) w).2:Int)]):=by unfold wldC;exact walk34 (Qfx c h) (QiE c) w a b
theorem wk_ok(c:Cel)(h:WfCel c)(w:List Nat)(a:(resC c).sup.n≠0):∃t,runA (resC c).sup.es 0 (wkO (resC c) w).1=some t/\(resC c).orig[t]?=some (wkO (resC c) w).2/\(wkO (resC c) w).1.length<=w.length:=by
 obtain⟨q1,q2,b,d⟩:=Qnn (Qfx c h) w 0 (by omega);unfold wkO;rw[if_neg a];refine⟨_,q1,?_,q2⟩;have:(wlk (resC c).sup w 0).2<(resC c).orig.length:=by rw[QiE];exact b
 rw[Zak,Zal this];rfl
theorem Qen(c:Cel):wldC c=wldP c (spQ c) (spA c (sync0 (allA c)).1) (spB c (sync0 (allA c)).1) (spP c (sync0 (auL c.cs)).1 (sync0 (allA c)).1) (forb c (sync0 (allA c)).1.length) (resC c):=rfl
theorem law6(G:Pq 19 [] (.bool true))(p:Pln)(h:POk p)(hxn:p.xn<=9223372036854775807)(w:List Nat)(hwb:∀x∈w,x<256)(hwl:w.length<=9223372036854775807)(ev:Int):W2 Tryz.prog ⟨XL.s6.n,0⟩ XL.s6.body (fun e B=>(e=.normal\/e=.ret)/\resV B.T B.h XL.s6.res=some [.bool true]) ⟨argT 0 [plnV p,.fsl (u8s w) w.length 1,.int .i64 ev],.e⟩:=by
 refine(Zcs (n:=40) (Q:=fun e T h _=>(e=.normal\/e=.ret)/\resV T h XL.s6.res=some [.bool true]) (show wS Tryz.prog ⟨XL.s6.n,0⟩ XL.s6.body [] 40 _ _ _ from ?_)).mono fun e B⟨_,h⟩=>h;have hlen:=SU.Qdz h;have d:=SU.QdA h;have I:Pq 32 [.agg (plnC p)] (.bool (decide (p.xn<=4))):=short25 p h hxn;have U:Pq 33 [.agg (plnC p)] (.tup [.agg (wldC (mkC p)),.bool true]):=begin33 p h;have hw:=@Qg1 p;have a:(plnC p).take 152=plnC p:=by rw[<-hlen,Zar]
 have hnw:=QaH w;show wS _ _ _ _ _ (argT 0 [.agg (plnC p),.fsl (u8s w) w.length 1,.int .i64 ev]) _ _;generalize plnC p=C at*;generalize mkC p=c at*;by_cases h4:p.xn<=4
 ·rw[decide_eq_true h4]at I;by_cases h8:(8:Int)<w.length;·unfold XL.s6;refine ZcW (Zc2 hlen d a) ?_;refine cp G ?_;refine ZcW (Zc1 hlen a) ?_;refine cp I ?_;refine ZcW h8 ?_;refine cp G ?_;refine ZcV ?_;exact⟨.inr trivial,rfl⟩
  have f:=walkW c hw w hwb (by omega);rw[Qen]at U f;by_cases u:(resC c).sup.n=0
  ·have V:wkO (resC c) w=([],0):=by unfold wkO;rw[if_pos u]
   rw[V]at f;have hE:Pq 22 [celV c,sliN [],.int .i64 ev] (.tup [expV x00,.int .i64 21]):=event22E c hw [] (Zah _) (.inl ⟨u,rfl⟩) ev;have hF:Pq 26 [celV c,sliN []] (.tup [sliN [],.int .i64 21]):=forb26E c hw [] (Zah _) (.inl ⟨u,rfl⟩);have P:=none28;have z:((resC c).sup.n:Int)=0:=by omega
   generalize resC c=r at*;generalize spQ c=q at*;generalize spA c (sync0 (allA c)).1=A at*;generalize spB c (sync0 (allA c)).1=B at*;generalize spP c (sync0 (auL c.cs)).1 (sync0 (allA c)).1=X at*;generalize forb c (sync0 (allA c)).1.length=F at*;unfold XL.s6;refine ZcW (Zc2 hlen d a) ?_;refine cp G ?_;refine ZcW (Zc1 hlen a) ?_;refine cp I ?_;refine ZcW (Zc2 h8 hlen a) ?_;refine cp U ?_;refine ZcV ?_;refine cp f ?_;refine ZcV ?_;refine cp hE ?_;refine ZcV ?_;refine cp hF ?_;refine ZcW z ?_;refine cp P ?_;refine ZcV ?_;exact⟨.inr trivial,rfl⟩
  obtain⟨t,g,b,J⟩:=wk_ok c hw w u;obtain⟨W1,v,M⟩:∃W1 v,wkO (resC c) w=(W1,v):=⟨_,_,rfl⟩;rw[M]at f g b J;dsimp only at f g b J;have E:=(Qfu hw b).1;have hF:=forb26K c hw W1 (by omega) g u b;have hV:=fun e=>eventW c hw E e;rw[Qen]at hV;have hs:=Qjy c v;have R:forbE c v 0=[]:=rfl;have N:∀i,(forbE c v i).length<=i:=fun i=>Zaw (ZaI ..) (by simp);have hlx:∀e,(eventX c v e).run.length<=1000000:=fun e=>QrK hw E;obtain⟨Xx,H,hE,K⟩:∃(Xx:Exp)(H:Int),Pq 22 [celV c,sliN W1,.int .i64 ev] (.tup [expV Xx,.int .i64 H])/\((Xx=x00/\H=2/\(ev<0\/5<=ev))\/(H=0/\∃e:Nat,ev=(e:Int)/\e<5/\Xx=eventX c v e)):=by
   by_cases Z:ev<0\/5<=ev;·exact⟨x00,2,event22R c hw W1 (by omega) g u b Z,.inl ⟨rfl,rfl,Z⟩⟩
   obtain⟨e,rfl⟩:=ZaY (show 0<=ev by omega);exact⟨eventX c v e,0,event22K c hw W1 (by omega) g u b (by omega),.inr ⟨rfl,e,rfl,by omega,rfl⟩⟩
  have z:¬((resC c).sup.n:Int)=0:=by omega
  clear g b E M u;generalize forbE c v=s at*;generalize eventX c v=Q at*;generalize resC c=r at*;generalize spQ c=q at*;generalize spA c (sync0 (allA c)).1=A at*;generalize spB c (sync0 (allA c)).1=B at*;generalize spP c (sync0 (auL c.cs)).1 (sync0 (allA c)).1=X at*;generalize forb c (sync0 (allA c)).1.length=F at*;have o:=@nrW c q A B X F r;have k:=Qch Xx;have m:=Qae (s 5);unfold XL.s6;refine ZcW (Zc2 hlen d a) ?_;refine cp G ?_;refine ZcW (Zc1 hlen a) ?_;refine cp I ?_;refine ZcW (Zc2 h8 hlen a) ?_;refine cp U ?_;refine ZcV ?_;refine cp f ?_;refine ZcV ?_;refine cp hE ?_;refine ZcV ?_;refine cp hF ?_;refine ZcW z ?_;refine Qaq 140 (fun i:Nat=>[(2,.int .i64 ev),(7,.ptr 50 0 0),(10,.int .i64 (v:Int)),(11,.ptr 51 0 0),(12,.int .i64 H),(13,sliN (s 5)),(14,.int .i64 0),(15,.sl 61 0 0 (s i).length 1),(83,.int .i64 5),(84,.int .i64 i)]) (fun i=>[(50,.cells 0 (wldP c q A B X F r)),(51,.cells 0 (expC Xx)),(61,.cells 0 (ints (nz (s i))))]) (fun i=>i<=5) (fun i=>5-i) 0 0 300 (fun _:Unit=>[(2,.int .i64 ev),(7,.ptr 50 0 0),(10,.int .i64 (v:Int)),(11,.ptr 51 0 0),(12,.int .i64 H),(13,sliN (s 5)),(14,.int .i64 0),(15,sliN (s 5))]) (fun _=>[(50,.cells 0 (wldP c q A B X F r)),(51,.cells 0 (expC Xx))]) (fun _=>True) ?_ (Zah _) ?_ ?_;·rw[R];exact⟨[(50,.blk 59 0),(51,.blk 80 0),(61,.nil)],rfl,Zcx,ZcB rfl rfl gg (Zcr o) (ZcB rfl rfl gg (Zcr k) (ZcC rfl rfl ZcA)),Zcz (Zcq rfl) (Zcz (Rn.x2 rfl rfl) (Zcz (Zcq rfl) (Zcz (Rn.x2 rfl rfl) (Zcz (Zcq rfl) (Zcz (Zcq m) (Zcz (Zcq rfl) (Zcz (Rn.x4 rfl rfl) au29)))))))⟩
  ·rintro i hi;have hil:=N i;have L:(ints (nz (s i))).length=(s i).length:=by simp[ints]
   have hX:=Qa5 (Q i);by_cases hlt:i<5
   ·have l:(i:Int)<5:=by omega
    have hk:=hs i;have y:=hV i;by_cases k3:(Q i).kind=3;·rw[if_pos (.inl k3)]at hk;refine ZcW l ?_;refine cp y ?_;simp(disch:=first|omega|exact PairsOK.mk rfl|(simp only[lenW]<;>omega))only[k3,L,Qaa,Qab,Qac,wW,wV,simprocAttr];refine⟨i+1,by omega,by omega,?_⟩;rw[hk,QaF,Qay,Zaf];exact⟨[(50,.blk 50 0),(51,.blk 51 0),(61,.blk 61 1)],rfl,Zcx,ZcB rfl rfl gg (Zcr o) (ZcB rfl rfl gg (Zcr k) (ZcB rfl rfl gg (Zcr (SU.Qav (Qad _) rfl)) ZcA)),Zcz (Zcq rfl) (Zcz (Rn.x2 rfl rfl) (Zcz (Zcq rfl) (Zcz (Rn.x2 rfl rfl) (Zcz (Zcq rfl) (Zcz (Zcq m) (Zcz (Zcq rfl) (Zcz (Rn.x1 rfl rfl) au29)))))))⟩
    by_cases k4:(Q i).kind=4;·rw[if_pos (.inr k4)]at hk;refine ZcW l ?_;refine cp y ?_;simp(disch:=first|omega|exact PairsOK.mk rfl|(simp only[lenW]<;>omega))only[k3,k4,L,Qaa,Qab,Qac,wW,wV,simprocAttr];refine⟨i+1,by omega,by omega,?_⟩;rw[hk,QaF,Qay,Zaf];exact⟨[(50,.blk 50 0),(51,.blk 51 0),(61,.blk 61 1)],rfl,Zcx,ZcB rfl rfl gg (Zcr o) (ZcB rfl rfl gg (Zcr k) (ZcB rfl rfl gg (Zcr (SU.Qav (Qad _) rfl)) ZcA)),Zcz (Zcq rfl) (Zcz (Rn.x2 rfl rfl) (Zcz (Zcq rfl) (Zcz (Rn.x2 rfl rfl) (Zcz (Zcq rfl) (Zcz (Zcq m) (Zcz (Zcq rfl) (Zcz (Rn.x1 rfl rfl) au29)))))))⟩
    rw[if_neg (by simp[k3,k4]),Zap]at hk;refine ZcW l ?_;refine cp y ?_;simp(disch:=first|omega|exact PairsOK.mk rfl|(simp only[lenW]<;>omega))only[k3,k4,Qaa,Qab,Qac,wW,wV,simprocAttr];refine⟨i+1,by omega,by omega,?_⟩;rw[hk];exact⟨[(50,.blk 50 0),(51,.blk 51 0),(61,.blk 61 0)],rfl,Zcx,ZcB rfl rfl gg (Zcr o) (ZcB rfl rfl gg (Zcr k) (ZcB rfl rfl gg (Zcr (Qad _)) ZcA)),Zcz (Zcq rfl) (Zcz (Rn.x2 rfl rfl) (Zcz (Zcq rfl) (Zcz (Rn.x2 rfl rfl) (Zcz (Zcq rfl) (Zcz (Zcq m) (Zcz (Zcq rfl) (Zcz (Rn.x1 rfl rfl) au29)))))))⟩
   have e:i=5:=by omega
   subst e;refine ZcV ?_;refine⟨(),?_⟩;exact⟨[(50,.blk 50 0),(51,.blk 51 0)],rfl,Zcx,ZcB rfl rfl gg (Zcr o) (ZcB rfl rfl gg (Zcr k) (ZcA)),Zcz (Zcq rfl) (Zcz (Rn.x2 rfl rfl) (Zcz (Zcq rfl) (Zcz (Rn.x2 rfl rfl) (Zcz (Zcq rfl) (Zcz (Zcq m) (Zcz (Zcq rfl) (Zcz (ZcI (b:=61) (g:=0) gg rfl rfl (by simp) (by simp[ints]) (Zcr (Qad _))) Zcy)))))))⟩
  rintro _ _;have hQ:=eq41N (s 5) (s 5) (by have:=N 5;omega);rw[decide_eq_true rfl]at hQ;refine ZcV ?_;refine cp hQ ?_;rcases K with⟨rfl,rfl,Z⟩|⟨rfl,e,rfl,he,rfl⟩
  ·have P:=none28;by_cases g1:ev<0;·refine ZcW g1 ?_;refine cp P ?_;refine ZcV ?_;exact⟨.inr trivial,rfl⟩
   have g2:(5:Int)<=ev:=by omega
   refine ZcW (Zc1 g1 g2) ?_;refine cp P ?_;refine ZcV ?_;exact⟨.inr trivial,rfl⟩
  have g1:¬(e:Int)<0:=by omega
  have g2:¬(5:Int)<=(e:Int):=by omega
  have S:=hV e;have Y:=same37 (Q e) (hlx e);refine ZcW (Zc1 g1 g2) ?_;refine cp S ?_;refine ZcV ?_;refine cp Y ?_;refine ZcV ?_;exact⟨.inr trivial,rfl⟩
 rw[decide_eq_false h4]at I;unfold XL.s6;refine ZcW (Zc2 hlen d a) ?_;refine cp G ?_;refine ZcW (Zc1 hlen a) ?_;refine cp I ?_;refine ZcV ?_;refine cp G ?_;refine ZcV ?_;exact⟨.inr trivial,rfl⟩
end Go.AM.SO
namespace Go.AM.EM
open Go.Proofs
set_option maxHeartbeats 4000000
noncomputable section
def cf:YA.Cf:={always:=[(83,.borrow)]}
noncomputable def ft:FT2:=YA.tre Tryz.prog cf 20 [15,16,17,19,21,22,26,27,36,39,40,41,46,48,57,58,59,60,61,62,63,64,68,69,73,74,75,76,77,78,79,80,81,82,83,84,89,90,91,92,96,97,99,108,109,112,113,114,115,116,117,118,119,120,121,122,123,124,125,128,129,130,131,132,133,134,135,136,137,138,139,140,141,142,143,144,145,146,147,148,160,161,162,163,171,174,175,176,177,178,179,180,181,182,194,196,197,198,199,200,201,202,203,204,205,214,215,216,217,218,219,220,221,222,227,228,229,230,231,232,234,235,238,249,250,251,252,253,254,255,256,257,261,262,263,264,265,270,271,272,287,288,289,290,291,297,298,299,300,301,302,303,304,312,313,314,315,316,317,318,319,320,321]
theorem ft_ok:ft.OK Tryz.prog:=YA.QgE _ _ (YA.QfI (by kernel_rfl))
end
end Go.AM.EM
