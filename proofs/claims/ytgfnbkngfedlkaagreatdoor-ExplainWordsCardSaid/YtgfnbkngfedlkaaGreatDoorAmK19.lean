/- A part of the proof of ExplainEventsCardSaid: lemmas on the way (AnSj, AnSr, AnSn, AnSo, AnSs, AnSt, AnSu, AnSl, AnSv, AnSw, AnEm). Conditions: none of ours. -/
import Derived.Test.YtgfnbkngfedlkaaGreatDoorProg
import Derived.KernelRfl
import Derived.Test.YtgfnbkngfedlkaaGreatDoorAmK18
set_option linter.unusedSectionVars false
set_option maxHeartbeats 32000000
set_option maxRecDepth 100000
set_option linter.unusedVariables false
set_option linter.unusedSimpArgs false
namespace Go.AM.SO
open Go.Proofs Go.AM.SD Go.AM.SE
abbrev wldP(c:Cel)(q:Aut)(TA TB:List (List Nat))(X:List Nat)(F:List (Nat×Int×Int×Int))(r:Res):List AV:=[evsV c.ev,its 99 c.cs,its 114 c.rs,exs c.xs,cos c.ks,sliN q.al,.int .i64 (q.n:Int),sliN q.ms,egsN q.es,tuV TA,tuV TB,sliN X,rss F,sliN r.kept,sli r.dist,rms r.rem,.int .i64 (r.rounds:Int),sliN r.sup.al,.int .i64 (r.sup.n:Int),sliN r.sup.ms,egsN r.sup.es,sliN r.orig]
theorem nrW{c:Cel}{q:Aut}{TA TB:List (List Nat)}{X:List Nat}{F:List (Nat×Int×Int×Int)}{r:Res}:noRefs (wldP c q TA TB X F r)=true:=by have h1:=SU.QaM c;rw[celV,noRef]at h1;simp only[noRefs,Zaa,Zac]at h1;obtain⟨b,a2,a3,a4,a5⟩:=h1;have a:=QdV r;rw[noRef]at a;simp only[noRefs,Zaa,Zac]at a;simp only[noRefs,b,a2,a3,a4,a5,Qae,Qai,Qa8,Qc2,a];rfl
theorem nrW1{c:Cel}{q:Aut}{TA TB:List (List Nat)}{X:List Nat}{F:List (Nat×Int×Int×Int)}{r:Res}:noRef (.agg (wldP c q TA TB X F r))=true:=by rw[noRef];exact nrW
def wldC(c:Cel):List AV:=wldP c (spQ c) (spA c (sync0 (allA c)).1) (spB c (sync0 (allA c)).1) (spP c (sync0 (auL c.cs)).1 (sync0 (allA c)).1) (forb c (sync0 (allA c)).1.length) (resC c)
theorem begin33(p:Pln)(h:POk p):PSpec Tryz.prog 33 [plnV p] (.tup [.agg (wldC (mkC p)),.bool true]):=by
 have hlen:=SU.Qdz h;have a:=SU.QdA h;have g:PSpec Tryz.prog 88 [.agg (plnC p)] (celV (mkC p)):=SU.Make26 p h;have f:(plnC p).take 152=plnC p:=by rw[<-hlen,Zar]
 have d:=cell22 (mkC p) Qg1;have b:=@SU.Qd7 p;refine Zct 64 XK.ok33 rfl (by simp only[noRefs,noRef,b];rfl) (by rw[noRef,noRefs];unfold wldC;rw[nrW1];rfl) ?_;show wS _ _ _ _ _ (argT 0 [.agg (plnC p)]) _ _;rw[spC,spG]at d;unfold wldC;have hnw:=@nrW1 (mkC p) (spQ (mkC p)) (spA (mkC p) (sync0 (allA (mkC p))).1) (spB (mkC p) (sync0 (allA (mkC p))).1) (spP (mkC p) (sync0 (auL (mkC p).cs)).1 (sync0 (allA (mkC p))).1) (forb (mkC p) (sync0 (allA (mkC p))).1.length) (resC (mkC p));change PSpec Tryz.prog 89 [celV (mkC p)] (.tup [.agg [sliN (spQ (mkC p)).al,.int .i64 ((spQ (mkC p)).n:Int),sliN (spQ (mkC p)).ms,egsN (spQ (mkC p)).es,tuV (spA (mkC p) (sync0 (allA (mkC p))).1),tuV (spB (mkC p) (sync0 (allA (mkC p))).1),sliN (spP (mkC p) (sync0 (auL (mkC p).cs)).1 (sync0 (allA (mkC p))).1),rss (forb (mkC p) (sync0 (allA (mkC p))).1.length)],SE.rsV (resC (mkC p)),.int .i64 0])at d;generalize forb (mkC p) (sync0 (allA (mkC p))).1.length=F at*;generalize spA (mkC p) (sync0 (allA (mkC p))).1=A at*;generalize spB (mkC p) (sync0 (allA (mkC p))).1=B at*;generalize spP (mkC p) (sync0 (auL (mkC p).cs)).1 (sync0 (allA (mkC p))).1=X at*;generalize resC (mkC p)=r at*;generalize spQ (mkC p)=q at*;generalize mkC p=c at*;generalize plnC p=C at*;unfold XK.s33;refine ZcW (Zc2 hlen a f) ?_;refine cp g ?_;refine ZcV ?_;refine cp d ?_;refine ZcV ?_;refine⟨.inr trivial,_,rfl,Zcq ?_⟩;rw[noRef,noRefs,hnw];rfl
def stI(es:List Ed)(s:Nat)(e:Int):Int:=match es.find? fun x=>x.1==s&&decide ((x.2.1:Int)=e)with|some x=>(x.2.2:Int)|none=>-1
theorem Qfv(es:List Ed)(s e:Nat):stI es s (e:Int)=match stepA es s e with|some t=>(t:Int)|none=>-1:=by
 unfold stI stepA;have:(fun x:Ed=>x.1==s&&decide ((x.2.1:Int)=(e:Int)))=fun x=>x.1==s&&x.2.1==e:=by funext x;rw[Zby];simp;intro _;omega
 rw[this];cases es.find? fun x=>x.1==s&&x.2.1==e<;>rfl
theorem step38(a:Aut)(s:Nat)(e:Int)(r:a.es.length<=1000000):PSpec Tryz.prog 38 [aV a,.int .i64 (s:Int),.int .i64 e] (.int .i64 (stI a.es s e)):=by
 refine Zcu 64 XK.ok38 rfl (by(try simp only[noRefs,Qad,Qaf,noRef,noRefs,Zad,Zac])<;>rfl) rfl ?_;unfold XK.s38;refine ZcV ?_;refine Qaq 100 (fun i:Nat=>[(1,.int .i64 (s:Int)),(2,.int .i64 e),(10,egsN a.es),(11,.int .i64 a.es.length),(12,.int .i64 i)]) (fun _=>[]) (fun i=>i<=a.es.length/\∀(j:Nat)y,j<i->a.es[j]?=some y->(y.1==s&&decide ((y.2.1:Int)=e))=false) (fun i=>a.es.length-i) 0 0 200 (fun _:Unit=>[]) (fun _=>[]) (fun _=>∀y∈a.es,(y.1==s&&decide ((y.2.1:Int)=e))=false) ?_ ⟨Zah _,fun j y f=>absurd f (ZaC _)⟩ ?_ ?_;·exact⟨[],rfl,Zcx,ZcA,Zcz (Zcq rfl) (Zcz (Zcq rfl) (Zcz (Zcq (Qai _)) au29))⟩
 ·rintro i⟨hi,k⟩;by_cases b:i<a.es.length
  ·obtain⟨x,o⟩:=Qap b;have d:=QaJ o;have g:3<=((a.es.flatMap edC).drop (i*3)).length:=by rw[d];simp
   have l:(x.1==s&&decide ((x.2.1:Int)=e))=false->i+1<=a.es.length/\∀(j:Nat)y,j<i+1->a.es[j]?=some y->(y.1==s&&decide ((y.2.1:Int)=e))=false:=fun q=>⟨by omega,fun j y f h=>by
    by_cases p:j=i;·subst p;rw[o]at h;cases h;exact q
    exact k j y (by omega) h⟩;by_cases h1:x.1=s
   ·have c:(x.1:Int)=(s:Int):=by omega
    by_cases m:(x.2.1:Int)=e
    ·refine ZcW (Zc4 b d g c m) ?_;refine⟨.inr trivial,_,rfl,?_⟩;have hf:a.es.find? (fun x=>x.1==s&&decide ((x.2.1:Int)=e))=some x:=by refine List.find?_eq_some_iff_getElem.2 ⟨by simp[h1,m],i,b,(Zag.1 o).2,fun j f=>?_⟩;rw[k j _ f (Zal (by omega))];rfl
     unfold stI;rw[hf];rfl
    refine ZcW (Zc4 b d g c m) ?_;refine⟨i+1,by omega,l (by simp[m]),?_⟩;exact⟨[],rfl,Zcx,ZcA,Zcz (Zcq rfl) (Zcz (Zcq rfl) (Zcz (Zcq (Qai _)) au29))⟩
   have c:¬(x.1:Int)=(s:Int):=by omega
   refine ZcW (Zc3 b d g c) ?_;refine⟨i+1,by omega,l (by simp[h1]),?_⟩;exact⟨[],rfl,Zcx,ZcA,Zcz (Zcq rfl) (Zcz (Zcq rfl) (Zcz (Zcq (Qai _)) au29))⟩
  have e:i=a.es.length:=by omega
  subst e;refine ZcW b ?_;refine⟨(),fun y h=>?_,⟨[],rfl,au0,au30,au29⟩⟩;obtain⟨j,f⟩:=ZbI h;exact k j y (Zag.1 f).1 f
 rintro _ k;refine ZcV ?_;refine⟨.inr trivial,_,rfl,?_⟩;have hf:a.es.find? (fun x=>x.1==s&&decide ((x.2.1:Int)=e))=none:=Za6.2 fun y h=>by rw[k y h];simp
 unfold stI;rw[hf];rfl
end Go.AM.SO
namespace Go.AM.SO
open Go.Proofs Go.AM.SD Go.AM.SE
end Go.AM.SO
namespace Go.AM.SO
open Go.Proofs Go.AM.SD Go.AM.SE
def stZ(es:List Ed)(v:Nat)(e:Int):Option Nat:=if 0<=e then stepA es v e.toNat else none
theorem Qt5(es:List Ed)(v e:Nat):stZ es v (e:Int)=stepA es v e:=by unfold stZ;rw[if_pos (by omega),ZbL]
theorem Qt6(es:List Ed)(v:Nat)(e:Int):stZ es v e=((sOut es (fun _=>true) v).find? fun x=>decide ((x.2.1:Int)=e)).map (·.2.2):=by
 unfold stZ;split;·rename_i h;obtain⟨k,rfl⟩:=ZaY h;rw[ZbL,QdY];congr 2;funext x;exact decide_eq_decide.2 (by omega)
 rename_i h;rw[Za6.2 fun x _ a=>by simp at a;omega];rfl
theorem Qfw{a:Aut}(h:WfA a){v t:Nat}{e:Int}(b:stZ a.es v e=some t):t<a.n/\∃k:Nat,e=(k:Int)/\k∈a.al/\stepA a.es v k=some t:=by
 unfold stZ at b;split at b;·rename_i c;obtain⟨k,rfl⟩:=ZaY c;rw[ZbL]at b;refine⟨Qcu h.esn b,k,rfl,?_,b⟩;unfold stepA at b;cases hf:a.es.find? fun x=>x.1==v&&x.2.1==k with|none=>rw[hf]at b;cases b|some x=>have h1:=ZbM hf;simp at h1;rw[<-h1.2];exact h.ev x (Za2 hf)
 cases b
theorem ev262Z(x:Ed)(e:Int):PSpec Tryz.prog 264 [.agg [.int .i64 (x.1:Int),.int .i64 (x.2.1:Int),.int .i64 (x.2.2:Int)],.fptr [.int .i64 e]] (.bool (decide ((x.2.1:Int)=e))):=by refine Zcu 64 TQ.ok264 rfl rfl rfl ?_;unfold TQ.s264;refine ZcV ?_;exact⟨.inr trivial,_,rfl,rfl⟩
def nxZ(a:Aut)(v:Nat)(e:Int):Int:=match stZ a.es v e with|some t=>(t:Int)|none=>-1
theorem next226Z(a:Aut)(v:Nat)(e:Int)(h:WfA a)(q:v<a.n):PSpec Tryz.prog 219 [aV a,.int .i64 (v:Int),.int .i64 e] (.int .i64 (nxZ a v e)):=by
 have r:=h.n5;refine Zcu 64 TQ.ok219 rfl (by(try simp only[noRefs,Qad,Qaj,Qaf,noRef,noRefs,Zad,Zac])<;>rfl) rfl ?_;have ho:=out199 a v h (by omega);have g:(sOut a.es (fun _=>true) v).length<=131072:=Zaw (ZaI ..) (WfA.el1 h);have m:=index48 (K:=264) (cap:=[.fptr [.int .i64 e]]) (fun x=>decide ((x.2.1:Int)=e)) (sOut a.es (fun _=>true) v) (by omega) rfl fun x _=>ev262Z x e;unfold nxZ;rw[Qt6];generalize sOut a.es (fun _=>true) v=o at*;rw[Qf6];have s:=@QdB _ (fun x:Ed=>decide ((x.2.1:Int)=e)) o;have l:idxQ (fun x:Ed=>decide ((x.2.1:Int)=e)) o=-1/\o[o.findIdx fun x=>decide ((x.2.1:Int)=e)]?=none\/∃y,idxQ (fun x:Ed=>decide ((x.2.1:Int)=e)) o=((o.findIdx fun x=>decide ((x.2.1:Int)=e):Nat):Int)/\o[o.findIdx fun x=>decide ((x.2.1:Int)=e)]?=some y:=by
  unfold idxQ;by_cases c:o.any (fun x=>decide ((x.2.1:Int)=e))=true;·rw[if_pos c];obtain⟨y,p⟩:=Qap (Zbn (p:=fun x:Ed=>decide ((x.2.1:Int)=e)) (xs:=o) (by simpa using c));exact .inr ⟨y,rfl,p⟩
  rw[if_neg c];refine .inl ⟨rfl,ZaD (Nat.le_of_not_lt fun b=>c ?_)⟩;rw[ZbR];exact⟨_,List.getElem_mem b,Zcc (w:=b)⟩
 generalize(o.findIdx fun x=>decide ((x.2.1:Int)=e))=k at*;generalize idxQ (fun x:Ed=>decide ((x.2.1:Int)=e)) o=i at*;unfold TQ.s219;refine ZcV ?_;refine cp ho ?_;refine ZcV ?_;refine SU.chc (ZcL (ZcO (Zcv _) (ZcO (FrzTo.fn ZcN (ZcO (ZcK (g:=0) (cs:=[.int .i64 e]) gg (Zcw _)) ZcN)) ZcN)) m rfl) ?_;rcases l with⟨rfl,hk⟩|⟨y,rfl,hk⟩;·refine ZcV ?_;rw[hk];exact⟨.inr trivial,_,rfl,rfl⟩
 have f:k<o.length:=(Zag.1 hk).1;have g1:¬(k:Int)<0:=by omega
 have d:=QaJ hk;refine ZcW (Zc2 g1 f d) ?_;rw[hk];exact⟨.inr trivial,_,rfl,rfl⟩
def runZ(es:List Ed):Nat->List Int->Option Nat|s,[]=>some s|s,x::w=>match stZ es s x with|some n=>runZ es n w|none=>none
theorem QdD{es:List Ed}:∀{w:List Nat}{s:Nat},runZ es s (nz w)=runA es s w|[],s=>rfl|x::w,s=>by show(match stZ es s (x:Int)with|some n=>runZ es n (nz w)|none=>none)=_;rw[Qt5];unfold runA;cases stepA es s x with|none=>rfl|some n=>exact QdD
theorem Qhc{a:Aut}(h:WfA a):∀{w:List Int}{s t:Nat},runZ a.es s w=some t->∃v:List Nat,w=nz v/\(∀x∈v,x∈a.al)|[],s,t,_=>⟨[],rfl,fun x g=>by cases g⟩|x::w,s,t,b=>by unfold runZ at b;cases d:stZ a.es s x with|none=>rw[d]at b;cases b|some n=>rw[d]at b;obtain⟨_,k,rfl,hk,_⟩:=Qfw h d;obtain⟨v,rfl,f⟩:=Qhc h b;exact⟨k::v,rfl,fun y c=>by
 rcases Zau.1 c with rfl|c;·exact hk
 exact f y c⟩
theorem Qo3{a:Aut}(h:WfA a):∀{w:List Nat}{s t:Nat},s<a.n->runA a.es s w=some t->t<a.n|[],s,t,d,b=>by cases b;exact d|x::w,s,t,d,b=>by unfold runA at b;cases c:stepA a.es s x with|none=>rw[c]at b;cases b|some n=>rw[c]at b;exact Qo3 h (Qcu h.esn c) b
def folZ(es:List Ed):Nat->List Int->Nat×Nat|s,[]=>(s,0)|s,x::w=>match stZ es s x with|some n=>((folZ es n w).1,(folZ es n w).2+1)|none=>(s,0)
theorem QiD{es:List Ed}:∀{w:List Int}{s:Nat},(folZ es s w).2<=w.length/\decide ((folZ es s w).2=w.length)=(runZ es s w).isSome/\∀t,runZ es s w=some t->folZ es s w=(t,w.length)|[],s=>⟨ZaM _,rfl,fun t h=>by cases h;rfl⟩|x::w,s=>by unfold folZ runZ;cases c:stZ es s x with|none=>exact⟨Zah _,rfl,fun t h=>by cases h⟩|some n=>
 obtain⟨h1,a,b⟩:=@QiD es w n;refine⟨by simp;omega,?_,fun t h=>?_⟩;·simp only[ZaF];rw[<-a];exact decide_eq_decide.2 (by omega)
 show((folZ es n w).1,(folZ es n w).2+1)=_;rw[b t h];rfl
theorem follow194Z(a:Aut)(w:List Int)(h:WfA a)(hp:0<a.n)(hw:w.length<=100000):PSpec Tryz.prog 163 [aV a,.int .i64 0,sli w] (.tup [.int .i64 ((folZ a.es 0 w).1:Int),.int .i64 ((folZ a.es 0 w).2:Int)]):=by
 have m:=h.n5;refine Zcu 64 TU.ok163 rfl (by(try simp only[noRefs,Qad,Qaj,Qaf,noRef,noRefs,Zad,Zac])<;>rfl) rfl ?_;unfold TU.s163;refine ZcV ?_;refine QaL 100 (fun s:Nat×Nat=>[(1,.int .i64 s.2),(2,sli w),(3,.ptr 60 0 0),(11,sli w),(12,.int .i64 w.length),(13,.int .i64 s.1)]) (fun _=>[(60,.cells 0 [sliN a.al,.int .i64 (a.n:Int),sliN a.ms,egsN a.es])]) (fun s=>s.1<=w.length/\s.2<a.n/\folZ a.es 0 w=((folZ a.es s.2 (w.drop s.1)).1,(folZ a.es s.2 (w.drop s.1)).2+s.1)) (fun s=>w.length-s.1) (0,0) ?_ ⟨Zah _,hp,rfl⟩ ?_;·exact⟨[(60,.blk 64 0)],rfl,au0,au26,au23⟩
 rintro⟨i,s⟩⟨hi,l,hf⟩;simp only at hi l hf;by_cases b:i<w.length;·obtain⟨x,k⟩:=Qap b;have f:=QaV k;have g:=next226Z a s x h l;unfold nxZ at g;rw[Zbf b,(Zag.1 k).2]at hf;refine ZcW (Zc1 b f) ?_;refine cp g ?_;cases c:stZ a.es s x with|none=>simp only[folZ,c]at hf;rw[hf];refine ZcV ?_;exact⟨.inr trivial,_,rfl,by(try simp only[ZbW]);rfl⟩|some n=>
  simp only[folZ,c]at hf;have d:=(Qfw h c).1;have g1:¬(n:Int)<0:=by omega
  refine ZcW g1 ?_;exact⟨(i+1,n),by simp;omega,⟨by simp;omega,d,by rw[hf];simp;omega⟩,⟨[(60,.blk 60 0)],rfl,au0,au26,au23⟩⟩
 have e:i=w.length:=by omega
 subst e;rw[Zcg]at hf;simp only[folZ]at hf;refine ZcW b ?_;rw[hf];exact⟨.inr trivial,_,rfl,by(try simp only[ZbW]);rfl⟩
theorem reached113Z(a:Aut)(w:List Int)(h:WfA a)(hp:0<a.n)(hw:w.length<=100000):PSpec Tryz.prog 92 [aV a,sli w] (.tup [.int .i64 ((folZ a.es 0 w).1:Int),.bool (runZ a.es 0 w).isSome]):=by
 have d:=h.n5;refine Zcu 64 TU.ok92 rfl (by(try simp only[noRefs,Qad,Qaj,Qaf,noRef,noRefs,Zad,Zac])<;>rfl) rfl ?_;have c:=follow194Z a w h hp hw;obtain⟨h1,b,_⟩:=@QiD a.es w 0;have g0:¬(a.n:Int)=0:=by omega
 unfold TU.s92;refine ZcW g0 ?_;refine cp c ?_;refine ZcW b ?_;exact⟨.inr trivial,_,rfl,rfl⟩
theorem generates40Z(a:Aut)(w:List Int)(h:WfA a)(hp:0<a.n)(hw:w.length<=100000):PSpec Tryz.prog 40 [aV a,sli w] (.tup [.bool (runZ a.es 0 w).isSome,.int .i64 0]):=by refine Zcu 64 TU.ok40 rfl (by(try simp only[noRefs,Qad,Qaj,Qaf,noRef,noRefs,Zad,Zac])<;>rfl) rfl ?_;have hc:=check112B a h;have b:=reached113Z a w h hp hw;unfold TU.s40;refine ZcV ?_;refine cp hc ?_;refine ZcV ?_;refine cp b ?_;refine ZcV ?_;exact⟨.inr trivial,_,rfl,rfl⟩
theorem run217(a:Aut)(x:Nat)(h:WfA a):PSpec Tryz.prog 217 [.int .i64 (x:Int),.fptr [sliN a.al,.int .i64 (a.n:Int),sliN a.ms,egsN a.es]] (.bool (!a.al.contains x)):=by
 refine Zcu 64 XA.ok217 rfl (by simp only[noRefs,noRef,Qad,Qaf];rfl) rfl ?_;have d:=Qby h.al h.al5;have c:=contains62 (nz a.al) (x:Int) (by simp;omega);have hm:decide ((x:Int)∈nz a.al)=a.al.contains x:=by
  rw[Zby,decide_eq_true_eq,ZaG];constructor
  ·intro b;obtain⟨y,f,e⟩:=Zan.1 b;have:y=x:=by omega
   rw[<-this];exact f
  intro b;exact Zan.2 ⟨x,b,rfl⟩
 rw[hm,Qbn]at c;unfold XA.s217;refine ZcV ?_;refine cp c ?_;refine ZcV ?_;exact⟨.inr trivial,_,rfl,rfl⟩
theorem run141(a:Aut)(w:List Nat)(h:WfA a)(hp:0<a.n)(hw:w.length<=100000)(k:∀x∈w,x∈a.al){t:Nat}(g:runA a.es 0 w=some t):PSpec Tryz.prog 141 [aV a,.int .i64 0,sliN w] (.tup [.int .i64 (t:Int),.int .i64 w.length,.int .i64 0]):=by
 refine Zcu 64 XA.ok141 rfl (by(try simp only[noRefs,Qad,Qaj,Qaf,noRef,noRefs,Zad,Zac])<;>rfl) rfl ?_;have i:PSpec Tryz.prog 204 [aV a,.int .i64 0] (.int .i64 0):=state207 a 0 h hp;have d:=contains36 (K:=217) (cap:=[.fptr [sliN a.al,.int .i64 (a.n:Int),sliN a.ms,egsN a.es]]) (fun x=>!a.al.contains x) w (by omega) (by simp only[noRefs,noRef,Qad,Qaf];rfl) fun x _=>run217 a x h;have b:w.any (fun x=>!a.al.contains x)=false:=by rw[List.any_eq_false];intro x l;simp[k x l]
 rw[b]at d;have c:=follow194Z a (nz w) h hp (by simpa[nz]using hw);rw[(@QiD a.es (nz w) 0).2.2 t (by rw[QdD];exact g),Qbn]at c;have f:(nz w).length=w.length:=by simp[nz]
 rw[f]at c;unfold XA.s141;refine ZcV ?_;refine cp i ?_;refine ZcV ?_;refine SU.chc (ZcL (ZcO (Zcv _) (ZcO (FrzTo.fn ZcN (ZcO (ZcK (g:=0) (cs:=[sliN a.al,.int .i64 (a.n:Int),sliN a.ms,egsN a.es]) gg (Zcw _)) ZcN)) ZcN)) d rfl) ?_;refine ZcV ?_;refine cp c ?_;refine ZcV ?_;exact⟨.inr trivial,_,rfl,rfl⟩
end Go.AM.SO
namespace Go.AM.SO
open Go.Proofs Go.AM.SD Go.AM.SE
theorem Qhd(c:Cel)(h:WfCel c):StOk c (spQ c) (leftC c) (forbC c) (resC c) (uncL c.ev 5):=by
 have hw:=wfA_c c h;have a:=Qft c h;have d:=hw.n5;refine⟨hw,(Qj1 _).1,?_,a,(Qjt c _).1,?_,Qvf hw,?_⟩;·have :(uncL c.ev 5).length<=5:=Zaw (ZaI ..) (by simp);omega
 ·have :=Qf8 c (sync0 (allA c)).1.length;have b:(syncA (allA c)).n=(sync0 (allA c)).1.length:=rfl;show(forb c (sync0 (allA c)).1.length).length<=1000000;omega
 have :=Qlo a;omega
theorem eventC(c:Cel)(h:WfCel c){v:Nat}(g:v<(spQ c).n)(e:Nat):PSpec Tryz.prog 79 [.fptr (stdC c),.int .i64 (v:Int),.int .i64 (e:Int)] (expV (eventX c v e)):=by
 rw[Qde];have l:=Qhp g;obtain⟨m,b⟩:=Qfs h _ (Zae l);have a:=QiB (A:=auL c.cs) (B:=auL c.rs) m;rw[QaZ]at a;have hp:WfA (plA c):=(QdC (Qa3 h) (by rw[QaZ];have:=h.c3;omega)).toWfA;have hk:ixT (sync0 (auL c.cs)).1 ((tup c v).take c.cs.length)<(plA c).n:=Qg5 b;have o:(spP c (sync0 (auL c.cs)).1 (sync0 (allA c)).1)[v]?=some (ixT (sync0 (auL c.cs)).1 ((tup c v).take c.cs.length)):=by unfold spP;rw[ZaB,l];rfl
 have r:(spB c (sync0 (allA c)).1)[v]?=some ((tup c v).drop c.cs.length):=by unfold spB;rw[ZaB,l];rfl
 have d:((plA c).al.contains e&&(stepA (plA c).es (ixT (sync0 (auL c.cs)).1 ((tup c v).take c.cs.length)) e).isSome)=pOk c v e:=by unfold pOk;cases hc:(evA (auL c.cs)).contains e with|false=>have:(plA c).al.contains e=false:=hc;rw[this];rfl|true=>have k:(plA c).al.contains e=true:=hc;rw[k,Qgc (Qa3 h) (Qhm b) (ZaG.1 hc),Option.isSome_map]
 have f:=@event79 c (plA c) (spQ c) (spA c (sync0 (allA c)).1) (spB c (sync0 (allA c)).1) (spP c (sync0 (auL c.cs)).1 (sync0 (allA c)).1) (forbC c) (resC c) (uncL c.ev 5) (leftC c) (Qhd c h) hp h.r2 h.ra v _ e _ o hk g r (by rw[a.1,QaZ]) (fun i y p=>a.2 i y.2 (by rw[ZaB,p];rfl)) (fun q1 q2 s=>by
  have q:pOk c v e=true:=by rw[<-d,q1,q2];rfl
  exact(Qjw h g).2 ⟨q,s⟩);rw[d]at f;exact f
theorem Qfx(c:Cel)(h:WfCel c):WfA (resC c).sup:=Qmq (left:=leftC c) (wfA_c c h)
theorem QiE(c:Cel):(resC c).orig.length=(resC c).sup.n:=rfl
def BErr(c:Cel)(w:List Int)(e:Int):Prop:=((resC c).sup.n=0/\e=21)\/((resC c).sup.n≠0/\4096<w.length/\e=15)\/((resC c).sup.n≠0/\w.length<=4096/\runZ (resC c).sup.es 0 w=none/\e=10)
theorem QeY(c:Cel):noRef (.fptr (stdC c))=true:=by rw[noRef];exact Qjv c
theorem behindE(c:Cel)(h:WfCel c)(w:List Int)(a:w.length<=100000){e:Int}(he:BErr c w e):PSpec Tryz.prog 78 [celV c,sli w] (.tup [.nilptr,.int .i64 0,.int .i64 e]):=by
 refine Zcu 64 XA.ok78 rfl (by rw[noRefs,SU.QaM,noRefs,Qan];rfl) rfl ?_;have hO:=open80 c h;have b:=Qfx c h;have i:=fun hp=>generates40Z (resC c).sup w b hp a;unfold BErr at he;rw[Qde]at hO;generalize resC c=r at*;generalize spQ c=q at*;generalize plA c=p at*;generalize spA c (sync0 (allA c)).1=A at*;generalize spB c (sync0 (allA c)).1=B at*;generalize spP c (sync0 (auL c.cs)).1 (sync0 (allA c)).1=X at*;generalize forb c (sync0 (allA c)).1.length=F at*;generalize uncL c.ev 5=u at*;rcases he with⟨d,rfl⟩|⟨d,h1,rfl⟩|⟨d,h1,g,rfl⟩
 ·have g0:(r.sup.n:Int)=0:=by omega
  unfold XA.s78;refine ZcV ?_;refine cp hO ?_;refine ZcW g0 ?_;exact⟨.inr trivial,_,rfl,rfl⟩
 ·have g0:¬(r.sup.n:Int)=0:=by omega
  have g1:(4096:Int)<(w.length:Int):=by omega
  unfold XA.s78;refine ZcV ?_;refine cp hO ?_;refine ZcW (Zc1 g0 g1) ?_;exact⟨.inr trivial,_,rfl,rfl⟩
 have g0:¬(r.sup.n:Int)=0:=by omega
 have g1:¬(4096:Int)<(w.length:Int):=by omega
 have f:=i (by omega);rw[g]at f;unfold XA.s78;refine ZcV ?_;refine cp hO ?_;refine ZcW (Zc1 g0 g1) ?_;refine cp f ?_;refine ZcV ?_;exact⟨.inr trivial,_,rfl,rfl⟩
theorem behindK(c:Cel)(h:WfCel c)(w:List Nat)(C:w.length<=4096){t v:Nat}(m:runA (resC c).sup.es 0 w=some t)(G:(resC c).sup.n≠0)(z:(resC c).orig[t]?=some v):PSpec Tryz.prog 78 [celV c,sliN w] (.tup [.fptr (stdC c),.int .i64 (v:Int),.int .i64 0]):=by
 have b:=QeY c;refine Zct 64 XA.ok78 rfl (by rw[noRefs,SU.QaM,noRefs,Qae];rfl) (by rw[noRef,noRefs,b];rfl) ?_;have hO:=open80 c h;have a:=Qfx c h;have s:=generates40Z (resC c).sup (nz w) a (by omega) (by simpa[nz]using(by omega:w.length<=100000));rw[QdD,m,Qbn]at s;obtain⟨E,g,d⟩:=Qhc a (w:=nz w) (by rw[QdD];exact m);have k:E=w:=by
  have:=congrArg (List.map Int.toNat) g;unfold nz at this;rw[List.map_map,List.map_map]at this;have e:∀l:List Nat,l.map (Int.toNat∘fun x:Nat=>(x:Int))=l:=fun l=>by rw[show(Int.toNat∘fun x:Nat=>(x:Int))=id from funext fun x=>ZbL x,List.map_id]
  rw[e,e]at this;exact this.symm
 rw[k]at d;have f:=run141 (resC c).sup w a (by omega) (by omega) d m;have i:=(Zag.1 z).1;have o:=Qaz z;have y:noRef (.fptr (stdC c))=true:=b;rw[Qde]at hO y⊢;generalize resC c=r at*;generalize spQ c=q at*;generalize plA c=p at*;generalize spA c (sync0 (allA c)).1=A at*;generalize spB c (sync0 (allA c)).1=B at*;generalize spP c (sync0 (auL c.cs)).1 (sync0 (allA c)).1=X at*;generalize forb c (sync0 (allA c)).1.length=F at*;generalize uncL c.ev 5=u at*;have g0:¬(r.sup.n:Int)=0:=by omega
 have g1:¬(4096:Int)<(w.length:Int):=by omega
 unfold XA.s78;refine ZcV ?_;refine cp hO ?_;refine ZcW (Zc1 g0 g1) ?_;refine cp s ?_;refine ZcV ?_;refine cp f ?_;refine ZcW (Zc1 i o) ?_;refine⟨.inr trivial,_,rfl,Zcq ?_⟩;rw[noRef,noRefs,y];rfl
theorem rnx0{m:Nat}{π:Nat->Option Src}{h:Heap}:Rn m π h (expV x00) (.agg [.int .i64 0,.int .i64 0,.int .i64 0,.int .i64 0,.nilsl,.int .i64 0,.int .i64 0,.int .i64 0,.int .i64 0,.int .i64 0,.int .i64 0,.int .i64 0,.int .i64 0,.int .i64 0]):=Rn.agg (ZcH (Zcq rfl) (ZcH (Zcq rfl) (ZcH (Zcq rfl) (ZcH (Zcq rfl) (ZcH Rn.frznil (Zcr rfl))))))
theorem event22E(c:Cel)(h:WfCel c)(w:List Int)(a:w.length<=100000){e:Int}(he:BErr c w e)(ev:Int):PSpec Tryz.prog 22 [celV c,sli w,.int .i64 ev] (.tup [expV x00,.int .i64 e]):=by
 refine Zct 64 XA.ok22 rfl (by rw[noRefs,SU.QaM,noRefs,Qan];rfl) rfl ?_;have f:=behindE c h w a he;have b:¬e=0:=by unfold BErr at he;omega
 have d:=Qa4 c;unfold XA.s22;refine ZcV ?_;refine cp f ?_;refine ZcW b ?_;exact⟨.inr trivial,_,rfl,Rn.tup (ZcH rnx0 (Zcr rfl))⟩
theorem event22K(c:Cel)(h:WfCel c)(w:List Nat)(b:w.length<=4096){t v:Nat}(i:runA (resC c).sup.es 0 w=some t)(m:(resC c).sup.n≠0)(f:(resC c).orig[t]?=some v){e:Nat}(he:e<5):PSpec Tryz.prog 22 [celV c,sliN w,.int .i64 (e:Int)] (.tup [expV (eventX c v e),.int .i64 0]):=by
 have a:=(Qfu h f).1;have g:=eventC c h a e;have k:=behindK c h w b i m f;generalize eventX c v e=x at*;refine Zct 64 XA.ok22 rfl (by rw[noRefs,SU.QaM,noRefs,Qae];rfl) (by rw[noRef,noRefs,Qa5];rfl) ?_;have l:=Qa4 c;have d:=Qa5 x;have g1:¬(e:Int)<0:=by omega
 have g2:¬(5:Int)<=(e:Int):=by omega
 generalize stdC c=S at*;unfold XA.s22;refine ZcV ?_;refine cp k ?_;refine ZcW (Zc1 g1 g2) ?_;refine cp g ?_;refine ZcV ?_;refine⟨.inr trivial,_,rfl,Zcq ?_⟩;rw[noRef,noRefs,d];rfl
theorem forb26E(c:Cel)(h:WfCel c)(w:List Int)(a:w.length<=100000){e:Int}(he:BErr c w e):PSpec Tryz.prog 26 [celV c,sli w] (.tup [sliN [],.int .i64 e]):=by
 refine Zct 64 XA.ok26 rfl (by rw[noRefs,SU.QaM,noRefs,Qan];rfl) rfl ?_;have f:=behindE c h w a he;have b:¬e=0:=by unfold BErr at he;omega
 have d:=Qa4 c;unfold XA.s26;refine ZcV ?_;refine cp f ?_;refine ZcW b ?_;exact⟨.inr trivial,_,rfl,Rn.tup (ZcH Rn.frznil (Zcr rfl))⟩
theorem forb26K(c:Cel)(h:WfCel c)(w:List Nat)(o:w.length<=4096){t v:Nat}(A:runA (resC c).sup.es 0 w=some t)(r:(resC c).sup.n≠0)(q:(resC c).orig[t]?=some v):PSpec Tryz.prog 26 [celV c,sliN w] (.tup [sliN (forbE c v 5),.int .i64 0]):=by
 have l:=(Qfu h q).1;have k:=fun e=>eventC c h l e;have u:=behindK c h w o A r q;have s:=Qjy c v;have p:forbE c v 0=[]:=rfl;have m:∀i,(forbE c v i).length<=i:=fun i=>Zaw (ZaI ..) (by simp);generalize forbE c v=d at*;generalize eventX c v=x at*;refine Zct 64 XA.ok26 rfl (by rw[noRefs,SU.QaM,noRefs,Qae];rfl) (by simp only[noRef,noRefs,Qad];rfl) ?_;have B:=Qa4 c;have g:=QeY c;generalize stdC c=S at*;unfold XA.s26;refine ZcV ?_;refine cp u ?_;refine ZcV ?_;refine Qaq 140 (fun i:Nat=>[(6,.fptr S),(7,.int .i64 (v:Int)),(9,.sl 61 0 0 (d i).length 1),(24,.int .i64 5),(25,.int .i64 i)]) (fun i=>[(61,.cells 0 (ints (nz (d i))))]) (fun i=>i<=5) (fun i=>5-i) 0 0 300 (fun _:Unit=>[(9,.sl 61 0 0 (d 5).length 1)]) (fun _=>[(61,.cells 0 (ints (nz (d 5))))]) (fun _=>True) ?_ (Zah _) ?_ ?_;·rw[p];exact⟨[(61,.nil)],rfl,Zcx,ZcC rfl rfl ZcA,Zcz (Zcq g) au29⟩
 ·rintro i hi;have z:=m i;have f:(ints (nz (d i))).length=(d i).length:=by simp[ints]
  have C:=Qa5 (x i);by_cases y:i<5
  ·have b:(i:Int)<5:=by omega
   have hk:=s i;by_cases k3:(x i).kind=3;·rw[if_pos (.inl k3)]at hk;have a:=k i;refine ZcW b ?_;refine cp a ?_;simp(disch:=first|omega|exact PairsOK.mk rfl|(simp only[lenW]<;>omega))only[k3,f,Qaa,Qab,Qac,wW,wV,simprocAttr];refine⟨i+1,by omega,by omega,?_⟩;rw[hk,QaF,Qay,Zaf];exact⟨[(61,.blk 61 1)],rfl,Zcx,ZcB rfl rfl gg (Zcr (SU.Qav (Qad _) rfl)) ZcA,Zcz (Zcq g) au29⟩
   by_cases k4:(x i).kind=4;·rw[if_pos (.inr k4)]at hk;have a:=k i;refine ZcW b ?_;refine cp a ?_;simp(disch:=first|omega|exact PairsOK.mk rfl|(simp only[lenW]<;>omega))only[k3,k4,f,Qaa,Qab,Qac,wW,wV,simprocAttr];refine⟨i+1,by omega,by omega,?_⟩;rw[hk,QaF,Qay,Zaf];exact⟨[(61,.blk 61 1)],rfl,Zcx,ZcB rfl rfl gg (Zcr (SU.Qav (Qad _) rfl)) ZcA,Zcz (Zcq g) au29⟩
   rw[if_neg (by simp[k3,k4]),Zap]at hk;have a:=k i;refine ZcW b ?_;refine cp a ?_;simp(disch:=first|omega|exact PairsOK.mk rfl|(simp only[lenW]<;>omega))only[k3,k4,Qaa,Qab,Qac,wW,wV,simprocAttr];refine⟨i+1,by omega,by omega,?_⟩;rw[hk];exact⟨[(61,.blk 61 0)],rfl,Zcx,ZcB rfl rfl gg (Zcr (Qad _)) ZcA,Zcz (Zcq g) au29⟩
  have e:i=5:=by omega
  subst e;refine ZcV ?_;exact⟨(),[(61,.blk 61 0)],rfl,Zcx,ZcB rfl rfl gg (Zcr (Qad _)) ZcA,au29⟩
 rintro _ _;refine ZcV ?_;exact⟨.inr trivial,_,rfl,Rn.tup (ZcH (Rn.fz0 (b:=61) rfl (by simp[ints]) (Zcr (Qad _))) (Zcr rfl))⟩
end Go.AM.SO
namespace Go.AM.SO
open Go.Proofs Go.AM.SD Go.AM.SE
theorem none28:PSpec Tryz.prog 28 [expV x00] (.bool true):=by
 refine Zcu 64 XK.ok28 rfl rfl rfl ?_;have c:PSpec Tryz.prog 37 [expV x00,.agg [.int .i64 0,.int .i64 0,.int .i64 0,.int .i64 0,.nilsl,.int .i64 0,.int .i64 0,.int .i64 0,.int .i64 0,.int .i64 0,.int .i64 0,.int .i64 0,.int .i64 0,.int .i64 0]] (.bool true):=by
  refine Zcu 64 XK.ok37 rfl rfl rfl ?_;have b:PSpec Tryz.prog 36 [sliN [],.nilsl] (.bool true):=by refine Zcu 64 XK.ok36 rfl rfl rfl ?_;unfold XK.s36;refine ZcV ?_;refine QaL 100 (fun i:Nat=>[(0,sliN []),(1,.nilsl),(12,.int .i64 0),(13,.int .i64 0)]) (fun _=>[]) (fun i=>True) (fun i=>0) 0 ⟨[],rfl,au0,au30,au29⟩ trivial ?_;rintro i _;refine ZcV ?_;exact⟨.inr trivial,_,rfl,rfl⟩
  have a:aEq (.flat true [.i,.i,.i,.i]) false (.agg [.int .i64 0,.int .i64 0,.int .i64 0,.int .i64 0]) (.agg [.int .i64 0,.int .i64 0,.int .i64 0,.int .i64 0])=some (.bool true):=rfl;unfold XK.s37;refine ZcV ?_;refine cp b ?_;refine ZcW a ?_;exact⟨.inr trivial,_,rfl,rfl⟩
 unfold XK.s28;refine ZcV ?_;refine cp c ?_;refine ZcV ?_;exact⟨.inr trivial,_,rfl,rfl⟩
end Go.AM.SO
namespace Go.AM.SO
open Go.Proofs Go.AM.SD Go.AM.SE
end Go.AM.SO
namespace Go.AM.SO
open Go.Proofs Go.AM.SD Go.AM.SE
end Go.AM.SO
namespace Go.AM.XL
open Go.Proofs
set_option maxHeartbeats 4000000
noncomputable section
def cf:YA.Cf:={most:=.pure,always:=[39,40,41,45,46].map fun k=>(k,.heap)}
def s7:SFn:=by
 refine(?f:YA.Yt Tryz.prog cf 7 [[0,4],[15,16,17,18,19,20,21,22,23,24,25,26,27,28,29,30,31,32,33,34,35],[1,2,36,37],[4,2,36,39,40,38,41,42],[6,43],[1,5,44],[4,44],[],[46,47,48,49,50],[45],[45,52,53,54],[51],[51],[],[58,59,60],[61],[10,62,63,64,65,66,67,68],[69],[70],[70,71],[8,55,56,57,73,74,75,76,72,77,78],[1,5,80,81,82,83,79,84,85],[7,105,97,104,100,103,102,101,99,98,96,95,92,90,91,11,12,13,14,86,87,88,89,93,94,106]]) ?s ?h;case h=>exact YA.rr
 exact fun s _=>s
theorem ok7:okFn Tryz.prog 7 s7=true:=by kernel_rfl
end
end Go.AM.XL
namespace Go.AM.SO
open Go.Proofs Go.AM.SD Go.AM.SE
theorem Qen(c:Cel):wldC c=wldP c (spQ c) (spA c (sync0 (allA c)).1) (spB c (sync0 (allA c)).1) (spP c (sync0 (auL c.cs)).1 (sync0 (allA c)).1) (forb c (sync0 (allA c)).1.length) (resC c):=rfl
end Go.AM.SO
namespace Go.AM.SO
open Go.Proofs Go.AM.SD Go.AM.SE
end Go.AM.SO
namespace Go.AM.EM
open Go.Proofs
set_option maxHeartbeats 4000000
noncomputable section
def cf:YA.Cf:={always:=[(83,.borrow)]}
noncomputable def ft:FT2:=YA.tre Tryz.prog cf 20 [15,16,17,19,21,22,26,27,36,39,40,41,46,48,57,58,59,60,61,62,63,64,68,69,73,74,75,76,77,78,79,80,81,82,83,84,89,90,91,92,96,97,99,108,109,112,113,114,115,116,117,118,119,120,121,122,123,124,125,128,129,130,131,132,133,134,135,136,137,138,139,140,141,142,143,144,145,146,147,148,160,161,162,163,171,174,175,176,177,178,179,180,181,182,194,196,197,198,199,200,201,202,203,204,205,214,215,216,217,218,219,220,221,222,227,228,229,230,231,232,234,235,238,249,250,251,252,253,254,255,256,257,261,262,263,264,265,270,271,272,287,288,289,290,291,297,298,299,300,301,302,303,304,312,313,314,315,316,317,318,319,320,321]
theorem ft_ok:ft.OK Tryz.prog:=YA.QgE _ _ (YA.QfI (by kernel_rfl))
end
end Go.AM.EM
