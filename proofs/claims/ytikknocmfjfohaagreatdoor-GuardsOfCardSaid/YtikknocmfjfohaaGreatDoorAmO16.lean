/- A part of the proof of GuardsOfCardSaid: lemmas on the way (AnGn, AnGp, AnGq, AnGo, AmTo, AmTm, AnCzf, AnGg, AnGs, AnGr, AnGt, AnGu, AnGv, AnGw, AmTp, AnHc, AnHd, AnRy, AnOg, AnVf, AmTy, AnUh, AnVg, AnVm, AnVh, AnUg, AnVi, AnUi). Conditions: none of ours. -/
import Derived.Test.YtikknocmfjfohaaGreatDoorProg
import Derived.KernelRfl
import Derived.Test.YtikknocmfjfohaaGreatDoorAmO15
theorem Go.AM.bWqrL{p:Prop}(h:p:=by
 rw[g]at h;refine Zc1 (Zc7 a d f @Zbn @Qac @Qad @Qae) ?_;refine⟨_,by simpa using h,?_⟩;refine ZcY ?_;refine⟨.inr trivial,_,rfl,?_⟩;rw[Qfr b g m];rfl):p:=h
theorem Go.AM.bWKEZ{p:Prop}(h:p:=by
 refine ZcZ a ?_;refine⟨.inr trivial,_,rfl,?_⟩;rw[Qd5 fun x b=>by obtain⟨j,k,p⟩:=Za4 b;exact m j x (by omega) (by rw[Zak k,p])];rfl):p:=h
theorem Go.AM.bUboM{p:Prop}(h:p:=by
 refine ZcY ?_;refine⟨.inr trivial,_,rfl,?_⟩;exact Rn.fn ZcB (ZcC (Rn.frzp (b:=64) (g:=0) rfl (Zai _) (fun c b _ e=>by simp[π0]at e) (by simp) (Zcl a)) ZcB)):p:=h
theorem Go.AM.b3O9N{p:Prop}(h:p:=by
 refine RSpec.of_wS (n:=300) rfl gg rfl rfl rfl ?_;simp(disch:=first|omega|exact PairsOK.mk rfl|(simp only[lenW]<;>omega))only[upsT,f,g,Qg6,Qiv,evC,Qac,Qad,Qae,wW,wV,simprocAttr];exact⟨rfl,fun x=>set3 rfl⟩):p:=h
theorem Go.AM.baNvm{p:Prop}(h:p:=by
 have h:(S.take i).flatten.length+(S.drop i).flatten.length=S.flatten.length:=by rw[<-Zaf,<-ZbY,Zbd]
 omega):p:=h
theorem Go.AM.bEn4P{p:Prop}(h:p:=by
 refine⟨[(50,.blk 50 0),(51,.blk 51 0),(71,.blk 71 0),(81,.blk 81 0),(82,.blk 82 0)],rfl,au0,?_,au41⟩;exact Zcw rfl rfl gg (Zcl d) (Zcw rfl rfl gg (Zcl f) (Zcw rfl rfl gg (Zcl (QaO _)) (Zcw rfl rfl gg (Zcl (QaB _)) (Zcw rfl rfl gg (Zcl (QaB _)) Zcv))))):p:=h
set_option linter.unusedSectionVars false
set_option maxHeartbeats 32000000
set_option maxRecDepth 100000
set_option linter.unusedVariables false
set_option linter.unusedSimpArgs false
namespace Go.AM.SO
open Go.Proofs Go.AM.SD Go.AM.SE
variable{x:(Nat×List (Nat×Nat))⊕(List (Nat×Int)×Int)}{l:List ((Nat×List (Nat×Nat))⊕(List (Nat×Int)×Int))}{cap:List AV}{t:List Nat}{K i:Nat}
theorem index195(q:(Nat×Nat)->Bool)(l:List (Nat×Nat))(r:l.length<=1000000)(hc:noRefs cap=true)(hk:∀x∈l,Ps K (.agg [.int .i64 (x.1:Int),.int .i64 (x.2:Int)]::cap) (.bool (q x))):Ps 283 [los l,.fn K [] cap] (.int .i64 (idxQ q l)):=by
 refine Zcn 64 (Ok TQ.s283) rfl (by rw[noRefs,noRefs,QbP hc,(SU.Qcp _)];rfl) rfl ?_;have c:=QbP (K:=K) hc;have n:=SU.QgP l;unfold TQ.s283;refine ZcY ?_;refine QaC 100 (fun i:Nat=>[(0,los l),(1,.fn K [] cap),(7,.int .i64 l.length),(8,.int .i64 i)]) (fun _=>[]) (fun i=>i<=l.length/\∀(j:Nat)y,j<i->l[j]?=some y->q y=false) (fun i=>l.length-i) 0 ?_ ⟨Zai _,fun j y k=>absurd k (ZaD _)⟩ ?_;·exact⟨[],rfl,Zcs,Zcv,Zcu (Zck (SU.Qcp _)) (Zcu (Zck c) (Zcu (Zck rfl) (Zcu (Zck rfl) Zct)))⟩
 rintro i⟨hi,m⟩;by_cases a:i<l.length
 ·obtain⟨x,b⟩:=Qak a;have h:=hk x (Zac b);have d:=QjY b;have f:2<=(List.drop (i*2) (l.flatMap loC)).length:=by rw[ZaQ,n];omega
  cases g:q x
  ·rw[g]at h;refine Zc1 (Zc7 a d f @Zbn @Qac @Qad @Qae) ?_;refine⟨_,by simpa using h,?_⟩;refine ZcY ?_;refine⟨i+1,by omega,⟨by omega,fun j y k o=>?_⟩,?_⟩
   ·by_cases e:j=i;·subst e;rw[b]at o;cases o;exact g
    exact m j y (by omega) o
   exact⟨[],rfl,Zcs,Zcv,Zcu (Zck (SU.Qcp _)) (Zcu (Zck c) (Zcu (Zck rfl) (Zcu (Zck rfl) Zct)))⟩
  exact bWqrL
 exact bWKEZ
theorem index48(q:Ed->Bool)(l:List Ed)(r:l.length<=1000000)(hc:noRefs cap=true)(hk:∀x∈l,Ps K (.agg [.int .i64 (x.1:Int),.int .i64 (x.2.1:Int),.int .i64 (x.2.2:Int)]::cap) (.bool (q x))):Ps 236 [egsN l,.fn K [] cap] (.int .i64 (idxQ q l)):=by
 refine Zcn 64 (Ok TQ.s236) rfl (by rw[noRefs,noRefs,QbP hc,(Qaj _)];rfl) rfl ?_;have c:=QbP (K:=K) hc;have n:=(Qbe (k:=3) (fun _=>rfl) l:(l.flatMap edC).length=l.length*3);unfold TQ.s236;refine ZcY ?_;refine QaC 100 (fun i:Nat=>[(0,egsN l),(1,.fn K [] cap),(7,.int .i64 l.length),(8,.int .i64 i)]) (fun _=>[]) (fun i=>i<=l.length/\∀(j:Nat)y,j<i->l[j]?=some y->q y=false) (fun i=>l.length-i) 0 ?_ ⟨Zai _,fun j y k=>absurd k (ZaD _)⟩ ?_;·exact⟨[],rfl,Zcs,Zcv,Zcu (Zck (Qaj _)) (Zcu (Zck c) (Zcu (Zck rfl) (Zcu (Zck rfl) Zct)))⟩
 rintro i⟨hi,m⟩;by_cases a:i<l.length
 ·obtain⟨x,b⟩:=Qak a;have h:=hk x (Zac b);have d:=QaT b;have f:3<=(List.drop (i*3) (l.flatMap edC)).length:=by rw[ZaQ,n];omega
  cases g:q x
  ·rw[g]at h;refine Zc1 (Zc7 a d f @Zbn @Qac @Qad @Qae) ?_;refine⟨_,by simpa using h,?_⟩;refine ZcY ?_;refine⟨i+1,by omega,⟨by omega,fun j y k o=>?_⟩,?_⟩
   ·by_cases e:j=i;·subst e;rw[b]at o;cases o;exact g
    exact m j y (by omega) o
   exact⟨[],rfl,Zcs,Zcv,Zcu (Zck (Qaj _)) (Zcu (Zck c) (Zcu (Zck rfl) (Zcu (Zck rfl) Zct)))⟩
  exact bWqrL
 exact bWKEZ
theorem contains115(q:Nat×Nat->Bool)(l:List (Nat×Nat))(c:l.length<=1000000)(hc:noRefs cap=true)(hk:∀x∈l,Ps K (.agg [.int .i64 (x.1:Int),.int .i64 (x.2:Int)]::cap) (.bool (q x))):Ps 261 [los l,.fn K [] cap] (.bool (l.any q)):=by refine Zcn 64 (Ok TQ.s261) rfl (by rw[noRefs,noRefs,QbP hc,SU.Qcp];rfl) rfl ?_;have h:=index195 q l c hc hk;have d:=QbP (K:=K) hc;have b:=@Qo6 _ q l;generalize idxQ q l=a at*;unfold TQ.s261;refine ZcY ?_;refine cp h ?_;refine ZcZ b ?_;exact⟨.inr trivial,_,rfl,rfl⟩
theorem other234(t)(c s y:Nat)(a:t[c]?=some y):Ps 262 [.agg [.int .i64 (c:Int),.int .i64 (s:Int)],.fptr [sliN t]] (.bool (!decide (y=s))):=by refine Zcn 64 (Ok TQ.s262) rfl (by simp only[noRefs,noRef,Qaa];rfl) rfl ?_;have hc:c<t.length:=(Zaj.1 a).1;have b:decide ((y:Int)=(s:Int))=decide (y=s):=decide_eq_decide.2 (by omega);unfold TQ.s262;refine ZcZ (Zc3 (QaH a) hc b) ?_;exact⟨.inr trivial,_,rfl,rfl⟩
def exQ(t:List Nat)(x:Nat×List (Nat×Nat)):Bool:=!x.2.any fun l=>!decide (t.getD l.1 0=l.2)
theorem excl233(t:List Nat)(x:Nat×List (Nat×Nat))(g:x.2.length<=1000)(d:∀l∈x.2,l.1<t.length):Ps 260 [sliN t,.fptr (exC x)] (.bool (exQ t x)):=by
 have a:noRefs (exC x)=true:=by simp only[exC,noRefs,noRef,SU.Qby];rfl
 refine Zcn 64 (Ok TQ.s260) rfl (by rw[noRefs,noRefs,Qab,noRef,a];rfl) rfl ?_;have f:=contains115 (K:=262) (cap:=[.fptr [sliN t]]) (fun l=>!decide (t.getD l.1 0=l.2)) x.2 (by omega) (by simp only[noRefs,noRef,Qaa];rfl) fun l hm=>by obtain⟨y,c⟩:=Qak (d l hm);have:=other234 t l.1 l.2 y c;rwa[show t.getD l.1 0=y by rw[Zah,c];rfl]
 show wS _ _ _ _ _ (argT 0 [sliN t,.fptr [.str [101,UInt8.ofNat (48+x.1)],los x.2]]) _ _;unfold exQ;generalize x.2.any (fun l=>!decide (t.getD l.1 0=l.2))=b at*;unfold TQ.s260;refine ZcY ?_;refine SU.chc (ZcI (ZcL (Zcq _) (ZcL (FrzTo.fn ZcK (ZcL (ZcH (g:=0) (cs:=[sliN t]) gg (Zcr _)) ZcK)) ZcK)) f rfl) ?_;refine ZcY ?_;exact⟨.inr trivial,_,rfl,rfl⟩
def koV(t:List Nat)(l:List (Nat×Int)):Int:=(l.map fun x=>x.2*(t.getD x.1 0:Int)).foldl (·+·) 0
theorem Qnu{l:List (Nat×Int)}{x}(h:l[i]?=some x):koV t (l.take (i+1))=koV t (l.take i)+x.2*(t.getD x.1 0:Int):=by unfold koV;rw[take_succ' h,ZaI,Za8];rfl
theorem Qlw{a b}(h:-4<a/\a<4)(c:0<=b/\b<3):-12<=a*b/\a*b<=12:=by
 obtain rfl|rfl|rfl:b=0\/b=1\/b=2:=by omega
 ·omega
 ·omega
 omega
theorem Qlx(b:∀x∈t,x<3){l:List (Nat×Int)}(c:∀x∈l,-4<x.2/\x.2<4):∀i,i<=l.length->-12*(i:Int)<=koV t (l.take i)/\koV t (l.take i)<=12*(i:Int)
 |0,_=>by simp[koV]|i+1,hi=>by
  obtain⟨x,a⟩:=Qak (l:=l) (i:=i) (by omega);rw[Qnu a];have h1:=Qlx b c i (by omega);have d:(0:Int)<=(t.getD x.1 0:Int)/\(t.getD x.1 0:Int)<3:=by
   refine⟨by omega,?_⟩;rcases ZbG x.1 t.length with h|h;·have :=b (t.getD x.1 0) (by rw[Zah,Zak h];exact List.getElem_mem h);omega
   rw[Zah,ZaF h];decide
  have f:=Qlw (c x (Zac a)) d;omega
theorem value236(t:List Nat)(k:List (Nat×Int)×Int)(hk:k.1.length<=1000)(p:∀x∈t,x<3)(hc:∀x∈k.1,x.1<t.length/\-4<x.2/\x.2<4):Ps 264 [.agg (coC k),sliN t] (.int .i64 (koV t k.1)):=by
 have m:noRefs (coC k)=true:=by simp only[coC,noRefs,noRef,SU.QaX];rfl
 refine Zcn 64 (Ok TQ.s264) rfl (by rw[noRefs,noRefs,Qab,noRef,m];rfl) rfl ?_;have q:=SU.Qdk k.1;have l:=Qlx p fun x c=>(hc x c).2;show wS _ _ _ _ _ (argT 0 [.agg [.str [107],tes k.1,.int .i64 k.2],sliN t]) _ _;unfold TQ.s264;refine ZcY ?_;refine Qar 100 (fun i:Nat=>[(1,sliN t),(5,.int .i64 (koV t (k.1.take i))),(9,tes k.1),(10,.int .i64 k.1.length),(11,.int .i64 i)]) (fun _=>[]) (fun i=>i<=k.1.length) (fun i=>k.1.length-i) 0 0 160 (fun _:Unit=>[(5,.int .i64 (koV t k.1))]) (fun _=>[]) (fun _=>True) ?_ (Zai _) ?_ ?_;·exact⟨[],rfl,Zcs,Zcv,Zcu (Zck (Qab _)) (Zcu (Zck rfl) (Zcu (Zck (SU.QcJ _)) au20))⟩
 ·rintro i hi;by_cases a:i<k.1.length
  ·obtain⟨x,c⟩:=Qak a;obtain⟨h1,u⟩:=hc x (Zac c);obtain⟨y,h⟩:=Qak h1;have r:=p y (Zac h);have o:t.getD x.1 0=y:=by rw[Zah,h];rfl
   have d:=SU.QdL c;have g:2<=((k.1.flatMap teC).drop (i*2)).length:=by rw[d];simp
   have b:=Qnu (t:=t) c;rw[o]at b;have hp:=Qlw u (b:=(y:Int)) ⟨by omega,by omega⟩;have s:=l i hi;have n:wr .i64 (x.2*(y:Int))=x.2*(y:Int):=Qgw (by omega) (by omega);have f:wr .i64 (koV t (k.1.take i)+x.2*(y:Int))=koV t (k.1.take i)+x.2*(y:Int):=Qgw (by omega) (by omega);refine ZcZ (Zc7 a d g h1 (QaH h) n f) ?_;refine⟨i+1,by omega,by omega,?_⟩;rw[b];exact⟨[],rfl,Zcs,Zcv,Zcu (Zck (Qab _)) (Zcu (Zck rfl) (Zcu (Zck (SU.QcJ _)) au20))⟩
  have e:i=k.1.length:=by omega
  subst e;refine ZcT a ?_;exact⟨(),⟨[],rfl,au0,au33,au20⟩⟩
 rintro _ _;refine ZcY ?_;exact⟨.inr trivial,_,rfl,rfl⟩
def koQ(t:List Nat)(k:List (Nat×Int)×Int):Bool:=decide (k.2<koV t k.1)
theorem excd235(t:List Nat)(k:List (Nat×Int)×Int)(hk:k.1.length<=1000)(c:∀x∈t,x<3)(hc:∀x∈k.1,x.1<t.length/\-4<x.2/\x.2<4):Ps 263 [sliN t,.fptr (coC k)] (.bool (koQ t k)):=by
 have a:noRefs (coC k)=true:=by simp only[coC,noRefs,noRef,SU.QaX];rfl
 refine Zcn 64 (Ok TQ.s263) rfl (by rw[noRefs,noRefs,Qab,noRef,a];rfl) rfl ?_;have b:=value236 t k hk c hc;show wS _ _ _ _ _ (argT 0 [sliN t,.fptr [.str [107],tes k.1,.int .i64 k.2]]) _ _;unfold koQ;unfold TQ.s263;refine ZcY ?_;refine cp b ?_;refine ZcY ?_;exact⟨.inr trivial,_,rfl,rfl⟩
def cdF:(Nat×List (Nat×Nat))⊕(List (Nat×Int)×Int)->AV|.inl x=>.fn 260 [] [.fptr (exC x)]|.inr k=>.fn 263 [] [.fptr (coC k)]
def cdQ(t:List Nat):(Nat×List (Nat×Nat))⊕(List (Nat×Int)×Int)->Bool|.inl x=>exQ t x|.inr k=>koQ t k
def cdA(xs:List (Nat×List (Nat×Nat)))(ks:List (List (Nat×Int)×Int)):List ((Nat×List (Nat×Nat))⊕(List (Nat×Int)×Int)):=xs.map .inl++ks.map .inr
abbrev cdL(l:List ((Nat×List (Nat×Nat))⊕(List (Nat×Int)×Int))):AV:=.fsl (l.map cdF) l.length 1
theorem QbQ(x):noRef (cdF x)=true:=by cases x with|inl x=>simp only[cdF,exC,noRef,noRefs,SU.Qby];rfl|inr k=>simp only[cdF,coC,noRef,noRefs,SU.QaX];rfl
theorem Qdc(l):noRef (cdL l)=true:=by rw[cdL,noRef];exact Qax QbQ _
theorem Qut(h:l[i]?=some x):((l.map cdF).drop i).head?=some (cdF x):=by rw[ZbB,Zaz,h];rfl
theorem index203(q:((Nat×List (Nat×Nat))⊕(List (Nat×Int)×Int))->Bool)(l)(r:l.length<=1000000)(hc:noRefs cap=true)(hk:∀x∈l,Ps K (cdF x::cap) (.bool (q x))):Ps 218 [cdL l,.fn K [] cap] (.int .i64 (idxQ q l)):=by
 refine Zcn 64 (Ok TQ.s218) rfl (by rw[noRefs,noRefs,QbP hc,(Qdc _)];rfl) rfl ?_;have c:=QbP (K:=K) hc;have n:=(show(l.map cdF).length=l.length*1 by simp);unfold TQ.s218;refine ZcY ?_;refine QaC 100 (fun i:Nat=>[(0,cdL l),(1,.fn K [] cap),(7,.int .i64 l.length),(8,.int .i64 i)]) (fun _=>[]) (fun i=>i<=l.length/\∀(j:Nat)y,j<i->l[j]?=some y->q y=false) (fun i=>l.length-i) 0 ?_ ⟨Zai _,fun j y k=>absurd k (ZaD _)⟩ ?_;·exact⟨[],rfl,Zcs,Zcv,Zcu (Zck (Qdc _)) (Zcu (Zck c) (Zcu (Zck rfl) (Zcu (Zck rfl) Zct)))⟩
 rintro i⟨hi,m⟩;by_cases a:i<l.length
 ·obtain⟨x,b⟩:=Qak a;have h:=hk x (Zac b);have d:=Qut b;have f:1<=(List.drop (i*1) (l.map cdF)).length:=by rw[ZaQ,n];omega
  cases g:q x
  ·rw[g]at h;refine Zc1 (Zc7 a d f @Zbn @Qac @Qad @Qae) ?_;refine⟨_,by simpa using h,?_⟩;refine ZcY ?_;refine⟨i+1,by omega,⟨by omega,fun j y k o=>?_⟩,?_⟩
   ·by_cases e:j=i;·subst e;rw[b]at o;cases o;exact g
    exact m j y (by omega) o
   exact⟨[],rfl,Zcs,Zcv,Zcu (Zck (Qdc _)) (Zcu (Zck c) (Zcu (Zck rfl) (Zcu (Zck rfl) Zct)))⟩
  exact bWqrL
 exact bWKEZ
structure TOk(S:List Nat)(t:List Nat)(xs:List (Nat×List (Nat×Nat)))(ks:List (List (Nat×Int)×Int)):Prop where
 ln:t.length=S.length
 l3:t.length<=1000
 t3:∀k∈ks,∀x∈t,x<3
 lt:∀(i:Nat)x n,t[i]?=some x->S[i]?=some n->x<n
 xl:∀x∈xs,x.2.length<=1000/\∀l∈x.2,l.1<t.length
 kl:∀k∈ks,k.1.length<=1000/\∀x∈k.1,x.1<t.length/\-4<x.2/\x.2<4
 xn:xs.length<=1000
 kn:ks.length<=1000
variable{S t:List Nat}{xs:List (Nat×List (Nat×Nat))}{ks:List (List (Nat×Int)×Int)}
theorem call204(h:TOk S t xs ks)(a:x∈cdA xs ks):Ps 219 [cdF x,.fptr [sliN t]] (.bool (cdQ t x)):=by
 refine Zcn 64 (Ok TQ.s219) rfl (by rw[noRefs,QbQ,noRefs];simp only[noRefs,noRef,Qaa];rfl) rfl ?_;unfold cdA at a;rcases ZaE.1 a with a|a;·obtain⟨y,b,rfl⟩:=Zap.1 a;have hc:=excl233 t y (h.xl y b).1 (h.xl y b).2;simp(disch:=first|omega|exact PairsOK.mk rfl|(simp only[lenW]<;>omega))only[TQ.s219,cdF,Qac,Qad,Qae,wW,wV,simprocAttr];refine⟨_,by simpa using hc,?_⟩;refine ZcY ?_;exact⟨.inr trivial,_,rfl,rfl⟩
 obtain⟨y,b,rfl⟩:=Zap.1 a;have hc:=excd235 t y (h.kl y b).1 (h.t3 y b) (h.kl y b).2;simp(disch:=first|omega|exact PairsOK.mk rfl|(simp only[lenW]<;>omega))only[TQ.s219,cdF,Qac,Qad,Qae,wW,wV,simprocAttr];refine⟨_,by simpa using hc,?_⟩;refine ZcY ?_;exact⟨.inr trivial,_,rfl,rfl⟩
theorem Qer:(cdA xs ks).length=xs.length+ks.length:=by simp[cdA]
theorem violated158(h:TOk S t xs ks):Ps 171 [cdL (cdA xs ks),sliN t] (.int .i64 (idxQ (cdQ t) (cdA xs ks))):=by have a:=Qdc (cdA xs ks);refine Zcn 64 (Ok TQ.s171) rfl (by rw[noRefs,a,noRefs,Qab];rfl) rfl ?_;have b:=index203 (K:=219) (cap:=[.fptr [sliN t]]) (cdQ t) (cdA xs ks) (by rw[Qer];have:=h.xn;have:=h.kn;omega) (by simp only[noRefs,noRef,Qaa];rfl) fun x c=>call204 h c;generalize cdA xs ks=l at*;unfold TQ.s171;refine ZcY ?_;refine SU.chc (ZcI (ZcL (Zcq _) (ZcL (FrzTo.fn ZcK (ZcL (ZcH (g:=0) (cs:=[sliN t]) gg (Zcr _)) ZcK)) ZcK)) b rfl) ?_;refine ZcY ?_;exact⟨.inr trivial,_,rfl,rfl⟩
theorem mk205(x):Ps 220 [.agg (exC x)] (cdF (.inl x)):=by
 have a:noRefs (exC x)=true:=by simp only[exC,noRefs,noRef,SU.Qby];rfl
 refine Zcm 64 (Ok TQ.s220) rfl (by rw[noRefs,noRef,a];rfl) (QbQ _) ?_;show wS _ _ _ _ _ (argT 0 [.agg [.str [101,UInt8.ofNat (48+x.1)],los x.2]]) _ _;unfold TQ.s220;exact bUboM
theorem mk206(k):Ps 221 [.agg (coC k)] (cdF (.inr k)):=by
 have a:noRefs (coC k)=true:=by simp only[coC,noRefs,noRef,SU.QaX];rfl
 refine Zcm 64 (Ok TQ.s221) rfl (by rw[noRefs,noRef,a];rfl) (QbQ _) ?_;show wS _ _ _ _ _ (argT 0 [.agg [.str [107],tes k.1,.int .i64 k.2]]) _ _;unfold TQ.s221;exact bUboM
theorem Qly(x):(cdF x).cells=[cdF x]:=by cases x<;>rfl
theorem Qpg(x):(cdF x).one=true:=by cases x<;>rfl
theorem Qph(x):(cdF x).boxable=true:=by cases x<;>rfl
theorem conds159(m:xs.length<=1000)(hk:ks.length<=1000):Ps 172 [cdV S xs ks] (cdL (cdA xs ks)):=by
 have b:=@Qcd S xs ks;refine Zcm 64 (Ok TQ.s172) rfl (by rw[noRefs,noRef,b];rfl) (Qdc _) ?_;have o:=SU.QeP xs;have n:=QgQ ks;show wS _ _ _ _ _ (argT 0 [.agg [sliN S,exs xs,cos ks]]) _ _;unfold TQ.s172;refine ZcY ?_;refine Qar 100 (fun i:Nat=>[(1,.ptr 51 0 0),(3,.sl 60 0 0 i 1),(9,exs xs),(10,.int .i64 xs.length),(11,.int .i64 i)]) (fun i=>[(51,.cells 0 [sliN S,exs xs,cos ks]),(60,.cells 0 ((cdA (xs.take i) []).map cdF))]) (fun i=>i<=xs.length) (fun i=>xs.length-i) 0 0 160 (fun _:Unit=>[(1,.ptr 51 0 0),(3,.sl 60 0 0 xs.length 1)]) (fun _=>[(51,.cells 0 [sliN S,exs xs,cos ks]),(60,.cells 0 ((cdA xs []).map cdF))]) (fun _=>True) ⟨[(51,.blk 64 0),(60,.nil)],rfl,au0,?_,au20⟩ (Zai _) ?_ ?_;·exact Zcw rfl rfl gg (Zcl b) (Zcx rfl rfl Zcv)
 ·rintro i hi;by_cases a:i<xs.length
  ·obtain⟨x,m⟩:=Qak a;have d:=QjZ m;have g:2<=((xs.flatMap exC).drop (i*2)).length:=by rw[d];simp
   have h:((cdA (xs.take i) []).map cdF).length=i:=by rw[Zav,Qer,Zaq];simp;omega
   have hm:=mk205 x;have hc:=Qly (.inl x);have ho:=Qpg (.inl x);have l:=Qph (.inl x);have f:(cdA (xs.take (i+1)) []).map cdF=(cdA (xs.take i) []).map cdF++[cdF (.inl x)]:=by rw[take_succ' m];simp[cdA]
   have c:=QbQ (.inl x);generalize cdF (.inl x)=F at*;refine ZcZ (Zc3 a d g) ?_;refine cp hm ?_;refine ZcZ (Zc5 hc ho l h c) ?_;refine⟨i+1,by omega,by omega,?_⟩;rw[f];refine⟨[(51,.blk 51 0),(60,.blk 60 1)],rfl,au0,?_,au20⟩;exact Zcw rfl rfl gg (Zcl b) (Zcw rfl rfl gg (Zcl (SU.Qaw (Qax QbQ _) (by rw[noRefs,c];rfl))) Zcv)
  have e:i=xs.length:=by omega
  subst e;refine ZcT a ?_;refine⟨(),?_⟩;refine⟨[(51,.blk 51 0),(60,.blk 60 0)],rfl,au0,?_,au20⟩;exact Zcw rfl rfl gg (Zcl b) (Zcw rfl rfl gg (Zcl (Qax QbQ _)) Zcv)
 rintro _ _;refine ZcY ?_;refine Qar 200 (fun i:Nat=>[(3,.sl 60 0 0 (xs.length+i) 1),(22,cos ks),(23,.int .i64 ks.length),(24,.int .i64 i)]) (fun i=>[(60,.cells 0 ((cdA xs (ks.take i)).map cdF))]) (fun i=>i<=ks.length) (fun i=>ks.length-i) 0 2 260 (fun _:Unit=>[(3,cdL (cdA xs ks))]) (fun _=>[]) (fun _=>True) ⟨[(60,.blk 60 0)],rfl,au0,?_,au20⟩ (Zai _) ?_ ?_;·exact Zcw rfl rfl gg (Zcl (Qax QbQ _)) Zcv
 ·rintro i hi;by_cases a:i<ks.length
  ·obtain⟨k,hk⟩:=Qak a;have d:=Qj0 hk;have g:3<=((ks.flatMap coC).drop (i*3)).length:=by rw[d];simp
   have h:((cdA xs (ks.take i)).map cdF).length=xs.length+i:=by rw[Zav,Qer,Zaq];omega
   have hm:=mk206 k;have hc:=Qly (.inr k);have ho:=Qpg (.inr k);have l:=Qph (.inr k);have f:(cdA xs (ks.take (i+1))).map cdF=(cdA xs (ks.take i)).map cdF++[cdF (.inr k)]:=by rw[take_succ' hk];simp[cdA]
   have c:=QbQ (.inr k);generalize cdF (.inr k)=F at*;refine ZcZ (Zc3 a d g) ?_;refine cp hm ?_;refine ZcZ (Zc5 hc ho l h c) ?_;refine⟨i+1,by omega,by omega,?_⟩;rw[f];refine⟨[(60,.blk 60 1)],rfl,au0,?_,au20⟩;exact Zcw rfl rfl gg (Zcl (SU.Qaw (Qax QbQ _) (by rw[noRefs,c];rfl))) Zcv
  have e:i=ks.length:=by omega
  subst e;refine ZcT a ?_;exact⟨(),[],rfl,Zcs,Zcv,Zcu (ZcD (b:=60) (g:=0) gg rfl rfl Qer (by rw[Zav,Qer];simp) (Zcl (Qax QbQ _))) Zct⟩
 rintro _ _;refine ZcY ?_;exact⟨.inr trivial,_,rfl,Zck (Qdc _)⟩
end Go.AM.SO
namespace Go.AM.SO
open Go.Proofs Go.AM.SD Go.AM.SE
variable{S t:List Nat}{xs:List (Nat×List (Nat×Nat))}{ks:List (List (Nat×Int)×Int)}
variable{c:Cel}
theorem checkT202(h:TOk S t xs ks):Ps 217 [cdV S xs ks,sliN t] (.int .i64 0):=by
 have a:=@Qcd S xs ks;refine Zcn 64 (Ok TQ.s217) rfl (by rw[noRefs,noRef,a,noRefs,Qab];rfl) rfl ?_;have l:=h.l3;have c:(t.length=S.length)=True:=eq_true h.ln;have f:((t.length:Int)=(S.length:Int))=True:=eq_true (by rw[h.ln]);show wS _ _ _ _ _ (argT 0 [.agg [sliN S,exs xs,cos ks],sliN t]) _ _;unfold TQ.s217;refine ZcZ (Zc2 c f) ?_;refine Qar 100 (fun i:Nat=>[(2,.ptr 51 0 0),(13,sliN t),(14,.int .i64 t.length),(15,.int .i64 i)]) (fun _=>[(51,.cells 0 [sliN S,exs xs,cos ks])]) (fun i=>i<=t.length) (fun i=>t.length-i) 0 0 160 (fun _:Unit=>[]) (fun _=>[]) (fun _=>True) ?_ (Zai _) ?_ ?_;·refine⟨[(51,.blk 64 0)],rfl,au0,?_,au20⟩;exact Zcw rfl rfl gg (Zcl a) Zcv
 ·rintro i hi;by_cases b:i<t.length
  ·obtain⟨x,g⟩:=Qak b;obtain⟨n,k⟩:=Qak (l:=S) (i:=i) (by rw[<-h.ln];exact b);have d:i<S.length:=by rw[<-h.ln];exact b
   have m:=h.lt i x n g k;have g1:¬(x:Int)<0:=by omega
   have g2:¬(n:Int)<=(x:Int):=by omega
   refine ZcZ (Zc6 b d (QaH g) (QaH k) g1 g2) ?_;refine⟨i+1,by omega,by omega,?_⟩;refine⟨[(51,.blk 51 0)],rfl,au0,?_,au20⟩;exact Zcw rfl rfl gg (Zcl a) Zcv
  refine ZcZ b ?_;exact⟨(),⟨[],rfl,au0,au33,au20⟩⟩
 rintro _ _;refine ZcY ?_;exact⟨.inr trivial,_,rfl,rfl⟩
theorem QrW(h:WfCel c)(m:InT (auL c.cs) t):TOk (szs c) t c.xs c.ks:=by
 have f:t.length=c.cs.length:=by rw[m.1,Qbf]
 have r:=h.c3;have a:=h.x2;have hk:=h.k1;refine⟨by rw[f,h.slen],by omega,fun _ _ x a=>m.lt (Qbq h) a,fun i x n hi d=>?_,fun x a=>⟨by have:=h.xlen a;omega,fun l o=>?_⟩,fun k hk=>⟨by have:=h.klen hk;omega,fun x a=>?_⟩,by omega,by omega⟩
 ·have g:i<c.cs.length:=by rw[<-f];exact(Zaj.1 hi).1
  obtain⟨y,b⟩:=Qak g;have h1:=m.2 i y.2 (by rw[Zaz,b];rfl);rw[Zah,hi]at h1;unfold szs at d;rw[Zaz,b]at d;simp only[ZbC,Zaa]at d;subst d;simpa using h1
 ·obtain⟨y,b,_⟩:=(h.xl x a).2.2 l o;rw[f];exact(Zaj.1 b).1
 obtain⟨h1,_,q,p⟩:=(h.kl k hk).2.2.1 x a;exact⟨by rw[f];exact h1,q,p⟩
theorem checkT157(c)(h:WfCel c)(d:InT (auL c.cs) t):Ps 170 [cdV (szs c) c.xs c.ks,sliN t] (.int .i64 0):=by have a:=@Qcd (szs c) c.xs c.ks;refine Zcn 64 (Ok TQ.s170) rfl (by rw[noRefs,noRef,a,noRefs,Qab];rfl) rfl ?_;have h1:=conds32 c h;have b:=checkT202 (QrW h d);show wS _ _ _ _ _ (argT 0 [.agg [sliN (szs c),exs c.xs,cos c.ks],sliN t]) _ _;unfold TQ.s170;refine ZcY ?_;refine cp h1 ?_;refine ZcY ?_;refine cp b ?_;refine ZcY ?_;exact⟨.inr trivial,_,rfl,rfl⟩
theorem Qis{α}{q}{A:List α}:-1<=idxQ q A/\(0<=idxQ q A->idxQ q A<A.length):=by
 unfold idxQ;by_cases a:A.any q=true;·rw[if_pos a];have:A.findIdx q<A.length:=Zbo (by simpa using a);exact⟨by omega,fun _=>by omega⟩
 rw[if_neg a];exact⟨by omega,fun h=>by omega⟩
def vioV(t:List Nat)(xs:List (Nat×List (Nat×Nat)))(ks:List (List (Nat×Int)×Int)):Int×Int×Bool:=if idxQ (cdQ t) (cdA xs ks)<0 then(0,0,false)else if idxQ (cdQ t) (cdA xs ks)<xs.length then(1,idxQ (cdQ t) (cdA xs ks),true)else(2,idxQ (cdQ t) (cdA xs ks)-xs.length,true)
theorem violated73(c)(h:WfCel c)(g:InT (auL c.cs) t):Ps 116 [cdV (szs c) c.xs c.ks,sliN t] (.tup [.int .i64 (vioV t c.xs c.ks).1,.int .i64 (vioV t c.xs c.ks).2.1,.bool (vioV t c.xs c.ks).2.2,.int .i64 0]):=by
 have b:=@Qcd (szs c) c.xs c.ks;refine Zcn 64 (Ok TQ.s116) rfl (by rw[noRefs,noRef,b,noRefs,Qab];rfl) rfl ?_;have h1:=checkT157 c h g;have ho:=QrW h g;have i:=conds159 (S:=szs c) ho.xn ho.kn;have m:=violated158 ho;have hle:=@Qis _ (cdQ t) (cdA c.xs c.ks);have k:=h.x2;have l:=h.k1;rw[Qer]at hle;unfold vioV;generalize idxQ (cdQ t) (cdA c.xs c.ks)=a at*;show wS _ _ _ _ _ (argT 0 [.agg [sliN (szs c),exs c.xs,cos c.ks],sliN t]) _ _;unfold TQ.s116;refine ZcY ?_;refine cp h1 ?_;refine ZcY ?_;refine cp i ?_;refine ZcY ?_;refine cp m ?_;by_cases d:a<0;·refine ZcZ d ?_;exact⟨.inr trivial,_,rfl,rfl⟩
 by_cases f:a<c.xs.length;·refine ZcZ (Zc2 d f) ?_;exact⟨.inr trivial,_,rfl,rfl⟩
 have hw:wr .i64 (a-(c.xs.length:Int))=a-(c.xs.length:Int):=Qgw (by omega) (by omega);refine ZcZ (Zc3 d f hw) ?_;exact⟨.inr trivial,_,rfl,rfl⟩
end Go.AM.SO
namespace Go.AM.TR
open Go.Proofs
set_option maxHeartbeats 4000000
noncomputable section
def cf:YA.Cf:={most:=.pure,always:=[100,101].map fun k=>(k,.heap)}
def s113:SFn:=by
 refine(?f:YA.Yt Tryz.prog cf 113 [[0,2,3],[8,9,10],[5],[12,13,14,15,11,16,17,18,19,20,21,22],[23],[1,4,5,24,25],[2,3,24,27,28,29,30,31,32,33,34,35,36,26,37,38,39,40,41,42,43],[44],[1,4,5,45,46],[2,3,1,5,45,47,48,49,50,51,52,53,54,55],[56,57,58],[],[62,63,64,65],[6,7,66,67,68,69,70,71,72],[73],[4,59,60,61,74]] [(9,[(4,6)])]) ?s ?h;case h=>exact YA.rr
 exact fun s _=>s
def s173:SFn:=by
 refine(?f:YA.Yt Tryz.prog cf 173 [[2,11,12,13,14,15,16,10,17,18,6],[5],[],[22,23,24],[25,26,27,28],[8,9,29,30,31],[37,38]]) ?s ?h;case h=>exact YA.rr
 exact fun s _=>s
end
end Go.AM.TR
namespace Go.AM
variable{P:Program}
variable{v:AV}{h:Heap}{ds:List AV}{w:World}
theorem HRel.give{ok}{c:Ctx ok}(H:HRel c h w){b g len sz}(B:h.get b=some (.cells g ds))(P:noRefs ds=true)(S:ds.length=len*sz)(F:Nat.blt b 1099511627775=true):∃c2,Evo c w c2 w/\HRel c2 (h.set b (.dead g)) w/\(∀v,VRel c w (.sl b g 0 len sz) v->VRel c2 w (.fsl ds len sz) v)/\∀x v,noRef x=true->VRel c w x v->VRel c2 w x v:=by
 have l:b<1099511627775:=by simp_all
 have a:Live h b g:=⟨_,B,rfl,fun _=>by simp⟩;let c2:Ctx ok:={c with F:=fun k=>c.F k\/∃base,c.ρ b g=some (.loc k base),O:=fun k=>c.O k/\¬∃base,c.ρ b g=some (.loc k base)};have d:∀k,(h.set b (.dead g)).get k=if k=b then some (.dead g)else h.get k:=fun k=>by
  by_cases e:k=b;·subst e;rw[QaE l,if_pos rfl]
  simp_all[QaL]
 have s:∀k y,Live (h.set b (.dead g)) k y->k≠b/\Live h k y:=by
  rintro k y⟨x,hk,hg,A⟩;rw[d]at hk;split at hk;·grind
  rename_i e;exact⟨e,x,hk,hg,A⟩
 have E:=Evo.refl c w;have E2:Evo c w c2 w:=⟨E.os,E.tape,E.output,E.size,E.shape,E.keep,E.rho,fun k hk=>.inl (E.frz k hk),fun k hk=>by
  rcases hk with hk|⟨base,hk⟩;·simp_all
  exact .inr (.inl (H.owned a hk)),fun k hk=>E.own k hk.1,E.base⟩;refine⟨c2,E2,⟨fun k hk y=>?_,fun k x hk y p=>?_,fun k x hk=>?_,fun k y K T t base i l1 I p1 U=>H.inj k y K T t base i (s _ _ l1).2 (s _ _ I).2 p1 U,fun k f hO=>?_,fun k f=>?_,fun k hO=>H.inO k hO.1⟩,fun v V=>?_,fun x v N X=>Zch (c:=c) (c':=c2) (fun _ h=>.inl h) _ _ N X⟩
 ·rw[d]at hk;split at hk;·cases hk
  exact H.fresh k hk y
 ·rw[d]at hk;split at hk;·rename_i e;subst e;cases hk;exact H.later k _ B y p
  exact H.later k x hk y p
 ·rw[d]at hk;split at hk;·cases hk;trivial
  rename_i e;refine Zcg (c:=c) (c':=c2) (w:=w) (w':=w) ⟨fun _ _ _ h=>h,fun _ h=>.inl h,fun _ _ _ h=>h,fun _ C _ G h=>⟨C,G,h,rfl⟩⟩ (fun t base A hp=>?_) (H.blk k x hk);have n:Live h k x.gen:=⟨x,hk,rfl,A⟩;exact⟨⟨H.owned n hp,fun⟨i,u⟩=>e (H.inj _ _ _ _ _ _ _ n a hp u)⟩,rfl⟩
 ·rcases f with f|f;·exact H.disj k f hO.1
  grind
 ·rcases f with f|⟨base,f⟩;·exact H.inF k f
  exact H.inO k (H.owned a f)
 simp only[VRel]at V;rcases V with⟨hp,rfl,_,rfl⟩|⟨t,base,o,cap,C,e,G,hp,rfl,L,Y,r⟩;·simp_all[VRel]
 obtain⟨C',e',M,hO,q,O,Q,m⟩:=H.here B hp;rw[Y]at q;cases q;have f:c2.F t:=.inr ⟨base,hp⟩;by_cases R:cap=0
 ·have z:len=0:=by omega
  subst z;have:ds=[]:=ZbW (by rw[S];simp);subst this;simp only[VRel];simp_all
 obtain⟨rfl,Z⟩:=r.resolve_left R;have J:=VPre.noRef2 (c:=c) (c':=c2) (fun _ h=>.inl h) P m;simp only[VRel];grind
theorem HSpec.give1{f b g len sz}(S:PSpec P f [.fsl ds len sz] v)(k:h.get b=some (.cells g ds))(o:noRefs ds=true)(n:ds.length=len*sz)(d:Nat.blt b 1099511627775=true):HSpec P f [.sl b g 0 len sz] h v (h.set b (.dead g)):=by
 have m:=S;obtain⟨_,_,q,hc,_⟩:=S;refine⟨hc,fun c w a H r=>?_⟩;obtain⟨c2,E2,H2,V2,_⟩:=H.give k o n d;have i:VRels c2 w [.fsl ds len sz] a.toList:=by grind[VRels]
 refine((m.pure H2 i).2).mono ?_;rintro e s⟨l,p,rfl,E,H',V⟩;exact⟨l,p,rfl,E2.trans E,H',V⟩
end Go.AM
namespace Go.AM
variable{P:Program}
variable{C:Claims}{h:Heap}{u:List (Nat×Nat)}{fs:List Fr}{af dead:List Nat}{ag:List Opd}{ops:List SOper}{N:NM}{n z:Nat}{p:Nat×Nat}{x:Opd}{d:Option Nat}{Q:QC}{s:SOper}{T T0:Tmps}{K:Tmps->Heap->Nat->Prop}
def tight(i:Nat)(f:FP):Prop:=f.all=false/\∀b,b∈f.R\/b∈f.W->b∈[i]
def wpRS(P:Program)(z:Nat):Nat->List SOper->Tmps->Heap->(Tmps->Heap->Nat->Prop)->Prop|n,[],T,h,K=>K T h n|n,s::r,T,h,K=>∃v h1 f,StepV P n s T h v h1 f/\(n=z->tight n f)/\wpRS P z (n+1) r (putD T s.dst v) h1 K
theorem Qlz:∀{r:List SOper}{n:Nat}{T:Tmps}{h:Heap}{K:Tmps->Heap->Nat->Prop},z<n->wpR P n r T h K->wpRS P z n r T h K|[],n,T,h,K,_,hk=>hk|s::r,n,T,h,K,c,⟨v,h1,f,a,b⟩=>⟨v,h1,f,a,fun e=>by omega,Qlz (by omega) b⟩
theorem Quu:∀(k:Nat)(r:List SOper)(n:Nat)(T:Tmps)(h:Heap),r[k]?=some s->wpR P n (r.take k) T h (fun T1 h1 d=>∃v a f,StepV P d s T1 h1 v a f/\tight d f/\wpR P (d+1) (r.drop (k+1)) (putD T1 s.dst v) a K)->wpRS P (n+k) n r T h K:=by intro k;induction k with
 |zero=>intro r n T h e hw;cases r with|nil=>cases e|cons t r=>rw[Zbk,Zaa]at e;subst e;rw[List.take_zero]at hw;simp only[wpR]at hw;obtain⟨v,a,f,b,c,g⟩:=hw;rw[Zbj,ZaX]at g;exact⟨v,a,f,b,fun _=>c,Qlz (by omega) g⟩
 |succ k i=>intro r n T h e hw;cases r with|nil=>cases e|cons t r=>rw[Za2]at hw;simp only[wpR]at hw;obtain⟨v,h1,f,b,c⟩:=hw;refine⟨v,h1,f,b,fun e=>by omega,?_⟩;rw[show n+(k+1)=n+1+k by omega];exact i r (n+1) _ _ (by simpa using e) c
theorem Qnv:∀{r:List SOper}{n:Nat}{T:Tmps}{h:Heap}{K:Tmps->Heap->Nat->Prop},wpRS P z n r T h K->∃T' h' n',K T' h' n'/\∀d,(∀s∈r,s.dst≠some d)->lk T' d=lk T d|[],n,T,h,K,hk=>⟨T,h,n,hk,fun _ _=>rfl⟩|s::r,n,T,h,K,⟨v,h1,f,c,_,a⟩=>by obtain⟨T',h',n',hk,he⟩:=Qnv a;refine⟨T',h',n',hk,fun d b=>?_⟩;simp_all[QbG]
def touch3(z i:Nat)(ax:Opd->Option (List Nat))(s:SOp):Option (List Nat):=bif Nat.beq i z then some [i]else touch2 i ax s
def touchesN(z:Nat)(C:Claims)(n:Nat)(T:Tmps):List SOper->Abs->List (Option (List Nat))|[],_=>[]|s::r,A=>touch3 z n (absO T A) s.op::touchesN z C (n+1) T r (match s.dst with|some d=>(d,absH C d (s.op.absV n (absO T A)))::A|none=>A)
theorem Qnw:∀{r:List SOper}{n:Nat}{A:Abs}{T:Tmps}{h:Heap}{K:Tmps->Heap->Nat->Prop}(hA:AbsOK T0 A T)(K':List FP->Tmps->Heap->Nat->Prop)(l:∀T h n,K T h n->∀d bs,clm C d=some bs->Pts (lk T d) bs)(a:ssa C r=true),(∀fs T h n',fs.length=r.length->(∀(j:Nat)i,(touchesN z C n T0 r A).getD j none=some i->(fs.getD j ⟨false,[],[]⟩).all=false/\∀b,b∈(fs.getD j ⟨false,[],[]⟩).R\/b∈(fs.getD j ⟨false,[],[]⟩).W->b∈i)->K T h n'->K' fs T h n')->wpRS P z n r T h K->wpRF P n r T h K'
 |[],n,A,T,h,K,hA,K',l,a,p,hw=>p [] T h n rfl (fun j i c=>by simp_all) hw|s::r,n,A,T,h,K,hA,K',l,a,p,hw=>by
  obtain⟨v,h1,f,t,B,u⟩:=hw;simp only[ssa,Zab]at a;obtain⟨g,m⟩:=a;refine⟨v,h1,f,t,?_⟩;have q:AbsOK T0 (match s.dst with|some d=>(d,absH C d (s.op.absV n (absO T0 A)))::A|none=>A) (putD T s.dst v):=by cases e:s.dst with|none=>exact hA|some d=>
   refine AbsOK.up hA fun bs k=>?_;unfold absH at k;split at k
   ·rename_i x hc;cases k;obtain⟨T',E,n',hk,he⟩:=Qnv u;have w:=l T' E n' hk d _ hc;rw[he d ?_,QbG,if_pos e]at w;·exact w
    intro F o;rw[e]at g;simp only[hc,Option.isNone_some,Bool.false_or,ZaH]at g;have:=g F o;intro G;simp_all
   exact Qd8 hA.opd k t
  refine Qnw q (fun fs T h n=>K' (f::fs) T h n) l m (fun fs T h n' y hf hk=>?_) u;refine p (f::fs) T h n' (by simp[y]) (fun j i c=>?_) hk;cases j with
  |zero=>simp only[touchesN,List.getD_cons_zero]at c⊢;unfold touch3 at c;cases e:Nat.beq n z with|true=>rw[e]at c;simp only[cond_true,Zaa]at c;subst c;exact B (by simpa using e)|false=>rw[e]at c;exact QeM hA.opd c t
  |succ j=>simp only[touchesN,List.getD_cons_succ]at c⊢;exact hf j i c
def NewAt(P:Program)(N:NM)(x:Opd)(ag:List Opd)(d:Option Nat)(r:List SOper)(n:Nat)(T:Tmps)(h:Heap)(Q:QC):Prop:=∃f a len sz,ev T x=.fn f [] []/\NSpec P f (evs T ag) a len sz/\noRefs a=true/\n<lim/\h.get n=none/\wR P N r [] [] (n+1) (putD T d (.sl n 0 0 len sz)) (h.set n (.cells 0 a)) Q
theorem Qp4(C)(k)(hk:ops[k]?=some ⟨d,.call .heap x ag,af,none⟩)(i:ssa C ops=true)(hp:pairsOK (touchesN (n+k) C n T ops []) (p::u)=true)(hw:wR P N (ops.take k) [] [] n T h fun e T h n=>NewAt P N x ag d (ops.drop (k+1)) n T h fun e T h n=>Clms T C/\wX P N .normal fs n (rm T dead) h Q):wS P N (.region ops (p::u) dead) fs n T h Q:=by
 have rm0:∀T:Tmps,rm T []=T:=by intro T;induction T with|nil=>rfl|cons p T m=>obtain⟨j,v⟩:=p;simp[rm,m]
 refine Qnw (C:=C) (z:=n+k) (K:=fun T h n=>Clms T C/\wX P N .normal fs n (rm T dead) h Q) AbsOK.nil _ (fun T h n hk d w hc=>hk.1.get d w hc) i (fun M T h U V hf hk=>⟨?_,hk.2⟩) ?_
 ·rw[ZaH];intro q B;have:=ZaH.1 hp q B;split at this
  ·rename_i a b E o;obtain⟨f1,f2⟩:=hf _ _ E;obtain⟨g1,g2⟩:=hf _ _ o;have R:∀x y,x∈a->y∈b->x≠y:=by grind
   have S:∀xs g:List Nat,(∀x∈xs,∀y∈g,x≠y)->disj xs g=true:=by intro xs g t;unfold disj;grind
   grind[FP.apart]
  cases this
 refine Quu k ops n T h hk ?_;have l:wpR P n (ops.take k) T h fun T h n=>NewAt P N x ag d (ops.drop (k+1)) n (rm T []) h fun e T h n=>Clms T C/\wX P N .normal fs n (rm T dead) h Q:=hw;simp only[rm0]at l;have mono:∀{r:List SOper}{n:Nat}{T:Tmps}{h:Heap}{K K':Tmps->Heap->Nat->Prop},(∀T h n,K T h n->K' T h n)->wpR P n r T h K->wpR P n r T h K':=by intro r;induction r with|nil=>intro n T h K K' hi hw;exact hi _ _ _ hw|cons s r m=>intro n T h K K' hi hw;obtain⟨v,h1,f,z,G⟩:=hw;exact⟨v,h1,f,z,m hi G⟩
 refine mono (fun T1 h1 c t=>?_) l;obtain⟨f,g,len,sz,O,H,J,L,I,F⟩:=t;refine⟨.sl c 0 0 len sz,h1.set c (.cells 0 g),⟨false,[c],[c]⟩,?_,⟨rfl,fun b o=>?_⟩,?_⟩;·refine⟨.call .heap f (evs T1 ag),h1,?_,.inr (.inr (.inl ⟨evs T1 ag,[],.inl ⟨rfl,rfl⟩,.inl ⟨g,len,sz,H,.inr ⟨J,rfl⟩,L,I,rfl,rfl,rfl⟩⟩))⟩;simp_all[aop,aCall,HM.run]
 ·simpa using o
 have A:wpR P (c+1) (ops.drop (k+1)) (putD T1 d (.sl c 0 0 len sz)) (h1.set c (.cells 0 g)) fun T h n=>Clms (rm T []) C/\wX P N .normal fs n (rm (rm T []) dead) h Q:=F;simp_all
end Go.AM
namespace Go.AM.SO
open Go.Proofs Go.AM.SD Go.AM.SE
variable{c:Cel}{x:Ed}{k:IntKind}{T:List (List Nat)}{s:List (List Nat)×List Ed}{cs:List AV}{A B l:List Aut}{t:List Nat}{Q:List Nat->Prop}{a n:Nat}{f:Nat->List Ed}{α β:Type}{R:Nat->List β}{q:α->Bool}
theorem short25(p)(h:POk p)(c:p.xn<=9223372036854775807):Ps 9 [plnV p] (.bool (decide (p.xn<=4))):=by refine Zcn 64 (Ok s9) rfl (by simp only[noRefs,noRef,SU.Qec];rfl) rfl ?_;have hlen:=SU.QjV h;have b:=SU.QjW h;have a:(plnC p)[147]?=some (.fsl (u8s p.X) p.xn 4):=SU.Qfq h (k:=0);show wS _ _ _ _ _ (argT 0 [.agg (plnC p)]) _ _;generalize plnC p=C at*;have e:decide ((p.xn:Int)<=4)=decide (p.xn<=4):=decide_eq_decide.2 (by omega);unfold s9;refine Zc1 (Zc4 hlen b a e) ?_;exact⟨.inr trivial,_,rfl,rfl⟩
theorem QrX{l}{ev}:∀{k i:Nat}{s:List (List Nat)×List Ed},(pQ l ev k i s).2.length<=s.2.length+k*ev.length|0,_,s=>by simp[pQ]|k+1,i,s=>by unfold pQ;cases s.1[i]? with|none=>dsimp only;omega|some t=>have h1:=QrX (l:=l) (ev:=ev) (k:=k) (i:=i+1) (s:=pRow l ev i t s);have a:=QeT (l:=l) (i:=i) (t:=t) (ev:=ev) (s:=s);have b:(k+1)*ev.length=k*ev.length+ev.length:=Zbg ..;dsimp only;omega
theorem Qli(x):autB x x=true:=by simp[autB]
theorem Qit(h:∀a∈l,WfI a)(f:l.length<=5):AOk (syncA l)/\(sync0 l).1.length<=243/\∀t∈(sync0 l).1,t.length<=5:=by
 have hw:∀a∈l,∀e∈a.es,e.1<a.n/\e.2.2<a.n:=fun a c=>(h a c).wf.esn;have b:∀a∈l,0<a.n:=fun a c=>(h a c).pos;have d:box l<=243:=ZaA (QrQ (fun a c=>(h a c).n3) (by omega)) (Nat.pow_le_pow_right (n:=3) (by omega) f);have k:=Qnq b hw;have i:=Quk h;have he:(sync0 l).2.length<=244*5:=by refine ZaA QrX ?_;have:=Nat.mul_le_mul (show box l+1<=244 by omega) i;simpa using this
 refine⟨⟨by show(evA l).length<=_;omega,?_,by show(sync0 l).2.length<=_;omega⟩,by omega,fun t g=>?_⟩;·have :=@Qlu l (sync0 l).1 (sync0 l).1.length;show(marks l (sync0 l).1 (sync0 l).1.length).length<=_;omega
 have :=((QdO b hw).inT t g).1;omega
theorem Quv:allK 115 1 []=true:=by kernel_rfl
theorem Quw:allK 115 2 []=true:=by kernel_rfl
theorem Qux:allK 115 3 []=true:=by kernel_rfl
theorem key72(h:WfCel c)(a:InT (auL c.cs) t):Ps 115 [sliN t] (.str (keyT t)):=by have f:=h.c0;have g:=h.c3;have d:=a.1;rw[Qbf]at d;refine Qjr (Qfv (u:=[]) ?_ fun x b=>a.lt (Qbq h) b);grind[Quv,Quw,Qux]
def allA(c:Cel):List Aut:=auL c.cs++auL c.rs
theorem Qca(h:WfCel c):∀a∈allA c,WfI a:=fun a b=>by
 unfold allA at b;rcases ZaE.1 b with b|b;·exact Qbq h a b
 obtain⟨x,d,rfl⟩:=Zap.1 b;exact h.ra x d
theorem Qcg:(allA c).length=c.cs.length+c.rs.length:=by simp[allA]
theorem Qtf:allK 162 3 [0]=true:=by kernel_rfl
theorem Qtg:allK 162 3 [1]=true:=by kernel_rfl
theorem Qth:allK 162 3 [2]=true:=by kernel_rfl
theorem QrY:allK 162 3 [0,0]=true:=by kernel_rfl
theorem QrZ:allK 162 3 [0,1]=true:=by kernel_rfl
theorem Qr0:allK 162 3 [0,2]=true:=by kernel_rfl
theorem Qr1:allK 162 3 [1,0]=true:=by kernel_rfl
theorem Qr2:allK 162 3 [1,1]=true:=by kernel_rfl
theorem Qr3:allK 162 3 [1,2]=true:=by kernel_rfl
theorem Qr4:allK 162 3 [2,0]=true:=by kernel_rfl
theorem Qr5:allK 162 3 [2,1]=true:=by kernel_rfl
theorem Qr6:allK 162 3 [2,2]=true:=by kernel_rfl
theorem key98w4(h:a<3):allK 162 3 [a]=true:=by
 obtain rfl|rfl|rfl:a=0\/a=1\/a=2:=by omega
 ·exact Qtf
 ·exact Qtg
 exact Qth
theorem key98w5{b}(h:a<3)(c:b<3):allK 162 3 [a,b]=true:=by
 obtain rfl|rfl|rfl:a=0\/a=1\/a=2:=by omega
 ·obtain rfl|rfl|rfl:b=0\/b=1\/b=2:=by omega
  ·exact QrY
  ·exact QrZ
  exact Qr0
 ·obtain rfl|rfl|rfl:b=0\/b=1\/b=2:=by omega
  ·exact Qr1
  ·exact Qr2
  exact Qr3
 obtain rfl|rfl|rfl:b=0\/b=1\/b=2:=by omega
 ·exact Qr4
 ·exact Qr5
 exact Qr6
theorem Quy(h:WfCel c)(t)(l:InT (allA c) t):Ps 162 [sliN t] (.str (keyT t)):=by
 have o:=h.c0;have n:=h.c3;have m:=h.r2;have k:=l.1;have g:∀x∈t,x<3:=fun x g=>l.lt (Qca h) g;rw[Qcg]at k;by_cases i:t.length<=3;·grind[key98]
 match t,k,g,i with|[_,_,_],_,_,i=>exact absurd (by simp) i|[a,b,d,e],k,g,_=>exact Qjr (Qfv (t:=[b,d,e]) (u:=[a]) (key98w4 (g a (by simp))) fun x h=>g x (by simp_all))|[a,b,d,e,f],k,g,_=>exact Qjr (Qfv (t:=[d,e,f]) (u:=[a,b]) (key98w5 (g a (by simp)) (g b (by simp))) fun x h=>g x (by simp_all))|[],_,_,i=>exact absurd (by simp) i|[_],_,_,i=>exact absurd (by simp) i|[_,_],_,_,i=>exact absurd (by simp) i|_::_::_::_::_::_::_,k,_,_=>simp at k;omega
theorem auto69H{ch}(l)(k:l.length<=1000):HSpec Tryz.prog 101 [its ch l] .e (.sl 60 0 0 l.length 4) (hp [(60,.cells 0 ((auL l).flatMap auC))]):=by
 refine ZcN 100 (Ok TP.s101) rfl ?_;have h:=@SU.QaJ ch l;unfold TP.s101;refine ZcY ?_;refine Qar 100 (fun i:Nat=>[(3,.sl 60 0 0 i 4),(6,its ch l),(7,.int .i64 l.length),(8,.int .i64 i)]) (fun i=>[(60,.cells 0 ((auL (l.take i)).flatMap auC))]) (fun i=>i<=l.length) (fun i=>l.length-i) 0 0 160 (fun _:Unit=>[(3,.sl 60 0 0 l.length 4)]) (fun _=>[(60,.cells 0 ((auL l).flatMap auC))]) (fun _=>True) ?_ (Zai _) ?_ ?_;·refine⟨[(60,.nil)],rfl,au0,?_,au32⟩;exact Zcx rfl rfl Zcv
 ·rintro i hi;by_cases a:i<l.length
  ·exact bCDdZ
  have e:i=l.length:=by omega
  subst e;refine ZcT a ?_;refine⟨(),?_⟩;refine⟨[(60,.blk 60 0)],rfl,au0,?_,au32⟩;exact Zcw rfl rfl gg (Zcl (QaY _)) Zcv
 rintro _ _;refine ZcY ?_;refine⟨.inr trivial,_,rfl,?_⟩;refine⟨[(60,.blk 60 0)],rfl,au0,?_,au32⟩;exact Zcw rfl rfl gg (Zcl (QaY _)) Zcv
theorem Qti(c)(h:WfCel c):Ps 100 [auts (allA c)] (.tup [aV (syncA (allA c)),tuV (sync0 (allA c)).1,.int .i64 0]):=by have d:=h.c0;have b:=h.c3;have a:=h.r2;exact sync28 (allA c) (Qca h) (by rw[Qcg];omega) (by rw[Qcg];omega) (Quy h)
abbrev stG(c:Cel)(p q:Aut)(P T:List (List Nat)):List AV:=[evsV c.ev,its 99 c.cs,its 114 c.rs,exs c.xs,cos c.ks,sliN p.al,.int .i64 (p.n:Int),sliN p.ms,egsN p.es,tuV P,sliN q.al,.int .i64 (q.n:Int),sliN q.ms,egsN q.es,tuV T,sliN (szs c),exs c.xs,cos c.ks,fmapG keyC (ixV P) P]
def stC(c:Cel):List AV:=stG c (syncA (auL c.cs)) (syncA (allA c)) (sync0 (auL c.cs)).1 (sync0 (allA c)).1
abbrev stP(c:Cel)(p q:Aut)(P T:List (List Nat)):List AV:=[evsV c.ev,its 99 c.cs,its 114 c.rs,exs c.xs,cos c.ks,sliN p.al,.int .i64 (p.n:Int),sliN p.ms,egsN p.es,tuV P,sliN q.al,.int .i64 (q.n:Int),sliN q.ms,egsN q.es,tuV T,sliN (szs c),exs c.xs,cos c.ks]
theorem Qf6(c)(p q)(P T):noRefs (stP c p q P T)=true:=by have h1:=SU.Qa0 c;rw[celV,noRef]at h1;simp only[noRefs,Zab,Zad]at h1;obtain⟨a,a2,a3,a4,a5⟩:=h1;simp only[noRefs,a,a2,a3,a4,a5,Qab,Qaj,Qbz];rfl
theorem Qe3(c)(p q)(P T):noRefs (stG c p q P T)=true:=by have h1:=SU.Qa0 c;rw[celV,noRef]at h1;simp only[noRefs,Zab,Zad]at h1;obtain⟨a,a2,a3,a4,a5⟩:=h1;simp only[noRefs,a,a2,a3,a4,a5,Qab,Qaj,Qbz];rw[show noRef (fmapG keyC (ixV P) P)=true by rw[fmapG,noRef,Qax (fun _=>rfl),Qax (fun _=>rfl)];rfl];rfl
theorem open70(c)(h:WfCel c):Ps 113 [celV c] (.tup [.fptr (stC c),.int .i64 0]):=by
 have B:=Qbv c;have u:noRef (.tup [.fptr (stC c),.int .i64 0])=true:=by rw[noRef,noRefs,noRef,stC,Qe3];rfl
 refine Zcm 64 (Ok TR.s113) rfl (by rw[noRefs,SU.Qa0];rfl) u ?_;have J:=h.c3;have z:=h.r2;have I:=plant17 c h;have hA:=auto69H (ch:=99) c.cs (by omega);have G:=automata101 (ch:=114) c.rs (by omega);have y:=Qti c h;have F:=conds85 c h;have b:=QdO (fun a m=>(Qbq h a m).pos) fun a m=>(Qbq h a m).wf.esn;have C:=Qit (Qbq h) (by rw[Qbf];omega);have k:=Qbz (sync0 (auL c.cs)).1;have n:((auL c.cs).flatMap auC).length=c.cs.length*4:=by rw[QgX,Qbf]
 have o:((auL c.rs).flatMap auC).length=c.rs.length*4:=by rw[QgX,Qbf]
 have v:(auL c.rs).length=c.rs.length:=Qbf;have g:((auL c.rs).flatMap auC).all AV.one=true:=Qc0 (fun _=>rfl) _;have s:Ps 100 [.fsl ((auL c.cs).flatMap auC++(auL c.rs).flatMap auC) (c.cs.length+c.rs.length) 4] (.tup [aV (syncA (allA c)),tuV (sync0 (allA c)).1,.int .i64 0]):=by rw[<-Zao,<-Qcg];exact y
 clear y;rw[stC];generalize syncA (auL c.cs)=p at*;generalize syncA (allA c)=q at*;generalize(sync0 (auL c.cs))=E at*;generalize(sync0 (allA c)).1=T at*;obtain⟨P,es⟩:=E;dsimp only at*;unfold TR.s113;refine ZcY ?_;refine cp I ?_;refine ZcY ?_;refine Qp4 [] 4 (x:=.f 101) (ag:=[.t 30]) (d:=some 31) rfl rfl rfl ?_;refine ZcY ?_;refine⟨101,(auL c.cs).flatMap auC,c.cs.length,4,rfl,⟨hA.1,by show noRefs [its 99 c.cs]=true;rw[noRefs,SU.QaJ];rfl,60,0,0,_,_,rfl,Zai _,gg,hA⟩,QaY _,by decide,gg,?_⟩;refine ZcY ?_;refine ch (PSpec.toH G _) ?_;refine ZcZ (Zc4 n o v g) ?_;refine ch (HSpec.give1 (g:=1) s gg (SU.Qaw (QaY _) (QaY _)) (by rw[Zaf,n,o];omega) rfl) ?_;refine ZcY ?_;refine⟨trivial,?_⟩;refine cp F ?_;refine ZcY ?_;refine Qar 200 (fun i:Nat=>[(4,.ptr 52 0 0),(59,tuV P),(60,.int .i64 P.length),(61,.int .i64 i)]) (fun i=>[(52,.cells 0 [evsV c.ev,its 99 c.cs,its 114 c.rs,exs c.xs,cos c.ks,sliN p.al,.int .i64 (p.n:Int),sliN p.ms,egsN p.es,tuV P,sliN q.al,.int .i64 (q.n:Int),sliN q.ms,egsN q.es,tuV T,sliN (szs c),exs c.xs,cos c.ks,.map 53 0]),(53,.map 0 (mapG keyC (ixV P) (P.take i)))]) (fun i=>i<=P.length) (fun i=>P.length-i) 0 0 260 (fun _:Unit=>[(4,.ptr 52 0 0)]) (fun _=>[(52,.cells 0 [evsV c.ev,its 99 c.cs,its 114 c.rs,exs c.xs,cos c.ks,sliN p.al,.int .i64 (p.n:Int),sliN p.ms,egsN p.es,tuV P,sliN q.al,.int .i64 (q.n:Int),sliN q.ms,egsN q.es,tuV T,sliN (szs c),exs c.xs,cos c.ks,fmapG keyC (ixV P) P])]) (fun _=>True) ?_ (Zai _) ?_ ?_;·refine⟨[(52,.blk 69 0),(53,.blk 116 0)],rfl,RO.set rfl (RO.set rfl Zcs),?_,Zcu (Rn.x2 rfl rfl) (Zcu (Zck k) au32)⟩;exact Zcw rfl rfl gg (RnL.append (xs:=stP c p q P T) (ys:=stP c p q P T) (Zcl (Qf6 c p q P T)) (RnL.one (Rn.x3 rfl rfl))) (Zcy rfl rfl gg (ZcP fun _ _=>⟨rfl,rfl⟩) Zcv)
 ·rintro i hi;by_cases d:i<P.length
  ·obtain⟨t,l⟩:=Qak d;have f:=b.inT t (Zac l);have hk:=key72 h f;have r:t∉P.take i:=fun hm=>by have z:ixT (P.take i) t=i:=(Qhb (List.take_prefix i P) hm).trans (Qjt b.nd l);have A:=Qjs hm;rw[z,Zaq]at A;omega
   have w:updG (ixV P) t (.int .i64 ((i:Nat):Int))=ixV P:=by
    funext x;unfold updG;split;·rename_i e;subst e;unfold ixV;rw[Qjt b.nd l]
    rfl
   refine ZcZ (Zc2 d (Qeq l)) ?_;refine cp hk ?_;refine ZcY ?_;refine Qck (c:=keyC) (f:=ixV P) (x:=t) (l:=P.take i) (g:=0) gg (QgZ (fun a m=>(Qbq h a m).j) f fun x H=>b.inT x (ZaV H)) r (by omega) ?_;rw[w];refine ZcY ?_;refine⟨i+1,by omega,by omega,?_⟩;rw[take_succ' l];refine⟨[(52,.blk 52 0),(53,.blk 53 0)],rfl,Zcs,?_,Zcu (Rn.x2 rfl rfl) (Zcu (Zck k) au32)⟩;exact Zcw rfl rfl gg (RnL.append (xs:=stP c p q P T) (ys:=stP c p q P T) (Zcl (Qf6 c p q P T)) (RnL.one (Rn.x3 rfl rfl))) (Zcy rfl rfl gg (ZcP fun _ _=>⟨rfl,rfl⟩) Zcv)
  have e:i=P.length:=by omega
  subst e;refine ZcT d ?_;refine⟨(),[(52,.blk 52 0)],rfl,Zcs,?_,Zcu (Rn.x2 rfl rfl) Zct⟩;exact Zcw rfl rfl gg (RnL.append (xs:=stP c p q P T) (ys:=stP c p q P T) (Zcl (Qf6 c p q P T)) (RnL.one (Rn.fzM (b:=53) (g:=0) gg rfl rfl fun _ _=>⟨rfl,rfl⟩))) Zcv
 rintro _ _;refine ZcY ?_;refine⟨.inr trivial,_,rfl,?_⟩;refine Rn.tup (ZcC ?_ (Zcl rfl));exact Rn.frzp (b:=52) (g:=0) rfl (Zai _) (fun K L _ e=>by simp[π0]at e) (by simp) (Zcl (Qe3 c p q P T))
structure WfB(a:Aut):Prop extends WfA a where
 a5:∀x∈a.al,x<5
 nb:a.n<=243
theorem WfB.el{a}(h:WfB a):a.es.length<=1220:=by have:=WfA.elK h.toWfA h.a5;have:=h.nb;omega
theorem check112B(a)(h:WfA a):Ps 66 [aV a] (.int .i64 0):=check112 a h (by have:=WfA.el1 h;omega)
theorem Qes{ev}{j}(h:x∈rowE l ev T j t):x.1=j/\x.2.1∈ev/\∃n,stepT l t x.2.1=some n/\x.2.2=ixT T n:=by unfold rowE at h;obtain⟨e,he,a⟩:=ZbP.1 h;cases b:stepT l t e with|none=>rw[b]at a;cases a|some n=>rw[b]at a;simp only[ZbC,Zaa]at a;subst a;exact⟨rfl,he,n,b,rfl⟩
theorem QhS{l}{T}{j}{t}:∀{ev:List Nat},ev.Pairwise (·<·)->(rowE l ev T j t).Pairwise fun x y=>x.1<y.1\/(x.1=y.1/\x.2.1<y.2.1)|[],_=>by simp[rowE]|e::ev,h=>by rw[ZaB]at h;have a:=QhS (l:=l) (T:=T) (j:=j) (t:=t) h.2;unfold rowE at a⊢;rw[ZbA];cases d:stepT l t e with|none=>exact a|some n=>simp only[ZbC];rw[ZaB];refine⟨fun y c=>?_,a⟩;obtain⟨h1,b,_⟩:=Qes (l:=l) (T:=T) (j:=j) (t:=t) (ev:=ev) (by unfold rowE;exact c);exact .inr ⟨h1.symm,h.1 _ b⟩
theorem QhT(hf:∀j,(f j).Pairwise (fun x y=>x.1<y.1\/(x.1=y.1/\x.2.1<y.2.1))/\∀x∈f j,x.1=j):∀i,((List.range i).flatMap f).Pairwise fun x y=>x.1<y.1\/(x.1=y.1/\x.2.1<y.2.1)|0=>by simp|i+1=>by rw[ZaK,Zao,Zay,ZbZ,Zas,Zbb];refine⟨QhT hf i,(hf i).1,fun x a y c=>?_⟩;obtain⟨j,b,a⟩:=Zbt.1 a;have:=Zat.1 b;rw[(hf j).2 x a,(hf i).2 y c];exact .inl this
theorem QdP(h:∀a∈l,WfI a)(w:l.length<=5):WfB (syncA l):=by
 have hw:∀a∈l,∀e∈a.es,e.1<a.n/\e.2.2<a.n:=fun a d=>(h a d).wf.esn;have g:∀a∈l,0<a.n:=fun a d=>(h a d).pos;have o:=QgY g hw;obtain⟨ho,b,_⟩:=Qit h w;have f:∀e∈(sync0 l).2,e.2.1∈evA l/\e.1<(sync0 l).1.length/\e.2.2<(sync0 l).1.length:=fun e he=>by rw[o.ed]at he;obtain⟨j,k,he⟩:=Zbt.1 he;have k:=Zat.1 k;obtain⟨h1,q,n,s,v⟩:=Qes he;obtain⟨t,u⟩:=Qak k;rw[Zah,u]at s;have hm:=o.cl j t k u _ q n s;exact⟨q,by omega,by rw[v];exact Qjs hm⟩
 have r:∀x∈evA l,x<5:=fun x c=>by
  have i:x∈uUp (l.map fun a=>(0,a)):=by rw[<-Qfu];exact c
  rw[Qg8 fun y p=>by obtain⟨a,d,rfl⟩:=Zap.1 p;exact h a d]at i;obtain⟨y,p,m⟩:=i;obtain⟨a,d,rfl⟩:=Zap.1 p;exact(h a d).a5 x m
 refine⟨⟨Qjp h,fun x c=>by have:=r x c;omega,ZaA b (by decide),?_,fun x c=>?_,?_,fun e he=>⟨(f e he).2.1,(f e he).2.2⟩,fun e he=>(f e he).1⟩,r,b⟩;·exact List.pairwise_lt_range.filter _
 ·exact Zat.1 (Zbi.1 c).1
 show(sync0 l).2.Pairwise _;rw[o.ed];exact QhT (fun j=>⟨QhS (Qjp h),fun x c=>(Qes c).1⟩) _
theorem out199(a)(v:Nat)(h:WfA a)(b:v<=100000):Ps 223 [aV a,.int .i64 (v:Int)] (egsN (sOut a.es (fun _=>true) v)):=out58 a v h (by have:=WfA.el1 h;omega) (by omega)
theorem state207(a)(v)(h:WfA a)(b:v<a.n):Ps 222 [aV a,.int .i64 (v:Int)] (.int .i64 0):=by
 refine Zcn 64 (Ok TQ.s222) rfl (by(try simp only[noRefs,Qaa,Qal,Qag,noRef,noRefs,Zae,Zad])<;>rfl) rfl ?_;have hc:=check112B a h;have g1:¬(v:Int)<0:=by omega
 have g2:¬(a.n:Int)<=(v:Int):=by omega
 unfold TQ.s222;refine ZcY ?_;refine cp hc ?_;refine ZcZ (Zc2 g1 g2) ?_;exact⟨.inr trivial,_,rfl,rfl⟩
def evO(a:Aut)(v:Nat):List Nat:=(sOut a.es (fun _=>true) v).map (·.2.1)
theorem enabled161(a)(v)(h:WfA a)(l:v<a.n):Ps 174 [aV a,.int .i64 (v:Int)] (.tup [sliN (evO a v),.int .i64 0]):=by
 have m:=h.n5;have b:noRef (.tup [sliN (evO a v),.int .i64 0])=true:=by rw[noRef,noRefs,Qab];rfl
 refine Zcm 64 (Ok TQ.s174) rfl (by(try simp only[noRefs,Qaa,Qal,Qag,noRef,noRefs,Zae,Zad])<;>rfl) b ?_;have hc:=state207 a v h l;have ho:=out199 a v h (by omega);have k:(sOut a.es (fun _=>true) v).length<=131072:=ZaA (Za7 ..) (WfA.el1 h);unfold evO at b⊢;generalize sOut a.es (fun _=>true) v=o at*;unfold TQ.s174;refine ZcY ?_;refine cp hc ?_;refine ZcY ?_;refine cp ho ?_;refine ZcY ?_;refine Qar 120 (fun i:Nat=>[(7,.sl 60 0 0 i 1),(18,egsN o),(19,.int .i64 o.length),(20,.int .i64 i)]) (fun i=>[(60,.cells 0 (ints (nz ((o.take i).map (·.2.1)))))]) (fun i=>i<=o.length) (fun i=>o.length-i) 0 0 180 (fun _:Unit=>[(7,sliN (o.map (·.2.1)))]) (fun _=>[]) (fun _=>True) ?_ (Zai _) ?_ ?_;·refine⟨[(60,.nil)],rfl,au0,?_,au32⟩;exact Zcx rfl rfl Zcv
 ·rintro i hi;by_cases c:i<o.length
  ·obtain⟨e,he⟩:=Qak c;have d:=QaT he;have f:3<=((o.flatMap edC).drop (i*3)).length:=by rw[d];simp
   have g:(ints (nz ((o.take i).map (·.2.1)))).length=i:=by simp[ints];omega
   refine ZcZ (Zc4 c d f g) ?_;refine⟨i+1,by omega,by omega,?_⟩;rw[take_succ' he,ZaI,QaQ,QaF];refine⟨[(60,.blk 60 1)],rfl,au0,?_,au32⟩;exact Zcw rfl rfl gg (Zcl (SU.Qaw (Qaa _) rfl)) Zcv
  have e:i=o.length:=by omega
  subst e;refine ZcT c ?_;exact⟨(),[],rfl,Zcs,Zcv,Zcu (ZcD (b:=60) (g:=0) gg rfl rfl (by simp) (by simp[ints]) (Zcl (Qaa _))) Zct⟩
 rintro _ _;refine ZcY ?_;exact⟨.inr trivial,_,rfl,Zck b⟩
theorem ev262(x:Ed)(e:Nat):Ps 237 [.agg [.int .i64 (x.1:Int),.int .i64 (x.2.1:Int),.int .i64 (x.2.2:Int)],.fptr [.int .i64 (e:Int)]] (.bool (decide (x.2.1=e))):=by refine Zcn 64 (Ok TQ.s237) rfl rfl rfl ?_;have a:decide ((x.2.1:Int)=(e:Int))=decide (x.2.1=e):=decide_eq_decide.2 (by omega);unfold TQ.s237;refine ZcZ a ?_;exact⟨.inr trivial,_,rfl,rfl⟩
theorem Qnx:∀l:List α,l.find? q=l[l.findIdx q]?|[]=>rfl|x::l=>by rw[List.find?_cons,List.findIdx_cons];cases q x with|true=>rfl|false=>simpa using Qnx l
def nxI(a:Aut)(v e:Nat):Int:=match stepA a.es v e with|some t=>(t:Int)|none=>-1
theorem Qe4(es)(v e):stepA es v e=((sOut es (fun _=>true) v).find? fun x=>decide (x.2.1=e)).map (·.2.2):=by unfold stepA sOut;rw[List.find?_filter];congr 2;funext x;by_cases h:x.2.1=e<;>by_cases a:x.1=v<;>simp[h,a]
theorem next226(a)(v e:Nat)(h:WfA a)(p:v<a.n):Ps 183 [aV a,.int .i64 (v:Int),.int .i64 (e:Int)] (.int .i64 (nxI a v e)):=by
 have q:=h.n5;refine Zcn 64 (Ok TQ.s183) rfl (by(try simp only[noRefs,Qaa,Qal,Qag,noRef,noRefs,Zae,Zad])<;>rfl) rfl ?_;have ho:=out199 a v h (by omega);have g:(sOut a.es (fun _=>true) v).length<=131072:=ZaA (Za7 ..) (WfA.el1 h);have m:=index48 (K:=237) (cap:=[.fptr [.int .i64 (e:Int)]]) (fun x=>decide (x.2.1=e)) (sOut a.es (fun _=>true) v) (by omega) rfl fun x _=>ev262 x e;unfold nxI;rw[Qe4];generalize sOut a.es (fun _=>true) v=o at*;rw[Qnx];have r:=@Qis _ (fun x:Ed=>decide (x.2.1=e)) o;have l:idxQ (fun x:Ed=>decide (x.2.1=e)) o=-1/\o[o.findIdx fun x=>decide (x.2.1=e)]?=none\/∃y,idxQ (fun x:Ed=>decide (x.2.1=e)) o=((o.findIdx fun x=>decide (x.2.1=e):Nat):Int)/\o[o.findIdx fun x=>decide (x.2.1=e)]?=some y:=by
  unfold idxQ;by_cases c:o.any (fun x=>decide (x.2.1=e))=true;·rw[if_pos c];obtain⟨y,n⟩:=Qak (Zbo (p:=fun x:Ed=>decide (x.2.1=e)) (xs:=o) (by simpa using c));exact .inr ⟨y,rfl,n⟩
  rw[if_neg c];refine .inl ⟨rfl,ZaF (Nat.le_of_not_lt fun b=>c ?_)⟩;rw[Zby];exact⟨_,List.getElem_mem b,List.findIdx_getElem (w:=b)⟩
 generalize(o.findIdx fun x=>decide (x.2.1=e))=k at*;generalize idxQ (fun x:Ed=>decide (x.2.1=e)) o=i at*;unfold TQ.s183;refine ZcY ?_;refine cp ho ?_;refine ZcY ?_;refine SU.chc (ZcI (ZcL (Zcq _) (ZcL (FrzTo.fn ZcK (ZcL (ZcH (g:=0) (cs:=[.int .i64 (e:Int)]) gg (Zcr _)) ZcK)) ZcK)) m rfl) ?_;rcases l with⟨rfl,hk⟩|⟨y,rfl,hk⟩;·refine ZcY ?_;rw[hk];exact⟨.inr trivial,_,rfl,rfl⟩
 have f:k<o.length:=(Zaj.1 hk).1;have g1:¬(k:Int)<0:=by omega
 have d:=QaT hk;refine ZcZ (Zc3 g1 f d) ?_;rw[hk];exact⟨.inr trivial,_,rfl,rfl⟩
theorem step208(a)(v e)(h:WfA a)(c:v<a.n)(he:e∈a.al):Ps 224 [aV a,.int .i64 (v:Int),.int .i64 (e:Int)] (.tup [.int .i64 (((stepA a.es v e).getD 0:Nat):Int),.bool (stepA a.es v e).isSome,.int .i64 0]):=by refine Zcn 64 (Ok TQ.s224) rfl (by(try simp only[noRefs,Qaa,Qal,Qag,noRef,noRefs,Zae,Zad])<;>rfl) rfl ?_;have f:=QbW h.al h.al5;have hc:=state207 a v h c;have d:=contains62 (nz a.al) (e:Int) (by simp;omega);have hm:decide ((e:Int)∈nz a.al)=true:=decide_eq_true (Zap.2 ⟨e,he,rfl⟩);rw[hm,Qb2]at d;have b:=next226 a v e h c;unfold nxI at b;unfold TQ.s224;refine ZcY ?_;refine cp hc ?_;refine ZcY ?_;refine cp d ?_;refine ZcY ?_;refine cp b ?_;cases i:stepA a.es v e with|none=>refine ZcY ?_;exact⟨.inr trivial,_,rfl,rfl⟩|some t=>
 have g:(0:Int)<=(t:Int):=by omega
 refine ZcZ g ?_;exact⟨.inr trivial,_,rfl,rfl⟩
theorem Qd7(c):noRef (.fptr (stC c))=true:=by rw[noRef,stC];exact Qe3 _ _ _ _ _
theorem Quz:(ints (nz t)).take n=ints (nz (t.take n)):=by simp[ints,nz,List.map_take]
theorem Qtj{t}{n}:(ints (nz t)).drop n=ints (nz (t.drop n)):=by simp[ints,nz,List.map_drop]
theorem Qoc{len sz}{c}{b m}(h:0<b):aSliceC (some sz) (.fsl cs len sz) none (some (.int k b)) (some (.int c m))=if b<=m/\m<=len then some (.fsl (cs.take (b.toNat*sz)) b.toNat sz)else none:=by
 have e:¬((0:Int)=0/\b=0/\m=0):=by omega
 have a:(0:Int)<=b:=by omega
 simp only[aSliceC,if_true,aSlice,bnd,Int.le_refl,true_and,a,Int.toNat_zero,Nat.zero_mul,ZaX,Nat.sub_zero];rw[if_neg (by omega)]
theorem split71(c)(t)(l:0<c.cs.length)(h:c.cs.length<=t.length):Ps 114 [.fptr (stC c),sliN t] (.tup [sliN (t.take c.cs.length),sliN (t.drop c.cs.length)]):=by
 have a:noRef (.tup [sliN (t.take c.cs.length),sliN (t.drop c.cs.length)])=true:=by rw[noRef,noRefs,noRefs,Qab,Qab];rfl
 refine Zcm 64 (Ok TQ.s114) rfl (by rw[noRefs,Qd7,noRefs,Qab];rfl) a ?_;have i:=Qd7 c;rw[stC]at i⊢;generalize syncA (auL c.cs)=p at*;generalize syncA (allA c)=q at*;generalize(sync0 (auL c.cs)).1=P at*;generalize(sync0 (allA c)).1=T at*;have hle:(c.cs.length:Int)<=(t.length:Int):=by omega
 have f:(0:Int)<(c.cs.length:Int):=by omega
 have d:(t.drop c.cs.length).take (t.length-c.cs.length)=t.drop c.cs.length:=ZaM (by rw[ZaQ];exact Zau _);have b:min c.cs.length t.length=c.cs.length:=Nat.min_eq_left h;unfold TQ.s114;refine ZcZ (Zc5 hle @Qoc @Quz @Qtj d) ?_;refine⟨.inr trivial,_,rfl,?_⟩;have k:sliN (t.take c.cs.length)=.fsl (ints (nz (t.take c.cs.length))) c.cs.length 1:=by rw[sliN,Zaq,b]
 have g:sliN (t.drop c.cs.length)=.fsl (ints (nz (t.drop c.cs.length))) (t.length-c.cs.length) 1:=by rw[sliN,ZaQ]
 rw[k,g]at a⊢;exact Zck a
def rfQ(c:Cel)(r:List Nat)(e:Nat)(i:Nat):Bool:=match c.rs[i]? with|some y=>y.2.al.contains e&&(stepA y.2.es (r.getD i 0) e).isNone|none=>false
def rfI(c:Cel)(r:List Nat)(e:Nat):Int:=idxQ (rfQ c r e) (List.range c.rs.length)
theorem refuser162(c)(hw:WfCel c)(r:List Nat)(e:Nat)(I:r.length=c.rs.length)(hrn:∀(i:Nat)y,c.rs[i]?=some y->r.getD i 0<y.2.n):Ps 175 [.fptr (stC c),sliN r,.int .i64 (e:Int)] (.int .i64 (rfI c r e)):=by
 refine Zcn 64 (Ok TQ.s175) rfl (by rw[noRefs,Qd7,noRefs,Qab];rfl) rfl ?_;have F:=hw.r2;rw[stC];generalize syncA (auL c.cs)=p at*;generalize syncA (allA c)=q at*;generalize(sync0 (auL c.cs)).1=P at*;generalize(sync0 (allA c)).1=T at*;have g:=@SU.QaJ 114 c.rs;unfold TQ.s175;refine ZcY ?_;refine Qar 100 (fun i:Nat=>[(1,sliN r),(2,.int .i64 (e:Int)),(16,its 114 c.rs),(17,.int .i64 c.rs.length),(18,.int .i64 i)]) (fun _=>[]) (fun i=>i<=c.rs.length/\∀(j:Nat)y,j<i->(List.range c.rs.length)[j]?=some y->rfQ c r e y=false) (fun i=>c.rs.length-i) 0 0 200 (fun _:Unit=>[]) (fun _=>[]) (fun _=>∀x∈List.range c.rs.length,rfQ c r e x=false) ?_ ⟨Zai _,fun j y E=>absurd E (ZaD _)⟩ ?_ ?_;·exact⟨[],rfl,Zcs,Zcv,Zcu (Zck (Qab _)) (Zcu (Zck rfl) (Zcu (Zck g) au32))⟩
 ·rintro i⟨hi,u⟩;by_cases b:i<c.rs.length
  ·obtain⟨x,k⟩:=Qak b;have f:=hw.ra x (Zac k);have h:=SU.QdM (ch:=114) k;have z:5<=((c.rs.flatMap (itC 114)).drop (i*5)).length:=by rw[h];simp
   have w:i<r.length:=by omega
   obtain⟨v,C⟩:=Qak w;have o:r.getD i 0=v:=by rw[Zah,C];rfl
   have n:=hrn i x k;rw[o]at n;have d:(List.range c.rs.length)[i]?=some i:=by simp[b]
   have A:=has189 x.2.al e f.wf.al (by have:=QgR f.wf;omega);have a:rfQ c r e i=(x.2.al.contains e&&(stepA x.2.es v e).isNone):=by unfold rfQ;rw[k];dsimp only;rw[o]
   have m:∀q:rfQ c r e i=false,i+1<=c.rs.length/\∀(j:Nat)y,j<i+1->(List.range c.rs.length)[j]?=some y->rfQ c r e y=false:=fun q=>⟨by omega,fun j y E B=>by
    by_cases H:j=i;·subst H;rw[d]at B;cases B;exact q
    exact u j y (by omega) B⟩;cases s:x.2.al.contains e;·rw[s,Zb7]at a;rw[s]at A;refine ZcZ (Zc3 b h z) ?_;refine cp A ?_;refine ZcY ?_;refine⟨i+1,by omega,m a,?_⟩;exact⟨[],rfl,Zcs,Zcv,Zcu (Zck (Qab _)) (Zcu (Zck rfl) (Zcu (Zck g) au32))⟩
   have G:=step208 x.2 v e f.wf n (List.contains_iff_mem.1 s);rw[s,Zag]at a;rw[s]at A;refine ZcZ (Zc3 b h z) ?_;refine cp A ?_;refine ZcZ (Zc2 w (QaH C)) ?_;refine cp G ?_;cases l:stepA x.2.es v e with|none=>rw[l]at a;refine ZcY ?_;refine⟨.inr trivial,_,rfl,?_⟩;unfold rfI;rw[Qfr d a u];rfl|some t=>rw[l]at a;refine ZcY ?_;refine⟨i+1,by omega,m a,?_⟩;exact⟨[],rfl,Zcs,Zcv,Zcu (Zck (Qab _)) (Zcu (Zck rfl) (Zcu (Zck g) au32))⟩
  refine ZcZ b ?_;refine⟨(),fun x k=>?_,⟨[],rfl,au0,au33,au32⟩⟩;have:=Zat.1 k;exact u x x (by omega) (by simp[this])
 rintro _ u;refine ZcY ?_;refine⟨.inr trivial,_,rfl,?_⟩;unfold rfI;rw[Qd5 u];rfl
def rfF(c:Cel)(k:Nat)(r:List Nat):AV:=.fn 173 [] [.fptr [.fptr (stC c)],.fptr [.int .i64 (k:Int)],.fptr [sliN r]]
theorem Qg0(c)(k)(r):noRef (rfF c k r)=true:=by have:=Qd7 c;rw[noRef]at this;simp only[rfF,noRef,noRefs,Qaa,this];rfl
theorem refused74(c)(k:Nat)(r):Ps 117 [.fptr (stC c),.int .i64 (k:Int),sliN r] (rfF c k r):=by
 have a:=Qd7 c;refine Zcm 64 (Ok TQ.s117) rfl (by rw[noRefs,a,noRefs,noRefs,Qab];rfl) (Qg0 _ _ _) ?_;unfold rfF;have f:(AV.fptr (stC c)).boxable=true:=rfl;have hc:(AV.fptr (stC c)).cells=[.fptr (stC c)]:=rfl;have ho:(AV.fptr (stC c)).one=true:=rfl;generalize AV.fptr (stC c)=S at*;unfold TQ.s117;refine ZcZ (Zc3 f hc ho) ?_;refine⟨.inr trivial,_,rfl,?_⟩;refine Rn.fn ZcB (ZcC (Rn.frzp (b:=64) (g:=0) rfl (Zai _) (fun b d _ e=>by simp[π0]at e) (by simp) (Zcl ?_)) (ZcC (Rn.frzp (b:=65) (g:=0) rfl (Zai _) (fun b d _ e=>by simp[π0]at e) (by simp) (Zcl rfl)) (ZcC (Rn.frzp (b:=66) (g:=0) rfl (Zai _) (fun b d _ e=>by simp[π0]at e) (by simp) (Zcl ?_)) ZcB)));·show noRefs [S]=true;rw[noRefs,a];rfl
 show noRefs [sliN r]=true;rw[noRefs,Qab];rfl
theorem QuA{i e}(a:∀n,stepT l t e=some n->Q n)(h:∀x∈s.1,Q x):∀x∈(pEv l i t s e).1,Q x:=by grind[pEv]
theorem Qny{l}{Q:List Nat->Prop}{i}{t}:∀{ev:List Nat}{s:List (List Nat)×List Ed},(∀e∈ev,∀n,stepT l t e=some n->Q n)->(∀x∈s.1,Q x)->∀x∈(pRow l ev i t s).1,Q x|[],s,_,h=>h|e::ev,s,b,h=>Qny (ev:=ev) (s:=pEv l i t s e) (fun c a=>b c (by simp[a])) (QuA (fun n=>b e (by simp) n) h)
theorem Qr7{ev}(a:∀t,Q t->∀e∈ev,∀n,stepT l t e=some n->Q n):∀{k i:Nat}{s:List (List Nat)×List Ed},(∀x∈s.1,Q x)->∀x∈(pQ l ev k i s).1,Q x|0,_,_,h=>h|k+1,i,s,h=>by unfold pQ;cases b:s.1[i]? with|none=>exact h|some t=>exact Qr7 a (Qny (a t (h t (Zac b))) h)
theorem Qju{n}{e}(b:(A++B).length<=t.length)(h:stepT (A++B) t e=some n):stepT A (t.take A.length) e=some (n.take A.length):=by
 obtain⟨h1,g,c⟩:=(Qf2 b).1 h;rw[Zaf]at b;refine(Qf2 (by grind)).2 ⟨by simp_all,fun i hi=>?_,fun i a hi d=>?_⟩;·grind
 have f:=c i a (by grind) (by grind);simp_all
theorem Qj4(h:∀a∈l,WfI a){e}:e∈evA l↔∃a∈l,e∈a.al:=by
 rw[Qfu,Qg8 (fun y d=>by grind)];constructor;·grind
 rintro⟨a,b,c⟩;exact⟨_,Zap.2 ⟨a,b,rfl⟩,c⟩
theorem Qpi(h:WfCel c){e}(he:e∈evA (allA c)):e∈evA (auL c.cs):=by
 have hA:=Qbq h;obtain⟨a,b,d⟩:=(Qj4 (Qca h)).1 he;rcases ZaE.1 (show a∈auL c.cs++auL c.rs from b)with b|b;·grind[Qj4]
 obtain⟨x,g,rfl⟩:=Zap.1 b;obtain⟨y,i,f⟩:=h.rsub x g e d;exact(Qj4 hA).2 ⟨y.2,Zap.2 ⟨y,i,rfl⟩,f⟩
theorem Qpj(h:WfCel c):∀t∈(sync0 (allA c)).1,InT (allA c) t/\t.take c.cs.length∈(sync0 (auL c.cs)).1:=by
 have hA:=Qbq h;have b:=Qca h;have m:=QgY (fun a d=>(hA a d).pos) (fun a d=>(hA a d).wf.esn);have g:=Qf4 (l:=allA c) (fun a d=>(b a d).pos);show∀t∈(pQ (allA c) (evA (allA c)) (box (allA c)+1) 0 ([List.replicate (allA c).length 0],[])).1,_;refine Qr7 (Q:=fun t=>InT (allA c) t/\t.take c.cs.length∈(sync0 (auL c.cs)).1) ?_ ?_;·rintro t⟨l,hp⟩e he n k;refine⟨Qf3 (fun a d=>(b a d).wf.esn) l k,?_⟩;have f:=Qju (A:=auL c.cs) (B:=auL c.rs) (Nat.le_of_eq l.1.symm) k;rw[Qbf]at f;exact m.cl _ _ (Qjs hp) (Qj3 hp) e (Qpi h he) _ f
 intro x i;have i:x=List.replicate (allA c).length 0:=by simpa using i
 subst i;refine⟨g.inT _ (by simp),?_⟩;have:(List.replicate (allA c).length 0).take c.cs.length=List.replicate (auL c.cs).length 0:=by simp_all[Qcg]
 rw[this];exact sync_pre.subset (by simp)
theorem Qjv{j}:∀{n:Nat},j<n->(List.range n).flatMap (fun x=>if x=j then R x else[])=R j
 |0,h=>absurd h (ZaD _)|n+1,h=>by
  rw[ZaK,Zao,Zay,ZbZ,Zas];by_cases e:n=j
  ·subst e;rw[if_pos rfl];have:∀{m:Nat},m<=n->(List.range m).flatMap (fun x=>if x=n then R x else[])=[]:=fun{m}hm=>by rw[List.flatMap_eq_nil_iff];grind
   grind
  rw[if_neg e,Zas,Qjv (by omega)]
theorem Qr8(h:∀a∈l,WfI a){j}(f:(sync0 l).1[j]?=some t):sOut (syncA l).es (fun _=>true) j=rowE l (evA l) (sync0 l).1 j t:=by
 have i:=QgY (fun a c=>(h a c).pos) (fun a c=>(h a c).wf.esn);have b:j<(sync0 l).1.length:=(Zaj.1 f).1;unfold sOut;show(sync0 l).2.filter _=_;rw[i.ed,List.filter_flatMap];have g:(sync0 l).1.getD j []=t:=by simp_all
 rw[<-g,<-Qjv (R:=fun x=>rowE l (evA l) (sync0 l).1 x ((sync0 l).1.getD x [])) b];refine flatMap_congr' fun x k=>?_;by_cases e:x=j;·rw[if_pos e];refine ZbK.2 fun y d=>?_;have:=(Qes d).1;simp[this,e]
 rw[if_neg e];refine List.filter_eq_nil_iff.2 fun y d=>?_;have:=(Qes d).1;simp[this,e]
theorem Qtk(h:InT (A++B) t):InT A (t.take A.length):=by refine⟨by rw[Zaq,h.1,Zaf];omega,fun i a b=>?_⟩;have hi:i<A.length:=(Zaj.1 b).1;have:=h.2 i a (by grind);simp_all
theorem Qtl(h:InT (A++B) t):InT B (t.drop A.length):=by refine⟨by rw[ZaQ,h.1,Zaf];omega,fun i a b=>?_⟩;have:=h.2 (A.length+i) a (by grind);simp_all
end Go.AM.SO
namespace Go.AM
variable{P:Program}
variable{v:AV}{L:HL}{h h' h1 p:Heap}{o:LCode}{st:LSt}{args:List AV}{c dead i l:List Nat}{ops:List SOper}{N:NM}{N2 b f:Nat}{g:Opd}{d:Option Nat}{a body:SCode}{sf:SFn}{T:Tmps}
theorem RSpec.of_wS{N n}(f:(noLoop a&&noLoop body)=true)(k:h.get b=some (.loop 0 N T c (.s a) (.s body) .ready))(i:Nat.blt b 1099511627775=true)(hlen:args.length=c.length)(l:(c.all fun p=>Nat.blt p N)=true)(hw:wS P ⟨N,0⟩ a [] n (upsT T c args) h fun e T1 h1 g=>e=.normal/\h1.get b=some (.loop 0 N T c (.s a) (.s body) .ready)/\wS P ⟨N,0⟩ body [] g T1 (h1.set b (.loop 0 N T c (.s a) (.s body) .busy)) fun e T2 d _=>d.get b=some (.loop 0 N T c (.s a) (.s body) .busy)/\v=.bool e.isNormal/\∀x,(d.set b (.loop 0 N T c (.s a) (.s body) (stOf e))).get x=h'.get x):RSpec P b 0 args h v h':=by simp only[Zab]at f;refine RSpec.of_W k (by simpa[lim]using i) hlen (fun p hp=>by simp_all) ((wpC.toW1 f.1 hw).mono ?_);rintro e B⟨g,rfl,h1,d⟩;refine⟨rfl,N,T,c,.s a,.s body,h1,(wpC.toW1 f.2 d).mono ?_⟩;rintro e C⟨r,q,o,m⟩;grind
section
variable{k m n:Nat}{T:Tmps}{h:Heap}{Q:QC}{fs:List Fr}
theorem QlA{n'}{first cap}{T' T2}{c}(s:Rec m T' L T h)(t:ev T' g=.fn f first cap)(r:(hp L).get b=none)(u:Nat.blt b 1099511627775=true)(q:HSpec P f (first++[.yld b 0]++cap) ((hp L).set b (.loop 0 k T' l (.s a) (.s body) .ready)) v p)(d:p.get b=some (.loop 0 N2 T2 i o c st))(hQ:leftQ (fun e B=>wX P ⟨k,m⟩ e fs n' B.T B.h Q) ⟨T',p.set b (.dead 0)⟩ st):wS P ⟨k,m⟩ (.rfunc g l k a body) fs n T h Q:=by show W2 P ⟨k,m⟩ (.rfunc g l k a body) (fun e B=>∃n,ct P ⟨k,m⟩ fs Q e B.T B.h n) ⟨T,h⟩;refine W2.recL s (W2.of_W (W.rfunc (las:=.s a) (lbody:=.s body) rfl rfl t r (by simpa[lim]using u) q d ?_));cases st with|ready=>exact⟨n',hQ⟩|busy=>exact hQ|done e=>exact⟨hQ.1,n',hQ.2⟩
theorem cy{g}(a:RSpec P b g args h v h1)(hk:wR P N ops dead fs (n+1) (putD T d v) h1 Q):wCall P N .heap (.yld b g) args d ops dead fs n T h Q:=⟨_,_,a,hk⟩
theorem W2.weakE{c}{Q}{L}(a:Sub L T)(he:∀b,h.get b=h'.get b)(hw:W2 P N c Q ⟨L,h'⟩):W2 P N c Q ⟨T,h⟩:=W2.weak a (W2.congr hw ⟨fun _=>rfl,he⟩)
def loopI(P:Program)(k m:Nat){α:Type}(env:α->Tmps)(H:α->Heap)(I:α->Prop)(μ:α->Nat)(a:α)(fs:List Fr)(Q:QC):QC:=fun e T h n=>match e with|.normal=>∃c,μ c<μ a/\I c/\Sub (env c) T/\∀b,h.get b=(H c).get b|e=>wX P ⟨k,m⟩ e fs n T h Q
section
variable{α:Type}{env:α->Tmps}{H:α->Heap}{I:α->Prop}{μ:α->Nat}{a:α}
theorem Qbm:loopI P k m env H I μ a fs Q .normal T h n=∃c,μ c<μ a/\I c/\Sub (env c) T/\∀b,h.get b=(H c).get b:=rfl
theorem QbF{i}:loopI P k m env H I μ a fs Q (.exit i) T h n=wX P ⟨k,m⟩ (.exit i) fs n T h Q:=rfl
theorem QbR:loopI P k m env H I μ a fs Q .ret T h n=wX P ⟨k,m⟩ .ret fs n T h Q:=rfl
theorem Qtm{b}(s)(env:α->Tmps)(H:α->Heap)(I:α->Prop)(μ)(a0)(p:Sub (env a0) T)(g:∀b,h.get b=(H a0).get b)(l:I a0)(round:∀a,I a->wS P ⟨k,m⟩ b [] s (env a) (H a) (loopI P k m env H I μ a fs Q)):wS P ⟨k,m⟩ (.loop b) fs n T h Q:=by show W2 P ⟨k,m⟩ (.loop b) (fun e B=>∃n,ct P ⟨k,m⟩ fs Q e B.T B.h n) ⟨T,h⟩;refine W2.loop (fun q B=>∃a,μ a=q/\I a/\Sub (env a) B.T/\∀b,B.h.get b=(H a).get b) (μ a0) ⟨a0,rfl,l,p,g⟩ ?_;rintro q B⟨a,rfl,hi,r,he⟩;refine W2.weakE r he ((wpC.toW (round a hi)).mono ?_);rintro e C⟨d,c⟩;cases e with|normal=>obtain⟨f,h1,t,o⟩:=c;exact⟨μ f,h1,f,rfl,t,o⟩|exit i=>exact⟨d,c⟩|ret=>exact⟨d,c⟩
end
end
theorem HSpec.of_I(m n)(a:okFn P f sf=true)(r:Nat.ble args.length sf.n=true)(hm:Fresh m h)(hw:wS P ⟨sf.n,m⟩ sf.body [] n (argT 0 args) h fun e T k _=>(e=.normal\/e=.ret)/\∃vs,resV T k sf.res=some vs/\resOf vs=v/\∀b,k.get b=h'.get b):HSpec P f args h v h':=by
 obtain⟨_,_,_,_,_,_,_,hc⟩:=Qcn a;refine⟨hc,fun c w d H o=>(Qdh (m:=m) (R:=fun vs k=>resOf vs=v/\∀b,k.get b=h'.get b) a (Zaw r) ((wpC.toW hw).mono fun e B⟨_,h1,vs,i,s⟩=>⟨h1,vs,i,s⟩) H o).mono ?_⟩;rintro e t⟨q,l,vs,k,rfl,E,H',V,rfl,hk⟩;refine⟨q,l,rfl,⟨E.os,E.tape,E.output,E.size,E.shape,E.keep,fun b g p hp=>?_,E.frz,E.frzNew,E.own,E.base⟩,Qct hk H',V⟩;rcases ZbG b m with h1|h1;·exact E.rho b g p h1 hp
 rw[H.fresh b (hm b h1) g]at hp;cases hp
end Go.AM
namespace Go.AM.SO
open Go.Proofs Go.AM.SD Go.AM.SE
variable{a b:Blk}{c:Cel}{h:Heap}{r:List Nat}{i k:Nat}{y:Nat×Int}{α β:Type}{l:List α}{x:α}{p:α->Bool}{f:α->Option β}
def ylE(c:Cel)(r:List Nat)(e:Nat):Option (Nat×Int):=if 0<=rfI c r e then some (e,rfI c r e)else none
def yls(c:Cel)(k:Nat)(r:List Nat):List (Nat×Int):=(evO (syncA (auL c.cs)) k).filterMap (ylE c r)
theorem fm_at{y}(b:l[i]?=some x)(d:f x=some y):(l.filterMap f)[((l.take i).filterMap f).length]?=some y:=by
 have hi:i<l.length:=(Zaj.1 b).1;have e:l=l.take i++x::l.drop (i+1):=by have a:l[i]=x:=(Zaj.1 b).2;rw[<-a,List.getElem_cons_drop,Zbd]
 have c:l.filterMap f=(l.take i).filterMap f++y::(l.drop (i+1)).filterMap f:=by
  conv=>lhs;rw[e]
  rw[List.filterMap_append,ZbA,d]
 rw[c,Zbr (Zau _),ZbL,Zbk]
theorem QuB(a:l[i]?=some x):((l.take (i+1)).filterMap f).length=((l.take i).filterMap f).length+(match f x with|some _=>1|none=>0):=by rw[take_succ' a,List.filterMap_append,Zaf,ZbA];cases f x<;>rfl
theorem QuC{c}{r}{e}:-1<=rfI c r e/\rfI c r e<=c.rs.length:=by have:=@Qis _ (rfQ c r e) (List.range c.rs.length);unfold rfI;rw[ZbV]at this;omega
theorem refused160(c)(hw:WfCel c){k}(hk:k<(syncA (auL c.cs)).n)(r:List Nat)(K:r.length=c.rs.length)(hrn:∀(i:Nat)y,c.rs[i]?=some y->r.getD i 0<y.2.n){b m}(H:Nat->Heap)(H')(n)(hf:Fresh m (H 0))(L:n<=(yls c k r).length)(hY:∀(j:Nat)y,j<n->(yls c k r)[j]?=some y->RSpec Tryz.prog b 0 [.int .i64 (y.1:Int),.int .i64 y.2] (H j) (.bool true) (H (j+1)))(E:(n=(yls c k r).length/\H'=H n)\/∃y,(yls c k r)[n]?=some y/\RSpec Tryz.prog b 0 [.int .i64 (y.1:Int),.int .i64 y.2] (H n) (.bool false) H'):HSpec Tryz.prog 173 [.yld b 0,.fptr [.fptr (stC c)],.fptr [.int .i64 (k:Int)],.fptr [sliN r]] (H 0) (.tup []) H':=by
 refine HSpec.of_I m 1099511627000 (Ok TR.s173) rfl hf ?_;have s:=enabled161 (syncA (auL c.cs)) k (QdP (Qbq hw) (by rw[Qbf];have:=hw.c3;omega)).toWfA hk;have J:=fun e=>refuser162 c hw r e K hrn;have F:=fun e=>@QuC c r e;have I:(evO (syncA (auL c.cs)) k).length<=1220:=by unfold evO;rw[Zav];exact ZaA (Za7 ..) (QdP (Qbq hw) (by rw[Qbf];have:=hw.c3;omega)).el
 have u:stC c=stC c:=rfl;conv at u=>rhs;rw[stC]
 have M:∃S,S=AV.fptr (stC c):=⟨_,rfl⟩;unfold yls at L hY E;rw[stC]at*;generalize evO (syncA (auL c.cs)) k=o at*;generalize syncA (auL c.cs)=p at*;generalize syncA (allA c)=q at*;generalize(sync0 (auL c.cs)).1=P at*;generalize(sync0 (allA c)).1=T at*;unfold TR.s173;refine Zc1 (Zc6 @Qac @Qad @Qae @Qbm @QbF @QbR) ?_;refine cp s ?_;refine Zc1 (Zc6 @Qac @Qad @Qae @Qbm @QbF @QbR) ?_;refine Qtm 1099511627100 (fun i:Nat=>[(0,.yld b 0),(1,.fptr [.fptr (stG c p q P T)]),(3,.fptr [sliN r]),(19,sliN o),(20,.int .i64 o.length),(21,.int .i64 i)]) (fun i=>H ((o.take i).filterMap (ylE c r)).length) (fun i=>i<=o.length/\((o.take i).filterMap (ylE c r)).length<=n) (fun i=>o.length-i) 0 ?_ (fun _=>rfl) ⟨Zai _,Zai _⟩ ?_;·repeat(first|exact Sub.nil|refine Sub.cons (by first|rfl|(rw[ZaG];rfl)) ?_)
 rintro i⟨hi,hc⟩;by_cases d:i<o.length
 ·obtain⟨x,B⟩:=Qak d;have a:=QuB (f:=ylE c r) B;have t:=J x;have N:=F x;by_cases z:0<=rfI c r x
  ·have g:ylE c r x=some (x,rfI c r x):=by unfold ylE;rw[if_pos z]
   have f:=fm_at B g;rw[g]at a;rcases ZbG ((o.take i).filterMap (ylE c r)).length n with A|G;·have l:=hY _ _ A f;dsimp only at l a;rw[<-a]at l;refine Zc1 (Zc8 d (QaH B) @Qac @Qad @Qae @Qbm @QbF @QbR) ?_;refine cp t ?_;generalize rfI c r x=v at*;refine Zc1 (Zc7 z @Qac @Qad @Qae @Qbm @QbF @QbR) ?_;refine cy l ?_;refine Zc1 (Zc6 @Qac @Qad @Qae @Qbm @QbF @QbR) ?_;refine⟨i+1,by omega,⟨by omega,by omega⟩,?_,fun _=>rfl⟩;repeat(first|exact Sub.nil|refine Sub.cons (by first|rfl|(rw[ZaG];rfl)) ?_)
   have h:((o.take i).filterMap (ylE c r)).length=n:=by omega
   rcases E with⟨he,_⟩|⟨y,C,w⟩;·have :=(Zaj.1 f).1;omega
   rw[h]at f⊢;rw[f]at C;cases C;dsimp only at w;refine Zc1 (Zc8 d (QaH B) @Qac @Qad @Qae @Qbm @QbF @QbR) ?_;refine cp t ?_;generalize rfI c r x=v at*;refine Zc1 (Zc7 z @Qac @Qad @Qae @Qbm @QbF @QbR) ?_;refine cy w ?_;refine Zc1 (Zc6 @Qac @Qad @Qae @Qbm @QbF @QbR) ?_;exact⟨.inr trivial,_,rfl,rfl,fun _=>trivial⟩
  have g:ylE c r x=none:=by unfold ylE;rw[if_neg z]
  rw[g]at a;dsimp only at a;refine Zc1 (Zc8 d (QaH B) @Qac @Qad @Qae @Qbm @QbF @QbR) ?_;refine cp t ?_;generalize rfI c r x=v at*;refine Zc1 (Zc7 z @Qac @Qad @Qae @Qbm @QbF @QbR) ?_;refine⟨i+1,by omega,⟨by omega,by omega⟩,?_,fun _=>by rw[a];rfl⟩;repeat(first|exact Sub.nil|refine Sub.cons (by first|rfl|(rw[ZaG];rfl)) ?_)
 have e:i=o.length:=by omega
 subst e;rw[Zan]at hc⊢;have h:n=(o.filterMap (ylE c r)).length:=by omega
 refine Zc1 (Zc7 d @Qac @Qad @Qae @Qbm @QbF @QbR) ?_;refine⟨.inl trivial,_,rfl,rfl,fun _=>?_⟩;rcases E with⟨_,he⟩|⟨y,C,_⟩;·rw[he,h]
 rw[ZaF (by omega)]at C;cases C
theorem clone41(l)(a:l.length<=1000000):Ps 86 [sliN l] (sliN l):=by
 have h:=(clone56 l a).freeze (b:=83) (g:=0) (ds:=ints (nz l)) gg (by
  have:∀m:List Int,flatVs (ints m)=true:=fun m=>by induction m with|nil=>rfl|cons x m b=>simp only[ints,ZaL,flatVs,Zab];exact⟨rfl,b⟩
  exact this _) (by simp[ints]) rfl;have e:(ints (nz l)).take (l.length*1)=ints (nz l):=by rw[ZaM (by simp[ints])]
 rw[e]at h;exact⟨by rw[noRefs,Qab];rfl,Qab _,_,h⟩
abbrev lpA:SCode:=(.seq (.region [Zm 16 100 []] [] [99,100]) (.region [Zm 17 101 []] [] [101]))
abbrev lpB:SCode:=(.block 3 (.seq (.region [Zf 102 0 1 [],Zl 103 102 [0],Zm 104 16 [],Zi 105 5 103 104 [1,2],Zf 106 1 105 [3],Zl 107 106 [4],Zz 108 (.un .not (.t 107)) [5]] [] [102,103,104,105,106,107]) (.cond (.t 108) (.seq (.region [Zf 109 7 6 [],Zl 110 109 [0],Zl 111 7 [],Zm 112 17 [],Zm 113 16 [],Zz 114 (.build [(.int .i64 0),(.int .i64 0),(.int .i64 0),(.int .i64 0)] [(0,1,(.t 111)),(1,1,(.c (.int .i64 3))),(2,1,(.t 112)),(3,1,(.t 113))]) [2,3,4],Zz 115 (.bslice false .dyn 4 1 [(.int .i64 0),(.int .i64 0),(.int .i64 0),(.int .i64 0)] [(0,4,(.t 114))]) [5],Zz 116 (.append .dyn 4 32 (.t 110) (.t 115)) [1,6],Zf 117 7 6 (Za [] 8),Zs 1 117 116 (Za [8,7,7] 8)] [] [7,16,17,108,109,110,111,112,113,114,115,116,117]) (.exit 2)) .skip)))
def rsn(c:Cel)(i:Nat)(t:List Nat):Option (Nat×Int×Int×Int):=if(vioV (t.take c.cs.length) c.xs c.ks).2.2=true then some (i,(vioV (t.take c.cs.length) c.xs c.ks).1,(vioV (t.take c.cs.length) c.xs c.ks).2.1,-1)else((yls c (ixT (sync0 (auL c.cs)).1 (t.take c.cs.length)) (t.drop c.cs.length)).find? fun y=>!(c.ev y.1).c).map fun y=>(i,3,y.2,(y.1:Int))
def rsC(x:Nat×Int×Int×Int):List AV:=[.int .i64 (x.1:Int),.int .i64 x.2.1,.int .i64 x.2.2.1,.int .i64 x.2.2.2]
def rsnO(c:Cel)(i:Nat):List (Nat×Int×Int×Int):=(rsn c i ((sync0 (allA c)).1.getD i [])).toList
def forb(c:Cel)(n:Nat):List (Nat×Int×Int×Int):=(List.range n).flatMap (rsnO c)
theorem Qg1(c)(n):forb c (n+1)=forb c n++rsnO c n:=by unfold forb;rw[ZaK,Zao];simp
theorem Qiu(c):∀n,(forb c n).length<=n
 |0=>by simp[forb]|n+1=>by
  have:=Qiu c n;rw[Qg1,Zaf];have:(rsnO c n).length<=1:=by unfold rsnO;cases rsn c n _<;>simp
  omega
abbrev rss(l:List (Nat×Int×Int×Int)):AV:=.fsl (l.flatMap rsC) l.length 4
theorem Qr9(l:List (Nat×Int×Int×Int)):(l.flatMap rsC).length=l.length*4:=Qbe (k:=4) (fun _=>rfl) l
theorem Qbi(l:List (Nat×Int×Int×Int)):noRefs (l.flatMap rsC)=true:=by induction l with|nil=>rfl|cons x l a=>rw[Zay];exact SU.Qaw rfl a
def spA(c:Cel)(T:List (List Nat)):List (List Nat):=T.map fun t=>t.take c.cs.length
def spB(c:Cel)(T:List (List Nat)):List (List Nat):=T.map fun t=>t.drop c.cs.length
def spP(c:Cel)(P T:List (List Nat)):List Nat:=T.map fun t=>ixT P (t.take c.cs.length)
abbrev spG(c:Cel)(q:Aut)(P T:List (List Nat)):List AV:=[sliN q.al,.int .i64 (q.n:Int),sliN q.ms,egsN q.es,tuV (spA c T),tuV (spB c T),sliN (spP c P T),rss (forb c T.length)]
def spC(c:Cel):List AV:=spG c (syncA (allA c)) (sync0 (auL c.cs)).1 (sync0 (allA c)).1
theorem Qjw(c)(q)(P T):noRefs (spG c q P T)=true:=by
 have a:noRef (rss (forb c T.length))=true:=by rw[noRef];exact Qbi _
 simp only[noRefs,Qab,Qaj,Qbz,a,Zag,Zad];rfl
theorem Qnz:∀{l:List α}{y:α},l.find? p=some y->∃n:Nat,l[n]?=some y/\p y=true/\∀(j:Nat)z,j<n->l[j]?=some z->p z=false|[],y,h=>by simp at h|x::l,y,h=>by rw[List.find?_cons]at h;cases hp:p x with|true=>rw[hp]at h;cases h;exact⟨0,rfl,hp,fun j z b=>absurd b (ZaD _)⟩|false=>rw[hp]at h;obtain⟨n,h1,c,d⟩:=Qnz h;refine⟨n+1,by simpa using h1,c,fun j z b a=>?_⟩;cases j with|zero=>simp at a;subst a;exact hp|succ j=>exact d j z (by omega) (by simpa using a)
theorem Qiv{f}{e}(h:e<5):(evsC f).drop (e*5)=evC e (f e)++(evsC f).drop ((e+1)*5):=by
 obtain rfl|rfl|rfl|rfl|rfl:e=0\/e=1\/e=2\/e=3\/e=4:=by omega
 all_goals rfl
theorem QnA(h:WfCel c)(b:y∈yls c k r):y.1<5:=by
 unfold yls at b;obtain⟨e,he,a⟩:=ZbP.1 b;unfold ylE at a;split at a;·cases a;unfold evO at he;obtain⟨x,d,rfl⟩:=Zap.1 he;have hw:=QdP (Qbq h) (by rw[Qbf];have:=h.c3;omega);exact hw.a5 _ (hw.ev x (Zbi.1 d).1)
 cases a
theorem QuD{c}{i}{t}(a:(vioV (t.take c.cs.length) c.xs c.ks).2.2=true):(rsn c i t).toList=[(i,(vioV (t.take c.cs.length) c.xs c.ks).1,(vioV (t.take c.cs.length) c.xs c.ks).2.1,-1)]:=by unfold rsn;rw[if_pos a];rfl
theorem QvP{c}{i}{t}(a:(vioV (t.take c.cs.length) c.xs c.ks).2.2=false):(rsn c i t).toList=(((yls c (ixT (sync0 (auL c.cs)).1 (t.take c.cs.length)) (t.drop c.cs.length)).find? fun y=>!(c.ev y.1).c).map fun y=>(i,3,y.2,(y.1:Int))).toList:=by unfold rsn;rw[if_neg (by simp[a])]
theorem set3{j}{c}(hk:Nat.blt k 1099511627775=true):(((h.set k a).set k b).set k c).get j=(h.set k c).get j:=by
 have d:k<1099511627775:=by simpa using hk
 by_cases e:j=k;·subst e;rw[QaE d,QaE d]
 rw[QaL d e,QaL d e,QaL d e,QaL d e]
theorem set6{l f m j}{u v w d}(hk:(Nat.blt k 1099511627775&&Nat.blt l 1099511627775&&Nat.blt f 1099511627775&&Nat.blt m 1099511627775)=true):((((((h.set k a).set k b).set l u).set f v).set m w).set k d).get j=((((h.set l u).set f v).set m w).set k d).get j:=by
 simp only[Zab,ZbT]at hk;obtain⟨⟨⟨h1,c⟩,g⟩,i⟩:=hk;by_cases e:j=k;·subst e;rw[QaE h1,QaE h1]
 rw[QaL h1 e,QaL h1 e];by_cases o:j=m;·subst o;rw[QaE i,QaE i]
 rw[QaL i o,QaL i o];by_cases p:j=f;·subst p;rw[QaE g,QaE g]
 rw[QaL g p,QaL g p];by_cases n:j=l;·subst n;rw[QaE c,QaE c]
 rw[QaL c n,QaL c n,QaL h1 e,QaL h1 e]
theorem _root_.Go.AM.au37{p:Prop}(h:p:=by repeat(first|exact Zct|(refine Zcu ?_ ?_;·(first|exact Zcj|exact Rn.x1 rfl rfl|exact Rn.x2 rfl rfl|exact Rn.x3 rfl rfl|exact Rn.x4 rfl rfl|exact Rn.x5 rfl|exact Rn.x6 rfl|exact Rn.x7 rfl|(refine ZcF ?_ ?_;(first|rfl|(rw[ZaG];rfl));(first|rfl|(simp only[noRef,noRefs,SD.Qaa,SD.Qab,SD.Qaf,SD.Qag,SD.Qah,SD.Qai,SD.Qaj,SD.Qal,SD.Qan,SD.Qaq,SE.QaR,SE.Qam,SE.Qao,SE.Qap,SE.Qav,SE.Qaz,SO.Qa9,SO.QaB,SO.QaD,SO.QaO,SO.QaY,SO.Qau,SO.Qay,SO.QbE,SO.Qbi,SO.Qbz,SO.Qdn,SU.Qa8,SU.QaX,SU.QbO,SU.Qbb,SU.Qby,Zad,Zae,Zag];done)))|(refine Rn.fn ?_ ?_<;>(repeat'(first|exact ZcB|refine ZcC ?_ ?_|exact Zck rfl|exact Rn.x6 rfl|exact Rn.x2 rfl rfl|exact Rn.x5 rfl|exact Rn.x1 rfl rfl))))))):p:=h
theorem specify18(c)(h:WfCel c):Ps 52 [celV c] (.tup [.agg (spC c),.int .i64 0]):=by
 have s:=Qbv c;have hns:noRef (.tup [.agg (spC c),.int .i64 0])=true:=by rw[noRef,noRefs,noRef,spC,Qjw];rfl
 refine Zcm 64 (Ok TQ.s52) rfl (by rw[noRefs,SU.Qa0];rfl) hns ?_;have h0:=h.c0;have h3:=h.c3;have h2:=h.r2;have hO:=open70 c h;have hin:=Qpj h;have hPi:=QdO (fun a ha=>(Qbq h a ha).pos) fun a ha=>(Qbq h a ha).wf.esn;have O:=Qit (Qca h) (by rw[Qcg];omega);have hT243:=O.2.1;clear O;have hPin:∀x∈(sync0 (auL c.cs)).1,InT (auL c.cs) x:=hPi.inT;have hpn:(syncA (auL c.cs)).n=(sync0 (auL c.cs)).1.length:=rfl;have l:=fun t(u:c.cs.length<=t.length)=>split71 c t h0 u;have U:=fun t(u:InT (auL c.cs) t)=>violated73 c h u;have Q:=fun k r=>refused74 c k r;have N:=fun{k:Nat}hk r hr hrn{b m:Nat}H H' n=>@refused160 c h k hk r hr hrn b m H H' n;have hrs:∀i t,(sync0 (allA c)).1[i]?=some t->rsnO c i=(rsn c i t).toList:=fun i t u=>by unfold rsnO;rw[Zah,u];rfl
 have hrv:=fun i t=>@QvP c i t;have hle:=Qiu c;have hsu:=Qg1 c;have hst:=Qe3 c (syncA (auL c.cs)) (syncA (allA c)) (sync0 (auL c.cs)).1 (sync0 (allA c)).1;rw[spC]at*;rw[stC]at hO l Q;generalize syncA (auL c.cs)=p at*;generalize syncA (allA c)=q at*;generalize(sync0 (auL c.cs)).1=P at*;generalize(sync0 (allA c)).1=T at*;have o:=Qbz T;have L:noRef (.fptr (stG c p q P T))=true:=by rw[noRef];exact hst
 have hnc:=SU.Qa0 c;unfold TQ.s52;refine ZcY ?_;refine cp hO ?_;refine ZcY ?_;refine Qar 200 (fun i:Nat=>[(1,.ptr 51 0 0),(2,.ptr 53 0 0),(4,.fptr (stG c p q P T)),(6,.ptr 52 0 0),(35,tuV T),(36,.int .i64 T.length),(37,.int .i64 i)]) (fun i=>[(51,.cells 0 [evsV c.ev,its 99 c.cs,its 114 c.rs,exs c.xs,cos c.ks]),(52,.cells 0 [sliN q.al,.int .i64 (q.n:Int),sliN q.ms,egsN q.es,.sl 60 0 0 i 1,.sl 61 0 0 i 1,.sl 62 0 0 i 1,.sl 63 0 0 (forb c i).length 4]),(53,.cells 0 [.nilsl,.int .i64 0,.nilsl,.nilsl,.nilsl,.nilsl,.nilsl,.nilsl]),(60,.cells 0 ((spA c (T.take i)).map sliN)),(61,.cells 0 ((spB c (T.take i)).map sliN)),(62,.cells 0 (ints (nz (spP c P (T.take i))))),(63,.cells 0 ((forb c i).flatMap rsC))]) (fun i=>i<=T.length) (fun i=>T.length-i) 0 0 400 (fun _:Unit=>[(2,.ptr 53 0 0),(6,.ptr 52 0 0)]) (fun _=>[(52,.cells 0 (spG c q P T)),(53,.cells 0 [.nilsl,.int .i64 0,.nilsl,.nilsl,.nilsl,.nilsl,.nilsl,.nilsl])]) (fun _=>True) ?_ (Zai _) ?_ ?_;·refine⟨[(51,.blk 64 0),(52,.blk 81 0),(53,.blk 65 0),(60,.nil),(61,.nil),(62,.nil),(63,.nil)],rfl,Zcs,?_,Zcu (Rn.x2 rfl rfl) (Zcu (Rn.x2 rfl rfl) (Zcu (Zck L) (Zcu (Rn.x2 rfl rfl) (Zcu (Zck o) au37))))⟩;exact Zcw rfl rfl gg (Zcl s) (Zcw rfl rfl gg (ZcC (Zck (Qab _)) (ZcC (Zck rfl) (ZcC (Zck (Qab _)) (ZcC (Zck (Qaj _)) (ZcC (Rn.x4 rfl rfl) (ZcC (Rn.x4 rfl rfl) (ZcC (Rn.x4 rfl rfl) (ZcC (Rn.x4 rfl rfl) ZcB)))))))) (Zcw rfl rfl gg (Zcl rfl) (Zcx rfl rfl (Zcx rfl rfl (Zcx rfl rfl (Zcx rfl rfl Zcv))))))
 ·rintro i hi;by_cases S:i<T.length
  ·obtain⟨t,u⟩:=Qak S;obtain⟨hit,hpt⟩:=hin t (Zac u);have htl:c.cs.length<=t.length:=by rw[hit.1,Qcg];omega
   have I:=Qtk (A:=auL c.cs) (B:=auL c.rs) hit;have K:=Qtl (A:=auL c.cs) (B:=auL c.rs) hit;rw[Qbf]at I K;have hl1:(t.take c.cs.length).length<=3:=by rw[Zaq];omega
   have hl2:(t.drop c.cs.length).length<=2:=by rw[K.1,Qbf];omega
   have hsp:=l t htl;have hky:=key72 h I;have hv:=U _ I;have hcl1:=clone41 (t.take c.cs.length) (by omega);have hcl2:=clone41 (t.drop c.cs.length) (by omega);have hk:=Qjs hpt;have V:(spA c (T.take (i+1))).map sliN=(spA c (T.take i)).map sliN++[sliN (t.take c.cs.length)]:=by unfold spA;rw[take_succ' u];simp
   have Y:(spB c (T.take (i+1))).map sliN=(spB c (T.take i)).map sliN++[sliN (t.drop c.cs.length)]:=by unfold spB;rw[take_succ' u];simp
   have X:spP c P (T.take (i+1))=spP c P (T.take i)++[ixT P (t.take c.cs.length)]:=by unfold spP;rw[take_succ' u];simp
   have hla:((spA c (T.take i)).map sliN).length=i:=by unfold spA;simp;omega
   have Z:((spB c (T.take i)).map sliN).length=i:=by unfold spB;simp;omega
   have hlp:(ints (nz (spP c P (T.take i)))).length=i:=by unfold spP;simp[ints];omega
   have G:=Qr9 (forb c i);have hlf2:=hle i;have B:=hrs i t u;have hsi:=hsu i;have M:=hrv i t;have F:=@QuD c i t;have hk:ixT P (t.take c.cs.length)<p.n:=by rw[hpn];exact hk
   have hr2:(t.drop c.cs.length).length=c.rs.length:=by rw[K.1,Qbf]
   have R:∀(j:Nat)y,c.rs[j]?=some y->(t.drop c.cs.length).getD j 0<y.2.n:=fun j y hy=>K.2 j y.2 (by rw[Zaz,hy];rfl);have hfa:∀z,(forb c i++[z]).flatMap rsC=(forb c i).flatMap rsC++rsC z:=fun z=>by simp
   have A:noRefs [sliN (t.take c.cs.length)]=true:=by rw[noRefs,Qab];rfl
   have C:noRefs [sliN (t.drop c.cs.length)]=true:=by rw[noRefs,Qab];rfl
   generalize spA c (T.take i)=LA at*;generalize spB c (T.take i)=LB at*;generalize spP c P (T.take i)=LP at*;generalize t.take c.cs.length=t1 at*;generalize t.drop c.cs.length=t2 at*;generalize vioV t1 c.xs c.ks=v at*;obtain⟨v1,v2,v3⟩:=v;dsimp only at M F hv;have hrf:=Q (ixT P t1) t2;refine ZcZ (Zc2 S (Qeq u)) ?_;refine cp hsp ?_;refine ZcY ?_;refine cp hky ?_;refine ZcY ?_;refine QeS (c:=keyC) (f:=ixV P) (x:=t1) (l:=P) (QgZ (fun a ha=>(Qbq h a ha).j) I hPin) hpt ?_;simp(disch:=first|omega|exact PairsOK.mk rfl|(simp only[lenW]<;>omega))only[ixV,Qac,Qad,Qae,wW,wV,simprocAttr];refine Qdj [(56,[60]),(62,[61]),(68,[62])] rfl rfl ?_;refine ZcY ?_;refine cp hcl1 ?_;refine ZcY ?_;refine cp hcl2 ?_;refine ZcZ (Zc3 hla Z hlp) ?_;refine⟨⟨⟨_,rfl,fun b hb=>hb⟩,⟨_,rfl,fun b hb=>hb⟩,⟨_,rfl,fun b hb=>hb⟩,trivial⟩,?_⟩;refine cp hv ?_;cases v3 with|true=>have d:=F rfl;refine ZcZ G ?_;refine⟨i+1,by omega,by omega,?_⟩;rw[V,Y,X,hsi,B,d,hfa,Zaf,QaQ,QaF];refine⟨[(51,.blk 51 0),(52,.blk 52 0),(53,.blk 53 0),(60,.blk 60 1),(61,.blk 61 1),(62,.blk 62 1),(63,.blk 63 1)],rfl,Zcs,?_,Zcu (Rn.x2 rfl rfl) (Zcu (Rn.x2 rfl rfl) (Zcu (Zck L) (Zcu (Rn.x2 rfl rfl) (Zcu (Zck o) au37))))⟩;exact Zcw rfl rfl gg (Zcl s) (Zcw rfl rfl gg (ZcC (Zck (Qab _)) (ZcC (Zck rfl) (ZcC (Zck (Qab _)) (ZcC (Zck (Qaj _)) (ZcC (Rn.x1 rfl rfl) (ZcC (Rn.x1 rfl rfl) (ZcC (Rn.x1 rfl rfl) (ZcC (Rn.x1 rfl rfl) ZcB)))))))) (Zcw rfl rfl gg (Zcl rfl) (Zcw rfl rfl gg (Zcl (SU.Qaw (Qax Qab _) A)) (Zcw rfl rfl gg (Zcl (SU.Qaw (Qax Qab _) C)) (Zcw rfl rfl gg (Zcl (SU.Qaw (Qaa _) rfl)) (Zcw rfl rfl gg (Zcl (SU.Qaw (Qbi _) rfl)) Zcv))))))|false=>
    have d:=M rfl;refine ZcY ?_;refine cp hrf ?_;refine ZcY ?_;have E:∀{x1 x2 x3 x4 x5 x6 x7 x8:Blk},(hp [(51,x1),(52,x2),(53,x3),(54,x4),(60,x5),(61,x6),(62,x7),(63,x8)]).get 150=none:=fun{x1 x2 x3 x4 x5 x6 x7 x8}=>by simp(disch:=omega)only[Qa1,QmC,QaL,get_e]
    cases J:(yls c (ixT P t1) t2).find? fun y=>!(c.ev y.1).c with|none=>
     rw[J]at d;replace d:(rsn c i t).toList=[]:=d;refine QlA (n':=700) (b:=150) (T':=[(1,.ptr 51 0 0),(2,.ptr 53 0 0),(4,.fptr (stG c p q P T)),(6,.ptr 52 0 0),(7,.ptr 54 0 0),(35,tuV T),(36,.int .i64 T.length),(37,.int .i64 i),(99,rfF c (ixT P t1) t2)]) (L:=[(51,.cells 0 [evsV c.ev,its 99 c.cs,its 114 c.rs,exs c.xs,cos c.ks]),(52,.cells 0 [sliN q.al,.int .i64 (q.n:Int),sliN q.ms,egsN q.es,.sl 60 0 0 (i+1) 1,.sl 61 0 0 (i+1) 1,.sl 62 0 0 (i+1) 1,.sl 63 0 0 (forb c i).length 4]),(53,.cells 0 [.nilsl,.int .i64 0,.nilsl,.nilsl,.nilsl,.nilsl,.nilsl,.nilsl]),(54,.cells 0 [.int .i64 (i:Int)]),(60,.cells 0 (LA.map sliN++[sliN t1])),(61,.cells 0 (LB.map sliN++[sliN t2])),(62,.cells 0 (ints (nz LP)++[.int .i64 (ixT P t1:Int)])),(63,.cells 0 ((forb c i).flatMap rsC))]) ?_ rfl E rfl (N (m:=1000) hk t2 hr2 R (fun _=>_) _ (yls c (ixT P t1) t2).length ?_ (Zau _) ?_ (.inl ⟨rfl,rfl⟩)) gg ?_;·refine⟨[(51,.blk 51 0),(52,.blk 52 0),(53,.blk 53 0),(54,.blk 204 0),(60,.blk 60 1),(61,.blk 61 1),(62,.blk 62 1),(63,.blk 63 0)],rfl,Zcs,?_,Zcu (Rn.x2 rfl rfl) (Zcu (Rn.x2 rfl rfl) (Zcu (Zck L) (Zcu (Rn.x2 rfl rfl) (Zcu (Rn.x2 rfl rfl) (Zcu (Zck o) (Zcu (Zck rfl) (Zcu (Zck rfl) (Zcu (Zck (Qg0 _ _ _)) Zct))))))))⟩;exact Zcw rfl rfl gg (Zcl s) (Zcw rfl rfl gg (ZcC (Zck (Qab _)) (ZcC (Zck rfl) (ZcC (Zck (Qab _)) (ZcC (Zck (Qaj _)) (ZcC (Rn.x1 rfl rfl) (ZcC (Rn.x1 rfl rfl) (ZcC (Rn.x1 rfl rfl) (ZcC (Rn.x1 rfl rfl) ZcB)))))))) (Zcw rfl rfl gg (Zcl rfl) (Zcw rfl rfl gg (Zcl rfl) (Zcw rfl rfl gg (Zcl (SU.Qaw (Qax Qab _) A)) (Zcw rfl rfl gg (Zcl (SU.Qaw (Qax Qab _) C)) (Zcw rfl rfl gg (Zcl (SU.Qaw (Qaa _) rfl)) (Zcw rfl rfl gg (Zcl (Qbi _)) Zcv)))))))
     ·exact(by repeat(first|exact Fresh.e|exact Zco (by assumption) (by omega)|refine Zcp ?_ (by omega) (by omega)))
     ·intro j y hj hy;have g:=QnA h (Zac hy);have f:(c.ev y.1).c=true:=by simpa using Zb1.1 J y (Zac hy)
      exact b3O9N
     unfold leftQ;refine ZcY ?_;refine⟨i+1,by omega,by omega,?_⟩;rw[V,Y,X,hsi,B,d,Zas,QaQ,QaF];refine⟨[(51,.blk 51 0),(52,.blk 52 0),(53,.blk 53 0),(60,.blk 60 0),(61,.blk 61 0),(62,.blk 62 0),(63,.blk 63 0)],rfl,Zcs,?_,Zcu (Rn.x2 rfl rfl) (Zcu (Rn.x2 rfl rfl) (Zcu (Zck L) (Zcu (Rn.x2 rfl rfl) (Zcu (Zck o) au37))))⟩;exact Zcw rfl rfl gg (Zcl s) (Zcw rfl rfl gg (ZcC (Zck (Qab _)) (ZcC (Zck rfl) (ZcC (Zck (Qab _)) (ZcC (Zck (Qaj _)) (ZcC (Rn.x1 rfl rfl) (ZcC (Rn.x1 rfl rfl) (ZcC (Rn.x1 rfl rfl) (ZcC (Rn.x1 rfl rfl) ZcB)))))))) (Zcw rfl rfl gg (Zcl rfl) (Zcw rfl rfl gg (Zcl (SU.Qaw (Qax Qab _) A)) (Zcw rfl rfl gg (Zcl (SU.Qaw (Qax Qab _) C)) (Zcw rfl rfl gg (Zcl (SU.Qaw (Qaa _) rfl)) (Zcw rfl rfl gg (Zcl (Qbi _)) Zcv))))))|some y=>
     rw[J]at d;replace d:(rsn c i t).toList=[(i,3,y.2,(y.1:Int))]:=d;obtain⟨n,w,hn2',hn3'⟩:=Qnz J;have hlen:n<(yls c (ixT P t1) t2).length:=(Zaj.1 w).1;have g:=QnA h (Zac w);have f:(c.ev y.1).c=false:=by simpa using hn2'
     refine QlA (n':=700) (b:=150) (T':=[(1,.ptr 51 0 0),(2,.ptr 53 0 0),(4,.fptr (stG c p q P T)),(6,.ptr 52 0 0),(7,.ptr 54 0 0),(35,tuV T),(36,.int .i64 T.length),(37,.int .i64 i),(99,rfF c (ixT P t1) t2)]) (L:=[(51,.cells 0 [evsV c.ev,its 99 c.cs,its 114 c.rs,exs c.xs,cos c.ks]),(52,.cells 0 [sliN q.al,.int .i64 (q.n:Int),sliN q.ms,egsN q.es,.sl 60 0 0 (i+1) 1,.sl 61 0 0 (i+1) 1,.sl 62 0 0 (i+1) 1,.sl 63 0 0 (forb c i).length 4]),(53,.cells 0 [.nilsl,.int .i64 0,.nilsl,.nilsl,.nilsl,.nilsl,.nilsl,.nilsl]),(54,.cells 0 [.int .i64 (i:Int)]),(60,.cells 0 (LA.map sliN++[sliN t1])),(61,.cells 0 (LB.map sliN++[sliN t2])),(62,.cells 0 (ints (nz LP)++[.int .i64 (ixT P t1:Int)])),(63,.cells 0 ((forb c i).flatMap rsC))]) (st:=.done (.exit 2)) ?hrec rfl E rfl (N (m:=1000) hk t2 hr2 R (fun _=>_) (((((hp [(51,.cells 0 [evsV c.ev,its 99 c.cs,its 114 c.rs,exs c.xs,cos c.ks]),(52,.cells 0 [sliN q.al,.int .i64 (q.n:Int),sliN q.ms,egsN q.es,.sl 60 0 0 (i+1) 1,.sl 61 0 0 (i+1) 1,.sl 62 0 0 (i+1) 1,.sl 63 0 0 (forb c i).length 4]),(53,.cells 0 [.nilsl,.int .i64 0,.nilsl,.nilsl,.nilsl,.nilsl,.nilsl,.nilsl]),(54,.cells 0 [.int .i64 (i:Int)]),(60,.cells 0 (LA.map sliN++[sliN t1])),(61,.cells 0 (LB.map sliN++[sliN t2])),(62,.cells 0 (ints (nz LP)++[.int .i64 (ixT P t1:Int)])),(63,.cells 0 ((forb c i).flatMap rsC))]).set 315 (.cells 0 (rsC (i,3,y.2,(y.1:Int))))).set 63 (.cells 1 ((forb c i).flatMap rsC++rsC (i,3,y.2,(y.1:Int))))).set 52 (.cells 0 [sliN q.al,.int .i64 (q.n:Int),sliN q.ms,egsN q.es,.sl 60 0 0 (i+1) 1,.sl 61 0 0 (i+1) 1,.sl 62 0 0 (i+1) 1,.sl 63 1 0 ((forb c i).length+1) 4])).set 150 (.loop 0 120 [(1,.ptr 51 0 0),(2,.ptr 53 0 0),(4,.fptr (stG c p q P T)),(6,.ptr 52 0 0),(7,.ptr 54 0 0),(35,tuV T),(36,.int .i64 T.length),(37,.int .i64 i),(99,rfF c (ixT P t1) t2)] [100,101] (.s lpA) (.s lpB) (.done (.exit 2)))) n ?hfr (Nat.le_of_lt hlen) ?hY (.inr ⟨y,w,?L⟩)) gg ?hQ;case hrec=>refine⟨[(51,.blk 51 0),(52,.blk 52 0),(53,.blk 53 0),(54,.blk 204 0),(60,.blk 60 1),(61,.blk 61 1),(62,.blk 62 1),(63,.blk 63 0)],rfl,Zcs,?_,Zcu (Rn.x2 rfl rfl) (Zcu (Rn.x2 rfl rfl) (Zcu (Zck L) (Zcu (Rn.x2 rfl rfl) (Zcu (Rn.x2 rfl rfl) (Zcu (Zck o) (Zcu (Zck rfl) (Zcu (Zck rfl) (Zcu (Zck (Qg0 _ _ _)) Zct))))))))⟩;exact Zcw rfl rfl gg (Zcl s) (Zcw rfl rfl gg (ZcC (Zck (Qab _)) (ZcC (Zck rfl) (ZcC (Zck (Qab _)) (ZcC (Zck (Qaj _)) (ZcC (Rn.x1 rfl rfl) (ZcC (Rn.x1 rfl rfl) (ZcC (Rn.x1 rfl rfl) (ZcC (Rn.x1 rfl rfl) ZcB)))))))) (Zcw rfl rfl gg (Zcl rfl) (Zcw rfl rfl gg (Zcl rfl) (Zcw rfl rfl gg (Zcl (SU.Qaw (Qax Qab _) A)) (Zcw rfl rfl gg (Zcl (SU.Qaw (Qax Qab _) C)) (Zcw rfl rfl gg (Zcl (SU.Qaw (Qaa _) rfl)) (Zcw rfl rfl gg (Zcl (Qbi _)) Zcv)))))))
     case hfr=>exact(by repeat(first|exact Fresh.e|exact Zco (by assumption) (by omega)|refine Zcp ?_ (by omega) (by omega)))
     case hY=>
      intro j z hj hz;have g:=QnA h (Zac hz);have f:(c.ev z.1).c=true:=by simpa using hn3' j z hj hz
      exact b3O9N
     case L=>refine RSpec.of_wS (n:=300) rfl gg rfl rfl rfl ?_;simp(disch:=first|omega|exact PairsOK.mk rfl|(simp only[lenW]<;>omega))only[upsT,f,g,Qg6,Qiv,evC,G,Qac,Qad,Qae,wW,wV,simprocAttr];exact⟨rfl,fun x=>set6 rfl⟩
     case hQ=>unfold leftQ;refine⟨rfl,?_⟩;refine ZcY ?_;refine⟨i+1,by omega,by omega,?_⟩;rw[V,Y,X,hsi,B,d,hfa,Zaf,QaQ,QaF];refine⟨[(51,.blk 51 0),(52,.blk 52 0),(53,.blk 53 0),(60,.blk 60 0),(61,.blk 61 0),(62,.blk 62 0),(63,.blk 63 1)],rfl,Zcs,?_,Zcu (Rn.x2 rfl rfl) (Zcu (Rn.x2 rfl rfl) (Zcu (Zck L) (Zcu (Rn.x2 rfl rfl) (Zcu (Zck o) au37))))⟩;exact Zcw rfl rfl gg (Zcl s) (Zcw rfl rfl gg (ZcC (Zck (Qab _)) (ZcC (Zck rfl) (ZcC (Zck (Qab _)) (ZcC (Zck (Qaj _)) (ZcC (Rn.x1 rfl rfl) (ZcC (Rn.x1 rfl rfl) (ZcC (Rn.x1 rfl rfl) (ZcC (Rn.x1 rfl rfl) ZcB)))))))) (Zcw rfl rfl gg (Zcl rfl) (Zcw rfl rfl gg (Zcl (SU.Qaw (Qax Qab _) A)) (Zcw rfl rfl gg (Zcl (SU.Qaw (Qax Qab _) C)) (Zcw rfl rfl gg (Zcl (SU.Qaw (Qaa _) rfl)) (Zcw rfl rfl gg (Zcl (SU.Qaw (Qbi _) rfl)) Zcv))))))
  have e:i=T.length:=by omega
  subst e;have hla:((spA c T).map sliN).length=T.length:=by unfold spA;simp
  have Z:((spB c T).map sliN).length=T.length:=by unfold spB;simp
  have hlp:(ints (nz (spP c P T))).length=T.length:=by unfold spP;simp[ints]
  have G:=Qr9 (forb c T.length);refine ZcT S ?_;refine⟨(),[(52,.blk 52 0),(53,.blk 53 0)],rfl,Zcs,?_,Zcu (Rn.x2 rfl rfl) (Zcu (Rn.x2 rfl rfl) Zct)⟩;exact Zcw rfl rfl gg (ZcC (Zck (Qab _)) (ZcC (Zck rfl) (ZcC (Zck (Qab _)) (ZcC (Zck (Qaj _)) (ZcC (ZcD (b:=60) (g:=0) gg rfl rfl (by simp[spA]) (by simpa using hla) (Zcl (Qax Qab _))) (ZcC (ZcD (b:=61) (g:=0) gg rfl rfl (by simp[spB]) (by simpa using Z) (Zcl (Qax Qab _))) (ZcC (ZcD (b:=62) (g:=0) gg rfl rfl (by simp[spP]) (by simpa using hlp) (Zcl (Qaa _))) (ZcC (ZcD (b:=63) (g:=0) gg rfl rfl rfl G (Zcl (Qbi _))) ZcB)))))))) (Zcw rfl rfl gg (Zcl rfl) Zcv)
 rintro _ _;refine ZcY ?_;exact⟨.inr trivial,_,rfl,Zck hns⟩
end Go.AM.SO
namespace Go.AM.TY
open Go.Proofs
set_option maxHeartbeats 4000000
noncomputable section
def cf:YA.Cf:={most:=.pure}
def s14:SFn:=by
 refine(?f:YA.Yt Tryz.prog cf 14 [[0,4],[12,13,11,14,15],[16],[1,5,6,17,18,19,20],[4,6,17],[21],[],[25,26,27],[9,28,29,30,31,32],[33],[1,22,23,24,35,36,37,34,38,39],[40],[5,7,10,6,41,42,43,44],[5,7,10,6,41,45,46,47,48,49,50]]) ?s ?h;case h=>exact YA.rr
 exact fun s _=>s
end
end Go.AM.TY
namespace Go.AM.SO
open Go.Proofs Go.AM.SD Go.AM.SE
variable{c:Cel}{l:List (Nat×Int×Int×Int)}{i:Nat}{x:Nat×Int×Int×Int}
def fbs(l:List (Nat×Int×Int×Int)):List Nat:=l.map (·.1)
abbrev fbd(c:Cel):List Nat:=fbs (forb c (sync0 (allA c)).1.length)
theorem Qtn(h:x∈rsnO c i):x.1=i:=by
 unfold rsnO rsn at h;split at h;·simp at h;rw[h]
 simp at h;obtain⟨a,b,_,rfl⟩:=h;rfl
theorem QnB(c):∀n,(fbs (forb c n)).Pairwise (·<·)/\∀x∈fbs (forb c n),x<n
 |0=>by simp[forb,fbs]|n+1=>by
  obtain⟨h1,d⟩:=QnB c n;rw[Qg1];unfold fbs at h1 d⊢;rw[ZaI];have hm:∀x∈(rsnO c n).map (·.1),x=n:=fun x a=>by obtain⟨y,b,rfl⟩:=Zap.1 a;exact Qtn b
  have f:((rsnO c n).map (·.1)).Pairwise (·<·):=by unfold rsnO;cases rsn c n _<;>simp
  refine⟨Zbb.2 ⟨h1,f,fun x a y b=>?_⟩,fun x a=>?_⟩;·rw[hm y b];exact d x a
  rcases ZaE.1 a with a|a;·have:=d x a;omega
  rw[hm x a];omega
theorem Qpk(e):(uncL e 5).Pairwise (·<·)/\∀x∈uncL e 5,x<32:=by refine⟨List.pairwise_lt_range.filter _,fun x a=>?_⟩;have:=Zat.1 (Zbi.1 a).1;omega
theorem qok_c(c):QOk (syncA (allA c)) (fbd c) (uncL c.ev 5):=⟨(QnB c _).1,(QnB c _).2,(Qpk _).1,(Qpk _).2⟩
theorem wfA_c(c)(h:WfCel c):WfA (syncA (allA c)):=(QdP (Qca h) (by rw[Qcg];have:=h.c3;have:=h.r2;omega)).toWfA
def resC(c:Cel):Res:=pRes (syncA (allA c)) (fbd c) (uncL c.ev 5) true
theorem Qto(h:l[i]?=some x):(l.flatMap rsC).drop (i*4)=.int .i64 (x.1:Int)::.int .i64 x.2.1::.int .i64 x.2.2.1::.int .i64 x.2.2.2::(l.drop (i+1)).flatMap rsC:=Qba (f:=rsC) (k:=4) (fun _=>rfl) h
theorem Qtp(h:l[i]?=some x):fbs (l.take (i+1))=fbs (l.take i)++[x.1]:=by unfold fbs;rw[take_succ' h,ZaI];rfl
theorem QuE(h:i<=l.length):(fbs (l.take i)).length=i:=by unfold fbs;rw[Zav,Zaq];omega
abbrev ni9:List AV:=[.nilsl,.nilsl,.nilsl,.int .i64 0,.nilsl,.int .i64 0,.nilsl,.nilsl,.nilsl]
abbrev ni8:List AV:=[.nilsl,.int .i64 0,.nilsl,.nilsl,.nilsl,.nilsl,.nilsl,.nilsl]
theorem cell22(c)(h:WfCel c):Ps 14 [celV c] (.tup [.agg (spC c),SE.rsV (resC c),.int .i64 0]):=by
 have d:=Qbv c;have a:noRefs (spC c)=true:=Qjw _ _ _ _;refine Zcm 64 (Ok TY.s14) rfl (by rw[noRefs,SU.Qa0];rfl) (by rw[noRef,noRefs,noRef,a,noRefs,Qc8];rfl) ?_;have hO:=specify18 c h;have n:=select86 c.ev h.ev;have hw:=wfA_c c h;have s:=WfA.el1 hw;have o:=result39 (syncA (allA c)) (fbd c) (uncL c.ev 5) true hw (qok_c c) (by omega);have k:=Qc8 (pRes (syncA (allA c)) (fbd c) (uncL c.ev 5) true);have hle:=Qiu c (sync0 (allA c)).1.length;have u:(sync0 (allA c)).1.length<=4096:=hw.n5;have p:(syncA (allA c)).n=(sync0 (allA c)).1.length:=rfl;unfold resC;rw[spC,spG]at hO a⊢;unfold fbd at*;generalize forb c (sync0 (allA c)).1.length=L at*;generalize pRes (syncA (allA c)) (fbs L) (uncL c.ev 5) true=R at*;generalize syncA (allA c)=q at*;generalize(sync0 (auL c.cs)).1=P at*;generalize(sync0 (allA c)).1=T at*;have r:(spA c T).length=T.length:=by simp[spA]
 have t:(spB c T).length=T.length:=by simp[spB]
 unfold TY.s14;refine ZcY ?_;refine cp hO ?_;refine ZcY ?_;refine Qar 140 (fun i:Nat=>[(1,.ptr 51 0 0),(2,.ptr 53 0 0),(3,.ptr 54 0 0),(5,.ptr 52 0 0),(7,.sl 76 0 0 i 1),(22,rss L),(23,.int .i64 L.length),(24,.int .i64 i)]) (fun i=>[(51,.cells 0 [evsV c.ev,its 99 c.cs,its 114 c.rs,exs c.xs,cos c.ks]),(52,.cells 0 [sliN q.al,.int .i64 (q.n:Int),sliN q.ms,egsN q.es,tuV (spA c T),tuV (spB c T),sliN (spP c P T),rss L]),(53,.cells 0 ni8),(54,.cells 0 ni9),(76,.cells 0 (ints (nz (fbs (L.take i)))))]) (fun i=>i<=L.length) (fun i=>L.length-i) 0 0 200 (fun _:Unit=>[(1,.ptr 51 0 0),(2,.ptr 53 0 0),(3,.ptr 54 0 0),(5,.ptr 52 0 0),(7,sliN (fbs L))]) (fun _=>[(51,.cells 0 [evsV c.ev,its 99 c.cs,its 114 c.rs,exs c.xs,cos c.ks]),(52,.cells 0 [sliN q.al,.int .i64 (q.n:Int),sliN q.ms,egsN q.es,tuV (spA c T),tuV (spB c T),sliN (spP c P T),rss L]),(53,.cells 0 ni8),(54,.cells 0 ni9)]) (fun _=>True) ?_ (Zai _) ?_ ?_;·refine⟨[(51,.blk 64 0),(52,.blk 73 0),(53,.blk 65 0),(54,.blk 66 0),(76,.nil)],rfl,au0,?_,au37⟩;exact Zcw rfl rfl gg (Zcl d) (Zcw rfl rfl gg (Zcl a) (Zcw rfl rfl gg (Zcl rfl) (Zcw rfl rfl gg (Zcl rfl) (Zcx rfl rfl Zcv))))
 ·rintro i hi;by_cases b:i<L.length
  ·obtain⟨x,m⟩:=Qak b;have f:=Qto m;have g:4<=((L.flatMap rsC).drop (i*4)).length:=by rw[f];simp
   have l:(ints (nz (fbs (L.take i)))).length=i:=by simp[ints,QuE (show i<=L.length by omega)]
   refine ZcZ (Zc4 b f g l) ?_;refine⟨i+1,by omega,by omega,?_⟩;rw[Qtp m,QaQ,QaF];refine⟨[(51,.blk 51 0),(52,.blk 52 0),(53,.blk 53 0),(54,.blk 54 0),(76,.blk 76 1)],rfl,au0,?_,au37⟩;exact Zcw rfl rfl gg (Zcl d) (Zcw rfl rfl gg (Zcl a) (Zcw rfl rfl gg (Zcl rfl) (Zcw rfl rfl gg (Zcl rfl) (Zcw rfl rfl gg (Zcl (SU.Qaw (Qaa _) rfl)) Zcv))))
  have e:i=L.length:=by omega
  subst e;refine ZcT b ?_;refine⟨(),?_⟩;exact⟨[(51,.blk 51 0),(52,.blk 52 0),(53,.blk 53 0),(54,.blk 54 0)],rfl,Zcs,Zcw rfl rfl gg (Zcl d) (Zcw rfl rfl gg (Zcl a) (Zcw rfl rfl gg (Zcl rfl) (Zcw rfl rfl gg (Zcl rfl) Zcv))),Zcu (Rn.x2 rfl rfl) (Zcu (Rn.x2 rfl rfl) (Zcu (Rn.x2 rfl rfl) (Zcu (Rn.x2 rfl rfl) (Zcu (ZcD (b:=76) (g:=0) gg rfl rfl (by simp[fbs]) (by simp[ints,fbs]) (Zcl (Qaa _))) Zct))))⟩
 rintro _ _;refine ZcY ?_;refine cp n ?_;refine ZcY ?_;refine cp o ?_;refine ZcY ?_;refine⟨.inr trivial,_,rfl,Zck ?_⟩;rw[noRef,noRefs,noRef,a,noRefs,k];rfl
abbrev wCl(q:Aut)(A B:List (List Nat))(P:List Nat)(F:List (Nat×Int×Int×Int))(p:Aut)(c:Cel):List AV:=[sliN q.al,.int .i64 (q.n:Int),sliN q.ms,egsN q.es,tuV A,tuV B,sliN P,rss F,sliN p.al,.int .i64 (p.n:Int),sliN p.ms,egsN p.es,evsV c.ev,its 99 c.cs,its 114 c.rs,exs c.xs,cos c.ks]
variable{q p:Aut}{A B:List (List Nat)}{P:List Nat}{F:List (Nat×Int×Int×Int)}{c:Cel}
theorem Qeg:noRefs (wCl q A B P F p c)=true:=by have h:=Qbv c;have hA:noRefs (A.map sliN)=true:=Qax Qab _;have a:noRefs (B.map sliN)=true:=Qax Qab _;simp only[noRefs,noRef,Qaa,Qag,Qbi,hA,a,Zad,Zag]at h⊢;exact h
theorem possible56{s e y:Nat}(g:P[s]?=some y)(b:p.es.length<=1000000)(i:P.length<=1000000):Ps 56 [.agg (wCl q A B P F p c),.int .i64 (s:Int),.int .i64 (e:Int)] (.bool (decide (0<=stepI p.es y e))):=by
 have k:=step60 p y e b;have d:=@Qeg q p A B P F c;refine Zcn 64 (Ok VK.s56) rfl (by rw[noRefs,noRef,d];rfl) rfl ?_;have a:s<P.length:=(Zaj.1 g).1;have h:=QaH g;unfold VK.s56;refine ZcZ (Zc2 a h) ?_;refine cp k ?_;generalize stepI p.es y e=z;by_cases f:0<=z;·refine ZcZ f ?_;exact⟨.inr trivial,_,rfl,rfl⟩
 refine ZcZ f ?_;exact⟨.inr trivial,_,rfl,rfl⟩
end Go.AM.SO
namespace Go.AM
variable{P:Program}{N:NM}{r:List SOper}{dead:List Nat}{d:Option Nat}{fs:List Fr}{n:Nat}{T:Tmps}{h:Heap}{Q:QC}
theorem Qgc{k sz bytes:Nat}{zero}(hk:0<k)(h1:k*bytes<=140737488355328)(a:k<=140737488355328)(b:0<sz):wM P N (aAppendZ .dyn n sz bytes zero .nilsl (.int .i64 (k:Int))) d r dead fs n T h Q=wN P N (List.replicate k zero).flatten (.sl n 0 0 k sz) d r dead fs n T h Q:=by obtain⟨j,rfl⟩:∃j,k=j+1:=⟨k-1,by omega⟩;show wM P N (aAppendZ .dyn n sz bytes zero .nilsl (.int .i64 (.ofNat (j+1)))) d r dead fs n T h Q=_;simp only[aAppendZ];rw[if_pos ⟨h1,a,b⟩];exact Qgy (x:=fun g=>.cells g _) rfl
end Go.AM
namespace Go.AM.SO
open Go.Proofs Go.AM.SD Go.AM.SE
variable{S:List (List (List UInt8×Aut))}{A:List (List UInt8×Aut)}{z:List AV}{i:Nat}
abbrev zIt:List AV:=[.str [],.nilsl,.int .i64 0,.nilsl,.nilsl]
theorem QnC(k):noRefs (List.replicate k zIt).flatten=true:=by induction k with|zero=>rfl|succ k a=>rw[ZaY,Zbp];exact SU.Qaw rfl a
theorem capN:aCap .nilsl=some (.int .i64 0):=rfl
theorem sliceN{sz}:aSliceC (some sz) .nilsl none (some (.int .i64 0)) none=some .nilsl:=rfl
theorem _root_.Go.AM.au39{p:Prop}(h:p:=by repeat(first|exact Zct|(refine Zcu ?_ ?_;·(first|exact Zcj|exact Rn.x1 rfl rfl|exact Rn.x2 rfl rfl|exact Rn.x3 rfl rfl|exact Rn.x4 rfl rfl|exact Rn.x5 rfl|exact Rn.x6 rfl|exact Rn.x7 rfl|(refine ZcF ?_ ?_;(first|rfl|(rw[ZaG];rfl));(first|rfl|(simp only[noRef,noRefs,SD.Qaa,SD.Qab,SD.Qaf,SD.Qag,SD.Qah,SD.Qai,SD.Qaj,SD.Qal,SD.Qan,SD.Qaq,SE.QaR,SE.Qam,SE.Qao,SE.Qap,SE.Qav,SE.Qaz,SO.Qa9,SO.QaB,SO.QaD,SO.QaO,SO.QaY,SO.Qau,SO.Qay,SO.QbE,SO.Qbi,SO.Qbz,SO.QcU,SO.Qdn,SU.Qa8,SU.QaX,SU.QbO,SU.Qbb,SU.Qby,Zad,Zae,Zag];done)))|(refine Rn.fn ?_ ?_<;>(repeat'(first|exact ZcB|refine ZcC ?_ ?_|exact Zck rfl|exact Rn.x6 rfl|exact Rn.x2 rfl rfl|exact Rn.x5 rfl|exact Rn.x1 rfl rfl))))))):p:=h
theorem grow203(k:Nat)(b:0<k)(hk:k<=1000000):HSpec Tryz.prog 203 [.nilsl,.int .i64 (k:Int)] .e (.sl 90 0 0 0 5) (hp [(90,.cells 0 (List.replicate k zIt).flatten)]):=by
 refine ZcN 100 (Ok UK.s203) rfl ?_;have h1:¬(k:Int)<0:=by omega
 have a:(0:Int)<(k:Int):=by omega
 simp(disch:=first|omega|exact PairsOK.mk rfl|(simp only[lenW]<;>omega))only[UK.s203,QqI,QiL,capN,sliceN,Qgc,Int.sub_zero,h1,a,wW,wV,simprocAttr];refine⟨.inr trivial,_,rfl,?_⟩;refine⟨[(90,.blk 118 0)],rfl,au0,?_,au39⟩;exact Zcw rfl rfl gg (Zcl (QnC k)) Zcv
def catX(z:List AV)(S:List (List (List UInt8×Aut)))(i:Nat):List AV:=if i=0 then z else((S.take i).flatten).flatMap itN
theorem Qtq{z}{S}{i g}:srcB (some (.cells g (catX z S i))) g 0 ((S.take i).flatten.length) 5=some (((S.take i).flatten).flatMap itN):=by
 unfold catX;split;·rename_i h;subst h;simp[QbZ]
 exact QfK (QgS _)
theorem Qsa(h:S[i]?=some A):((S.take i).flatten).flatMap itN++A.flatMap itN=catX z S (i+1):=by unfold catX;rw[if_neg (by omega),take_succ' h,ZbY,Zao];simp
theorem QlB(h:S[i]?=some A):(S.take (i+1)).flatten.length=(S.take i).flatten.length+A.length:=by rw[take_succ' h,ZbY,Zaf];simp
theorem Qhd{S:List (List (List UInt8×Aut))}(i):(S.take i).flatten.length<=S.flatten.length:=by
 exact baNvm
theorem QuF{k}:noRefs (catX (List.replicate k zIt).flatten S i)=true:=by
 unfold catX;split;·exact QnC k
 exact Qa9 _
abbrev itss(S:List (List (List UInt8×Aut))):AV:=.fsl (S.map itsN) S.length 1
theorem QcU(S:List (List (List UInt8×Aut))):noRefs (S.map itsN)=true:=by induction S with|nil=>rfl|cons x S a=>rw[ZaL,noRefs,Qdm,a];rfl
theorem QlC(h:S[i]?=some A):((S.map itsN).drop i).head?=some (itsN A):=by rw[ZbB,Zaz,h];rfl
theorem _root_.Go.AM.au40{p:Prop}(h:p:=by repeat'(first|exact Zcv|(refine Zcl ?_;first|rfl|(simp only[noRef,noRefs,SD.Qaa,SD.Qab,SD.Qaf,SD.Qag,SD.Qah,SD.Qai,SD.Qaj,SD.Qal,SD.Qan,SD.Qaq,SE.QaR,SE.Qam,SE.Qao,SE.Qap,SE.Qav,SE.Qaz,SO.Qa9,SO.QaB,SO.QaD,SO.QaO,SO.QaY,SO.Qau,SO.Qay,SO.QbE,SO.Qbi,SO.Qbz,SO.QcU,SO.Qdn,SU.Qa8,SU.QaX,SU.QbO,SU.Qbb,SU.Qby,Zad,Zae,Zag];done))|exact ZcJ rfl|exact ZcB|exact(True.intro:RnM _ _ _ [] [])|refine ZcC ?_ ?_|(refine Zck ?_;first|rfl|(simp only[noRef,noRefs,SD.Qaa,SD.Qab,SD.Qaf,SD.Qag,SD.Qah,SD.Qai,SD.Qaj,SD.Qal,SD.Qan,SD.Qaq,SE.QaR,SE.Qam,SE.Qao,SE.Qap,SE.Qav,SE.Qaz,SO.Qa9,SO.QaB,SO.QaD,SO.QaO,SO.QaY,SO.Qau,SO.Qay,SO.QbE,SO.Qbi,SO.Qbz,SO.QcU,SO.Qdn,SU.Qa8,SU.QaX,SU.QbO,SU.Qbb,SU.Qby,Zad,Zae,Zag];done))|exact Rn.x1 rfl rfl|exact Rn.x2 rfl rfl|exact Rn.x3 rfl rfl|exact Rn.x4 rfl rfl|exact Rn.x5 rfl|exact Rn.x6 rfl|exact Rn.x7 rfl|refine Zcx rfl rfl ?_|refine Zcw rfl rfl rfl ?_ ?_|refine Zcy rfl rfl rfl ?_ ?_|refine Zcz rfl rfl ?_ ?_|refine ZcA rfl rfl ?_ ?_)):p:=h
theorem concat158(S)(hS:S.length<=1000)(m:0<S.flatten.length)(hk:S.flatten.length<=1000000):Ps 158 [itss S] (itsN S.flatten):=by
 refine Zcm 64 (Ok UK.s158) rfl (by rw[noRefs,noRef,QcU];rfl) (Qdm _) ?_;have q:=QcU S;unfold UK.s158;refine Zc0 ?_;refine QaC 100 (fun i:Nat=>[(0,itss S),(3,.int .i64 ((S.take i).flatten.length:Nat)),(9,itss S),(10,.int .i64 S.length),(11,.int .i64 i)]) (fun _=>[]) (fun i=>i<=S.length) (fun i=>S.length-i) 0 ?_ (Zai _) ?_;·exact⟨[],rfl,au0,au40,au39⟩
 rintro i hi;by_cases a:i<S.length
 ·obtain⟨A,b⟩:=Qak a;have k:=QlC b;have o:=@Qhd S i;have b2:=@Qhd S (i+1);have d:=QlB b;rw[d]at b2;have f:¬((S.take i).flatten.length:Int)+(A.length:Int)<0:=by omega
  refine Zc1 (Zc3 a k f) ?_;refine⟨i+1,by omega,by omega,?_⟩;rw[d];exact⟨[],rfl,au0,au40,au39⟩
 have e:i=S.length:=by omega
 subst e;refine ZcX a ?_;refine ch (ZcM (b:=90) (by(try simp only[noRefs,Qaa,noRef,noRefs,Qay,SU.Qa0,Zae,Zad])<;>rfl) (grow203 _ m hk) (by repeat(first|exact Fresh.e|exact Zco (by assumption) (by omega)|refine Zcp ?_ (by omega) (by omega))) rfl) ?_;refine Zc0 ?_;generalize n:(List.replicate S.flatten.length zIt).flatten=z;have g:∀i,noRefs (catX z S i)=true:=fun i=>by rw[<-n];exact QuF
 refine Qar 200 (fun i:Nat=>[(6,.sl 91 0 0 (S.take i).flatten.length 5),(25,itss S),(26,.int .i64 S.length),(27,.int .i64 i)]) (fun i=>[(91,.cells 0 (catX z S i))]) (fun i=>i<=S.length) (fun i=>S.length-i) 0 2 260 (fun _:Unit=>[(6,itsN S.flatten)]) (fun _=>[]) (fun _=>True) ?_ (Zai _) ?_ ?_;·refine⟨[(91,.blk 90 0)],rfl,au0,?_,au39⟩;exact Zcw rfl rfl gg (Zcl (by rw[<-n];exact QnC _)) Zcv
 ·rintro i hi;by_cases a:i<S.length;·obtain⟨A,b⟩:=Qak a;have k:=QlC b;have o:=@Qhd S i;have b2:=@Qhd S (i+1);have d:=QlB b;rw[d]at b2;have p:=@Qtq z S i;have c:(A.flatMap itN).all AV.one=true:=Qc0 (fun _=>rfl) _;have l:=Qsa (z:=z) b;refine Zc1 (Zc5 a k @p c l) ?_;refine⟨i+1,by omega,by omega,?_⟩;rw[d];refine⟨[(91,.blk 91 1)],rfl,au0,?_,au39⟩;exact Zcw rfl rfl gg (Zcl (g _)) Zcv
  have e:i=S.length:=by omega
  subst e;have l:catX z S S.length=S.flatten.flatMap itN:=by unfold catX;rw[if_neg (fun h=>by rw[List.length_eq_zero_iff]at h;subst h;simp at m),Zan]
  refine ZcX (Zc2 a l) ?_;exact⟨(),[],rfl,Zcs,Zcv,Zcu (ZcD (b:=91) (g:=0) gg rfl rfl rfl (QgS _) (Zcl (Qa9 _))) Zct⟩
 rintro _ _;refine Zc0 ?_;exact⟨.inr trivial,_,rfl,Zck (Qdm _)⟩
variable{q p:Aut}{A B:List (List Nat)}{P:List Nat}{F:List (Nat×Int×Int×Int)}{c:Cel}
theorem tuple58{s:Nat}{a b}(l:A[s]?=some a)(d:B[s]?=some b)(n:a.length<=1000)(m:b.length<=1000):Ps 58 [.agg (wCl q A B P F p c),.int .i64 (s:Int)] (sliN (a++b)):=by
 have h:=@Qeg q p A B P F c;refine Zcm 64 (Ok VK.s58) rfl (by rw[noRefs,noRef,h];rfl) (Qab _) ?_;have g:s<A.length:=(Zaj.1 l).1;have f:s<B.length:=(Zaj.1 d).1;unfold VK.s58;refine ZcY ?_;refine Qdj [(8,[]),(11,[]),(15,[]),(18,[])] rfl rfl ?_;have i:=QfS (nz a);have k:=QfS (nz b);refine ZcZ (Zc6 g f (Qeq l) (Qeq d) i k) ?_;refine⟨⟨⟨[],rfl,fun b d=>d⟩,⟨[],rfl,fun b d=>d⟩,⟨[],rfl,fun b d=>d⟩,⟨[],rfl,fun b d=>d⟩,trivial⟩,.inr trivial,_,rfl,?_⟩;unfold sliN;rw[Zaf];refine ZcE gg ?_ ?_;·simp[ints,nz]
 rw[QaQ,QaF];exact Zcl (SU.Qaw (Qaa _) (Qaa _))
theorem open15(c)(h:WfCel c):Ps 15 [celV c] (.tup [.agg (wCl (syncA (allA c)) (spA c (sync0 (allA c)).1) (spB c (sync0 (allA c)).1) (spP c (sync0 (auL c.cs)).1 (sync0 (allA c)).1) (forb c (sync0 (allA c)).1.length) (syncA (auL c.cs)) c),.bool true]):=by have a:=Qbv c;have hO:=specify18 c h;have b:=plant17 c h;have hw:=@Qeg (syncA (allA c)) (syncA (auL c.cs)) (spA c (sync0 (allA c)).1) (spB c (sync0 (allA c)).1) (spP c (sync0 (auL c.cs)).1 (sync0 (allA c)).1) (forb c (sync0 (allA c)).1.length) c;refine Zcm 64 (Ok VK.s15) rfl (by rw[noRefs,SU.Qa0];rfl) (by rw[noRef,noRefs,noRef,hw];rfl) ?_;rw[spC,spG]at hO;unfold wCl at*;generalize forb c (sync0 (allA c)).1.length=L at*;generalize syncA (allA c)=q at*;generalize syncA (auL c.cs)=p at*;generalize spP c (sync0 (auL c.cs)).1 (sync0 (allA c)).1=P at*;generalize(sync0 (auL c.cs)).1=TT at*;generalize spA c (sync0 (allA c)).1=A at*;generalize spB c (sync0 (allA c)).1=B at*;unfold VK.s15;refine ZcY ?_;refine cp hO ?_;refine ZcY ?_;refine cp b ?_;refine ZcY ?_;refine⟨.inr trivial,_,rfl,Zck ?_⟩;rw[noRef,noRefs,noRef,hw];rfl
end Go.AM.SO
namespace Go.AM.VM
open Go.Proofs
set_option maxHeartbeats 4000000
noncomputable section
def cf:YA.Cf:={}
def s49:SFn:=by
 refine(?f:YA.Yt Tryz.prog cf 49 [[0,4],[1,2,5,6,7,8,9,10,11,12,13,14,15,16]]) ?s ?h;case h=>exact YA.rr
 exact fun s _=>s
def s110:SFn:=by
 refine(?f:YA.Yt Tryz.prog cf 110 [[2],[],[],[],[12,13,14],[5,15,16,17,18],[19],[20,21],[20,22],[3,9,10,11,23,24],[0],[],[28,29,30],[8,31,32,33],[34],[6,25,26,27,35]]) ?s ?h;case h=>exact YA.rr
 exact fun s _=>s
def s166:SFn:=by
 refine(?f:YA.Yt Tryz.prog cf 166 [[4],[5],[6,7],[6,8,9,10,11,12,13,14],[15],[1,16,17,18,19,20,21,22,23,24,25],[0,1,16,26]]) ?s ?h;case h=>exact YA.rr
 exact fun s _=>s
end
end Go.AM.VM
namespace Go.AM.SO
open Go.Proofs Go.AM.SD Go.AM.SE
variable{S:List (List Nat)}{z:List AV}{A:List Nat}{i k:Nat}
abbrev zI:List AV:=[.int .i64 0]
theorem zI_nr(k):noRefs (List.replicate k zI).flatten=true:=by induction k with|zero=>rfl|succ k a=>rw[ZaY,Zbp];exact SU.Qaw rfl a
theorem _root_.Go.AM.au41{p:Prop}(h:p:=by repeat(first|exact Zct|(refine Zcu ?_ ?_;·(first|exact Zcj|exact Rn.x1 rfl rfl|exact Rn.x2 rfl rfl|exact Rn.x3 rfl rfl|exact Rn.x4 rfl rfl|exact Rn.x5 rfl|exact Rn.x6 rfl|exact Rn.x7 rfl|(refine ZcF ?_ ?_;(first|rfl|(rw[ZaG];rfl));(first|rfl|(simp only[noRef,noRefs,SD.Qaa,SD.Qab,SD.Qaf,SD.Qag,SD.Qah,SD.Qai,SD.Qaj,SD.Qal,SD.Qan,SD.Qaq,SE.QaR,SE.Qam,SE.Qao,SE.Qap,SE.Qav,SE.Qaz,SO.Qa9,SO.QaB,SO.QaD,SO.QaO,SO.QaY,SO.Qau,SO.Qay,SO.QbE,SO.Qbi,SO.Qbz,SO.QcU,SO.Qdn,SO.Qdq,SU.Qa8,SU.QaX,SU.QbO,SU.Qbb,SU.Qby,Zad,Zae,Zag];done)))|(refine Rn.fn ?_ ?_<;>(repeat'(first|exact ZcB|refine ZcC ?_ ?_|exact Zck rfl|exact Rn.x6 rfl|exact Rn.x2 rfl rfl|exact Rn.x5 rfl|exact Rn.x1 rfl rfl))))))):p:=h
theorem grow166(k:Nat)(b:0<k)(hk:k<=1000000):HSpec Tryz.prog 166 [.nilsl,.int .i64 (k:Int)] .e (.sl 90 0 0 0 1) (hp [(90,.cells 0 (List.replicate k zI).flatten)]):=by
 refine ZcN 100 (Ok VM.s166) rfl ?_;have h1:¬(k:Int)<0:=by omega
 have a:(0:Int)<(k:Int):=by omega
 simp(disch:=first|omega|exact PairsOK.mk rfl|(simp only[lenW]<;>omega))only[VM.s166,QqI,QiL,capN,sliceN,Qgc,Int.sub_zero,h1,a,wW,wV,simprocAttr];refine⟨.inr trivial,_,rfl,?_⟩;refine⟨[(90,.blk 118 0)],rfl,au0,?_,au41⟩;exact Zcw rfl rfl gg (Zcl (zI_nr k)) Zcv
theorem Qsb(l):(ints (nz l)).length=l.length*1:=by simp[ints,nz]
theorem Qtr:ints (nz ([]:List Nat))=[]:=rfl
def catY(z:List AV)(S:List (List Nat))(i:Nat):List AV:=if i=0 then z else ints (nz (S.take i).flatten)
theorem Qts{z}{S}{i g}:srcB (some (.cells g (catY z S i))) g 0 ((S.take i).flatten.length) 1=some (ints (nz (S.take i).flatten)):=by
 unfold catY;split;·rename_i h;subst h;simp[QbZ,Qtr];rfl
 exact QfK (Qsb _)
theorem Qsc(h:S[i]?=some A):ints (nz (S.take i).flatten)++ints (nz A)=catY z S (i+1):=by unfold catY;rw[if_neg (by omega),take_succ' h,ZbY,QaQ,QaF];simp
theorem QlD(h:S[i]?=some A):(S.take (i+1)).flatten.length=(S.take i).flatten.length+A.length:=by rw[take_succ' h,ZbY,Zaf];simp
theorem Qhe{S:List (List Nat)}(i):(S.take i).flatten.length<=S.flatten.length:=by
 exact baNvm
theorem QuG:noRefs (catY (List.replicate k zI).flatten S i)=true:=by
 unfold catY;split;·exact zI_nr k
 exact Qaa _
abbrev nss(S:List (List Nat)):AV:=.fsl (S.map sliN) S.length 1
theorem Qdq(S:List (List Nat)):noRefs (S.map sliN)=true:=by induction S with|nil=>rfl|cons x S a=>rw[ZaL,noRefs,Qab,a];rfl
theorem QnD(h:S[i]?=some A):((S.map sliN).drop i).head?=some (sliN A):=by rw[ZbB,Zaz,h];rfl
theorem _root_.Go.AM.au42{p:Prop}(h:p:=by repeat'(first|exact Zcv|(refine Zcl ?_;first|rfl|(simp only[noRef,noRefs,SD.Qaa,SD.Qab,SD.Qaf,SD.Qag,SD.Qah,SD.Qai,SD.Qaj,SD.Qal,SD.Qan,SD.Qaq,SE.QaR,SE.Qam,SE.Qao,SE.Qap,SE.Qav,SE.Qaz,SO.Qa9,SO.QaB,SO.QaD,SO.QaO,SO.QaY,SO.Qau,SO.Qay,SO.QbE,SO.Qbi,SO.Qbz,SO.QcU,SO.Qdn,SO.Qdq,SU.Qa8,SU.QaX,SU.QbO,SU.Qbb,SU.Qby,Zad,Zae,Zag];done))|exact ZcJ rfl|exact ZcB|exact(True.intro:RnM _ _ _ [] [])|refine ZcC ?_ ?_|(refine Zck ?_;first|rfl|(simp only[noRef,noRefs,SD.Qaa,SD.Qab,SD.Qaf,SD.Qag,SD.Qah,SD.Qai,SD.Qaj,SD.Qal,SD.Qan,SD.Qaq,SE.QaR,SE.Qam,SE.Qao,SE.Qap,SE.Qav,SE.Qaz,SO.Qa9,SO.QaB,SO.QaD,SO.QaO,SO.QaY,SO.Qau,SO.Qay,SO.QbE,SO.Qbi,SO.Qbz,SO.QcU,SO.Qdn,SO.Qdq,SU.Qa8,SU.QaX,SU.QbO,SU.Qbb,SU.Qby,Zad,Zae,Zag];done))|exact Rn.x1 rfl rfl|exact Rn.x2 rfl rfl|exact Rn.x3 rfl rfl|exact Rn.x4 rfl rfl|exact Rn.x5 rfl|exact Rn.x6 rfl|exact Rn.x7 rfl|refine Zcx rfl rfl ?_|refine Zcw rfl rfl rfl ?_ ?_|refine Zcy rfl rfl rfl ?_ ?_|refine Zcz rfl rfl ?_ ?_|refine ZcA rfl rfl ?_ ?_)):p:=h
theorem concat110(S)(hS:S.length<=1000)(m:0<S.flatten.length)(hk:S.flatten.length<=1000000):Ps 110 [nss S] (sliN S.flatten):=by
 refine Zcm 64 (Ok VM.s110) rfl (by rw[noRefs,noRef,Qdq];rfl) (Qab _) ?_;have q:=Qdq S;unfold VM.s110;refine Zc0 ?_;refine QaC 100 (fun i:Nat=>[(0,nss S),(3,.int .i64 ((S.take i).flatten.length:Nat)),(9,nss S),(10,.int .i64 S.length),(11,.int .i64 i)]) (fun _=>[]) (fun i=>i<=S.length) (fun i=>S.length-i) 0 ?_ (Zai _) ?_;·exact⟨[],rfl,au0,au42,au41⟩
 rintro i hi;by_cases a:i<S.length
 ·obtain⟨A,b⟩:=Qak a;have k:=QnD b;have o:=@Qhe S i;have b2:=@Qhe S (i+1);have d:=QlD b;rw[d]at b2;have f:¬((S.take i).flatten.length:Int)+(A.length:Int)<0:=by omega
  refine Zc1 (Zc3 a k f) ?_;refine⟨i+1,by omega,by omega,?_⟩;rw[d];exact⟨[],rfl,au0,au42,au41⟩
 have e:i=S.length:=by omega
 subst e;refine ZcX a ?_;refine ch (ZcM (b:=90) (by(try simp only[noRefs,Qaa,noRef,noRefs,Qay,SU.Qa0,Zae,Zad])<;>rfl) (grow166 _ m hk) (by repeat(first|exact Fresh.e|exact Zco (by assumption) (by omega)|refine Zcp ?_ (by omega) (by omega))) rfl) ?_;refine Zc0 ?_;generalize n:(List.replicate S.flatten.length zI).flatten=z;have g:∀i,noRefs (catY z S i)=true:=fun i=>by rw[<-n];exact QuG
 refine Qar 200 (fun i:Nat=>[(6,.sl 91 0 0 (S.take i).flatten.length 1),(25,nss S),(26,.int .i64 S.length),(27,.int .i64 i)]) (fun i=>[(91,.cells 0 (catY z S i))]) (fun i=>i<=S.length) (fun i=>S.length-i) 0 2 260 (fun _:Unit=>[(6,sliN S.flatten)]) (fun _=>[]) (fun _=>True) ?_ (Zai _) ?_ ?_;·refine⟨[(91,.blk 90 0)],rfl,au0,?_,au41⟩;exact Zcw rfl rfl gg (Zcl (by rw[<-n];exact zI_nr _)) Zcv
 ·rintro i hi;by_cases a:i<S.length;·obtain⟨A,b⟩:=Qak a;have k:=QnD b;have o:=@Qhe S i;have b2:=@Qhe S (i+1);have d:=QlD b;rw[d]at b2;have p:=@Qts z S i;have c:(ints (nz A)).all AV.one=true:=QfS _;have l:=Qsc (z:=z) b;refine Zc1 (Zc5 a k @p c l) ?_;refine⟨i+1,by omega,by omega,?_⟩;rw[d];refine⟨[(91,.blk 91 1)],rfl,au0,?_,au41⟩;exact Zcw rfl rfl gg (Zcl (g _)) Zcv
  have e:i=S.length:=by omega
  subst e;have l:catY z S S.length=ints (nz S.flatten):=by unfold catY;rw[if_neg (fun h=>by rw[List.length_eq_zero_iff]at h;subst h;simp at m),Zan]
  refine ZcX (Zc2 a l) ?_;exact⟨(),[],rfl,Zcs,Zcv,Zcu (ZcD (b:=91) (g:=0) gg rfl rfl rfl (Qsb _) (Zcl (Qaa _))) Zct⟩
 rintro _ _;refine Zc0 ?_;exact⟨.inr trivial,_,rfl,Zck (Qab _)⟩
theorem tuple49{q:Aut}{A B}{P}{F}{s:Nat}{a b}(g:A[s]?=some a)(h:B[s]?=some b)(n:0<a.length)(m:a.length<=1000)(k:b.length<=1000):Ps 49 [.agg [sliN q.al,.int .i64 (q.n:Int),sliN q.ms,egsN q.es,tuV A,tuV B,sliN P,rss F],.int .i64 (s:Int)] (sliN (a++b)):=by
 have i:=concat110 [a,b] (by simp) (by simp;omega) (by simp;omega);rw[show[a,b].flatten=a++b from by simp]at i;have d:s<A.length:=(Zaj.1 g).1;have c:s<B.length:=(Zaj.1 h).1;have f:noRefs [sliN q.al,.int .i64 (q.n:Int),sliN q.ms,egsN q.es,tuV A,tuV B,sliN P,rss F]=true:=by have hA:noRefs (A.map sliN)=true:=Qax Qab _;have l:noRefs (B.map sliN)=true:=Qax Qab _;simp only[noRefs,noRef,Qaa,Qag,hA,l,Qbi];rfl
 refine Zcm 64 (Ok VM.s49) rfl (by rw[noRefs,noRef,f];rfl) (Qab _) ?_;unfold VM.s49;refine Zc1 (Zc4 d c (Qeq g) (Qeq h)) ?_;refine ch (HSpec.give1 (g:=0) (ds:=[sliN a,sliN b]) i gg (by rw[noRefs,Qab,noRefs,Qab];rfl) rfl rfl) ?_;refine Zc0 ?_;exact⟨.inr trivial,_,rfl,Zck (Qab _)⟩
abbrev ctC(c:Cel)(k:Nat):Bool:=(c.ev k).c
theorem ev_at(e)(hk:k<5):(evl e)[k]?=some ([UInt8.ofNat (97+k)],e k):=by unfold evl;rw[Zaz,Zbw hk];rfl
theorem Qtt(e)(hk:k<5):(evsC e).drop (k*5)=.str [UInt8.ofNat (97+k)]::.bool (e k).c::.bool (e k).o::.bool (e k).f::.int .i64 ((e k).flt:Int)::((evl e).drop (k+1)).flatMap evN:=Qin (ev_at e hk)
def covV(v:List (List UInt8×Int))(t c:List Bool):List Bxn:=cov (fun a=>grB (okP (dom v) t c) v a v.length) (dom v) t c
theorem cover60(v:List (List UInt8×Int))(t c)(g:v.length<=5)(b:∀x∈v,0<=x.2/\x.2<=2)(hA:(dom v).length<=1000)(k:t.length=(dom v).length)(hc:c.length=(dom v).length)(d:∀a∈dom v,∀(j:Nat)x,v[j]?=some x->0<=a.getD j 0/\a.getD j 0<=x.2):Ps 60 [vrsV v,boV t,boV c] (bxsV (covV v t c)):=by have f:∀y∈dom v,y.length=v.length:=fun y i=>QeR v.length (Zau _) y (by rw[Zan];exact i);have h:=cover126 v (dom v) t c g b hA k hc f (domain125 v g b) d;refine Zcn 64 (Ok VL.s60) rfl (by simp only[noRefs,noRef,Qay,QaB];rfl) (QbM _) ?_;unfold VL.s60;refine ZcY ?_;refine cp h ?_;refine ZcY ?_;exact⟨.inr trivial,_,rfl,rfl⟩
section
variable(v:List (List UInt8×Int))(A B:List (List Nat))(P:List Nat)(pe se:List (Nat×Nat×Nat))(O:List Nat)(ev:Nat)
def tplQ(o:Nat):List Int:=nz (A.getD o []++B.getD o [])
def tcQ:Nat->List Bool×List Bool
 |0=>(List.replicate (dom v).length false,List.replicate (dom v).length false)|i+1=>let s:=tcQ i;let o:=O.getD i 0
  if 0<=stepI pe (P.getD o 0) ev then(s.1.set (ixQ v (tplQ A B o) v.length).toNat (decide (0<=stepI se i ev)),s.2.set (ixQ v (tplQ A B o) v.length).toNat true)else s
end
theorem Qet{v}{A B}{P}{pe se}{O}{ev}:∀i,(tcQ v A B P pe se O ev i).1.length=(dom v).length/\(tcQ v A B P pe se O ev i).2.length=(dom v).length
 |0=>⟨Zbe ..,Zbe ..⟩|i+1=>by
  obtain⟨h1,a⟩:=@Qet v A B P pe se O ev i;rw[tcQ];split;·exact⟨by rw[ZbU];exact h1,by rw[ZbU];exact a⟩
  exact⟨h1,a⟩
def expQ(ct:Nat->Bool)(G:Nat->List Bxn):Nat->List Gdn|0=>[]|e+1=>if ct e=true then expQ ct G e++[⟨(e:Int),G e⟩]else expQ ct G e
theorem QnE{ct}{G}:∀e,(expQ ct G e).length<=e
 |0=>Zau _|e+1=>by
  have:=@QnE ct G e;rw[expQ];split;·rw[Zaf];simp;omega
  omega
theorem bo_fl(n):(List.replicate n [AV.bool false]).flatten=(List.replicate n false).map AV.bool:=by induction n with|zero=>rfl|succ n a=>rw[ZaY,Zbp,a,ZaY];rfl
variable{q p:Aut}{A B:List (List Nat)}{P:List Nat}{F:List (Nat×Int×Int×Int)}{c:Cel}
theorem expected17(v:List (List UInt8×Int))(R:Res)(h5:v.length<=5)(h:∀x∈v,0<=x.2/\x.2<=2)(hD:(dom v).length<=1000)(hv:Ps 12 [celV c] (vrsV v))(O:∀a∈dom v,∀(j:Nat)x,v[j]?=some x->0<=a.getD j 0/\a.getD j 0<=x.2)(Q:p.es.length<=1000000)(hse:R.sup.es.length<=1000000)(hPl:P.length<=1000000)(hO:R.orig.length<=1000000)(hOr:∀o∈R.orig,∃a b y,A[o]?=some a/\B[o]?=some b/\P[o]?=some y/\(a++b).length=v.length/\∀(j:Nat)x,v[j]?=some x->0<=(nz (a++b)).getD j 0/\(nz (a++b)).getD j 0<=x.2):Ps 17 [.agg (wCl q A B P F p c),rsV R] (gdsV (expQ (ctC c) (fun ev=>covV v (tcQ v A B P p.es R.sup.es R.orig ev R.orig.length).1 (tcQ v A B P p.es R.sup.es R.orig ev R.orig.length).2) 5)):=by
 have d:=@Qeg q p A B P F c;have hdm:=domain55 v h5 h;refine Zcm 64 (Ok VK.s17) rfl (by rw[noRefs,noRef,d,noRefs,Qc8];rfl) (Qk0 _) ?_;unfold VK.s17;refine ZcY ?_;refine cp hv ?_;refine ZcY ?_;refine cp hdm ?_;refine ZcY ?_;generalize V:(fun ev=>covV v (tcQ v A B P p.es R.sup.es R.orig ev R.orig.length).1 (tcQ v A B P p.es R.sup.es R.orig ev R.orig.length).2)=G;have V:∀e,G e=covV v (tcQ v A B P p.es R.sup.es R.orig e R.orig.length).1 (tcQ v A B P p.es R.sup.es R.orig e R.orig.length).2:=fun e=>by rw[<-V]
 have f:noRefs [sliN R.kept,sli R.dist,rms R.rem,.int .i64 (R.rounds:Int),sliN R.sup.al,.int .i64 (R.sup.n:Int),sliN R.sup.ms,egsN R.sup.es,sliN R.orig]=true:=by have:=Qc8 R;rwa[noRef]at this
 refine Qar 100 (fun e:Nat=>[(2,.ptr 50 0 0),(3,.ptr 51 0 0),(5,vrsV v),(6,liV (dom v)),(7,.sl 71 0 0 (expQ (ctC c) G e).length 2),(8,.int .i64 e)]) (fun e=>[(50,.cells 0 (wCl q A B P F p c)),(51,.cells 0 [sliN R.kept,sli R.dist,rms R.rem,.int .i64 (R.rounds:Int),sliN R.sup.al,.int .i64 (R.sup.n:Int),sliN R.sup.ms,egsN R.sup.es,sliN R.orig]),(71,.cells 0 ((expQ (ctC c) G e).flatMap gdC))]) (fun e=>e<=5) (fun e=>5-e) 0 0 200 (fun _:Unit=>[(7,gdsV (expQ (ctC c) G 5))]) (fun _=>[]) (fun _=>True) ?_ (Zai _) ?_ ?_;·refine⟨[(50,.blk 64 0),(51,.blk 65 0),(71,.nil)],rfl,au0,?_,au41⟩;exact Zcw rfl rfl gg (Zcl d) (Zcw rfl rfl gg (Zcl f) (Zcx rfl rfl Zcv))
 ·rintro e he;have E:expQ (ctC c) G (e+1)=if ctC c e=true then expQ (ctC c) G e++[⟨(e:Int),G e⟩]else expQ (ctC c) G e:=rfl;have hL:=@QnE (ctC c) G e;by_cases w:e<5
  ·have m:=Qtt c.ev w;have M:5<=((evsC c.ev).drop (e*5)).length:=by rw[m];simp
   have u:(e:Int)<5:=by omega
   generalize expQ (ctC c) G e=X at*;cases hc:(c.ev e).c with|false=>rw[hc]at m;refine ZcZ (Zc4 w u m M) ?_;refine⟨e+1,by omega,by omega,?_⟩;rw[E,if_neg (by show¬(c.ev e).c=true;rw[hc];decide)];refine⟨[(50,.blk 50 0),(51,.blk 51 0),(71,.blk 71 0)],rfl,au0,?_,au41⟩;exact Zcw rfl rfl gg (Zcl d) (Zcw rfl rfl gg (Zcl f) (Zcw rfl rfl gg (Zcl (QaO _)) Zcv))|true=>
    rw[hc]at m;have H:((dom v).length:Int)<=140737488355328:=by omega
    have U:((dom v).length:Int)<=140737488355328/\((dom v).length:Int)<=140737488355328:=⟨H,H⟩;refine Zc1 (Zc9 w u m M U @bo_fl @Qac @Qad @Qae) ?_;refine Qar 300 (fun i:Nat=>[(2,.ptr 50 0 0),(3,.ptr 51 0 0),(5,vrsV v),(6,liV (dom v)),(7,.sl 71 0 0 X.length 2),(8,.int .i64 e),(9,.sl 81 0 0 (dom v).length 1),(10,.sl 82 0 0 (dom v).length 1),(11,.int .i64 i)]) (fun i=>[(50,.cells 0 (wCl q A B P F p c)),(51,.cells 0 [sliN R.kept,sli R.dist,rms R.rem,.int .i64 (R.rounds:Int),sliN R.sup.al,.int .i64 (R.sup.n:Int),sliN R.sup.ms,egsN R.sup.es,sliN R.orig]),(71,.cells 0 (X.flatMap gdC)),(81,.cells 0 ((tcQ v A B P p.es R.sup.es R.orig e i).1.map AV.bool)),(82,.cells 0 ((tcQ v A B P p.es R.sup.es R.orig e i).2.map AV.bool))]) (fun i=>i<=R.orig.length) (fun i=>R.orig.length-i) 0 2 420 (fun _:Unit=>[(2,.ptr 50 0 0),(3,.ptr 51 0 0),(5,vrsV v),(6,liV (dom v)),(7,.sl 71 0 0 X.length 2),(8,.int .i64 e),(9,boV (tcQ v A B P p.es R.sup.es R.orig e R.orig.length).1),(10,boV (tcQ v A B P p.es R.sup.es R.orig e R.orig.length).2)]) (fun _=>[(50,.cells 0 (wCl q A B P F p c)),(51,.cells 0 [sliN R.kept,sli R.dist,rms R.rem,.int .i64 (R.rounds:Int),sliN R.sup.al,.int .i64 (R.sup.n:Int),sliN R.sup.ms,egsN R.sup.es,sliN R.orig]),(71,.cells 0 (X.flatMap gdC))]) (fun _=>True) ?_ (Zai _) ?_ ?_;·refine⟨[(50,.blk 50 0),(51,.blk 51 0),(71,.blk 71 0),(81,.blk 116 0),(82,.blk 119 0)],rfl,au0,?_,au41⟩;exact Zcw rfl rfl gg (Zcl d) (Zcw rfl rfl gg (Zcl f) (Zcw rfl rfl gg (Zcl (QaO _)) (Zcw rfl rfl gg (Zcl (QaB _)) (Zcw rfl rfl gg (Zcl (QaB _)) Zcv))))
    ·rintro i hi;obtain⟨n,l⟩:=@Qet v A B P p.es R.sup.es R.orig e i;have r:tcQ v A B P p.es R.sup.es R.orig e (i+1)=if 0<=stepI p.es (P.getD (R.orig.getD i 0) 0) e then((tcQ v A B P p.es R.sup.es R.orig e i).1.set (ixQ v (tplQ A B (R.orig.getD i 0)) v.length).toNat (decide (0<=stepI R.sup.es i e)),(tcQ v A B P p.es R.sup.es R.orig e i).2.set (ixQ v (tplQ A B (R.orig.getD i 0)) v.length).toNat true)else tcQ v A B P p.es R.sup.es R.orig e i:=rfl;by_cases N:i<R.orig.length
     ·obtain⟨o,ho⟩:=Qak N;obtain⟨a,b,y,hA,hB,hP,C,I⟩:=hOr o (Zac ho);have z:=QaH ho;have g:=@possible56 q p A B P F c o e y hP Q hPl;have htu:=@tuple58 q p A B P F c o a b hA hB (by rw[Zaf]at C;omega) (by rw[Zaf]at C;omega);have hnl:(nz (a++b)).length=v.length:=by rw[QmN];exact C
      have J:=index57 v (nz (a++b)) h5 h hnl I;have hsn:sliN (a++b)=sli (nz (a++b)):=by unfold sliN sli;rw[QmN]
      rw[<-hsn]at J;have k:=Qd6 h I v.length (Zau _);have t:=Qen h v.length (Zau _);have hsu:=step60 R.sup i e hse;rw[QaA ho,QaA hP]at r;have htp:tplQ A B o=nz (a++b):=by unfold tplQ;rw[QaA hA,QaA hB]
      rw[htp]at r;rw[Zan]at k t;rw[<-t]at k;generalize ixQ v (nz (a++b)) v.length=K at*;generalize tcQ v A B P p.es R.sup.es R.orig e i=S at*;by_cases s:0<=stepI p.es y e
      ·rw[decide_eq_true s]at g;refine ZcZ (Zc2 N z) ?_;refine cp g ?_;refine ZcZ z ?_;refine cp htu ?_;refine ZcY ?_;refine cp J ?_;refine ZcY ?_;refine cp hsu ?_;have hK1:K.toNat+1<=(dom v).length:=by omega
       have hK2:0<=K/\K<((dom v).length:Int):=k;have hKn:((K.toNat:Nat):Int)=K:=Int.toNat_of_nonneg k.1;have T:(S.1.map AV.bool).length=(dom v).length:=by rw[Zav];exact n
       have hl2:(S.2.map AV.bool).length=(dom v).length:=by rw[Zav];exact l
       refine ZcZ (Zc6 hK1 hK2 k.1 T hl2 @QgV) ?_;refine⟨i+1,by omega,by omega,?_⟩;rw[r,if_pos s];dsimp only;exact bEn4P
      rw[decide_eq_false s]at g;refine ZcZ (Zc2 N z) ?_;refine cp g ?_;refine ZcY ?_;refine⟨i+1,by omega,by omega,?_⟩;rw[r,if_neg s];exact bEn4P
     have ei:i=R.orig.length:=by omega
     subst ei;refine ZcZ N ?_;generalize tcQ v A B P p.es R.sup.es R.orig e R.orig.length=S at*;refine⟨(),?_⟩;exact⟨[(50,.blk 50 0),(51,.blk 51 0),(71,.blk 71 0)],rfl,Zcs,Zcw rfl rfl gg (Zcl d) (Zcw rfl rfl gg (Zcl f) (Zcw rfl rfl gg (Zcl (QaO _)) Zcv)),Zcu (Rn.x2 rfl rfl) (Zcu (Rn.x2 rfl rfl) (Zcu (Zck (QaN _)) (Zcu (Zck (QbD _)) (Zcu (Rn.x1 rfl rfl) (Zcu (Zck rfl) (Zcu (ZcD (b:=81) (g:=0) gg rfl rfl n (by simp[n]) (Zcl (QaB _))) (Zcu (ZcD (b:=82) (g:=0) gg rfl rfl l (by simp[l]) (Zcl (QaB _))) Zct)))))))⟩
    rintro _ _;obtain⟨n,l⟩:=@Qet v A B P p.es R.sup.es R.orig e R.orig.length;have L:=cover60 v _ _ h5 h hD n l O;have Z:=V e;rw[<-Z]at L;generalize tcQ v A B P p.es R.sup.es R.orig e R.orig.length=S at*;refine ZcY ?_;refine cp L ?_;generalize G e=Y at*;have hXl:(X.flatMap gdC).length=X.length*2:=Qi5 X;refine ZcZ hXl ?_;refine⟨e+1,by omega,by omega,?_⟩;have e1:(X++([⟨(e:Int),Y⟩]:List Gdn)).length=X.length+1:=by simp
    rw[E,if_pos hc,e1,Zao];refine⟨[(50,.blk 50 0),(51,.blk 51 0),(71,.blk 71 1)],rfl,au0,?_,au41⟩;exact Zcw rfl rfl gg (Zcl d) (Zcw rfl rfl gg (Zcl f) (Zcw rfl rfl gg (Zcl (SU.Qaw (QaO _) (QaO ([⟨(e:Int),Y⟩]:List Gdn)))) Zcv))
  have ee:e=5:=by omega
  subst ee;generalize expQ (ctC c) G 5=X at*;refine ZcY ?_;exact⟨(),[],rfl,Zcs,Zcv,Zcu (ZcD (b:=71) (g:=0) gg rfl rfl rfl (Qi5 X) (Zcl (QaO _))) Zct⟩
 rintro _ _;refine ZcY ?_;exact⟨.inr trivial,_,rfl,Zck (Qk0 _)⟩
end Go.AM.SO
namespace Go.AM.SO
open Go.Proofs Go.AM.SD Go.AM.SE
theorem vars99(c)(h:WfCel c):Ps 99 [celV c] (vrsV (vrsL c)):=by
 have t:=h.c0;have u:=h.c3;have s:=h.r2;have l:=QrN h;rw[vrs_N];have q:=Qnm c;refine Zcm 64 (Ok UK.s99) rfl (by rw[noRefs,SU.Qa0];rfl) (QaN _) ?_;have p:(nmL' 99 c.cs).length=c.cs.length:=by simp[nmL']
 have r:(nmL' 114 c.rs).length=c.rs.length:=by simp[nmL']
 rw[show celV c=.agg [evsV c.ev,itsN (nmL' 99 c.cs),itsN (nmL' 114 c.rs),exs c.xs,cos c.ks]from by rw[celV,Qjj,Qjj]];unfold itsL at*;generalize nmL' 99 c.cs=A at*;generalize nmL' 114 c.rs=B at*;have a:[A,B].flatten=A++B:=by simp
 have n:=concat158 [A,B] (by show 2<=1000;decide) (by rw[a];omega) (by rw[a];omega);rw[a]at n;unfold UK.s99;refine Zc0 ?_;refine ch (HSpec.give1 (g:=0) (ds:=[itsN A,itsN B]) n gg (by rw[noRefs,Qdm,noRefs,Qdm];rfl) rfl rfl) ?_;generalize A++B=L at*;have o:L.length<=5:=by omega
 refine Zc0 ?_;refine Qar 100 (fun i:Nat=>[(3,.sl 60 0 0 i 4),(11,itsN L),(12,.int .i64 L.length),(13,.int .i64 i)]) (fun i=>[(60,.cells 0 (((L.take i).map vrN).flatMap vrC))]) (fun i=>i<=L.length) (fun i=>L.length-i) 0 0 160 (fun _:Unit=>[(3,vrsV (L.map vrN))]) (fun _=>[]) (fun _=>True) ?_ (Zai _) ?_ ?_;·refine⟨[(60,.nil)],rfl,au0,?_,au41⟩;exact Zcx rfl rfl Zcv
 ·rintro i hi;by_cases b:i<L.length
  ·obtain⟨x,k⟩:=Qak b;have d:=Qo8 k;have m:5<=((L.flatMap itN).drop (i*5)).length:=by rw[d];simp
   have f:((L.take i).map vrN).length=i:=by rw[Zav,Zaq];omega
   have g:(((L.take i).map vrN).flatMap vrC).length=i*4:=by rw[QgF,f]
   have v:=l x (Zac k);refine Zc1 (Zc4 b d m g) ?_;refine⟨i+1,by omega,by omega,?_⟩;rw[take_succ' k,ZaI,Zao,QrO];refine⟨[(60,.blk 60 1)],rfl,au0,?_,au41⟩;exact Zcw rfl rfl gg (Zcl (SU.Qaw (Qay _) (Qay [vrN x]))) Zcv
  have e:i=L.length:=by omega
  subst e;refine ZcX b ?_;exact btO0C
 rintro _ _;refine Zc0 ?_;exact⟨.inr trivial,_,rfl,Zck (QaN _)⟩
theorem first44(c)(h:WfCel c):Ps 44 [celV c] (.tup [vrsV (vrsL c),.int .i64 0]):=by
 have o:=vars99 c h;have m:=check21 c h;refine Zcn 64 (Ok UK.s44) rfl (by rw[noRefs,SU.Qa0];rfl) (by rw[noRef,noRefs,QaN];rfl) ?_;have a:=QcA h;have l:=Qfs h;generalize vrsL c=v at*;unfold UK.s44;refine Zc0 ?_;refine cp m ?_;refine Zc0 ?_;refine cp o ?_;refine Zc0 ?_;refine QaC 100 (fun i:Nat=>[(5,vrsV v),(6,.int .i64 (szV 1 (v.take i))),(16,vrsV v),(17,.int .i64 v.length),(18,.int .i64 i)]) (fun _=>[]) (fun i=>i<=v.length) (fun i=>v.length-i) 0 ⟨[],rfl,au0,au42,au41⟩ (Zai _) ?_;rintro i hi;by_cases b:i<v.length
 ·obtain⟨x,f⟩:=Qak b;have d:=Qb0 f;have g:4<=((v.flatMap vrC).drop (i*4)).length:=by rw[d];simp
  have q:=Qbs a l i;have b2:=a x (Zac f);have p:=Qbs a l (i+1);have k:=QdN f;rw[k]at p;generalize szV 1 (v.take i)=S at*;have n:¬(4096:Int)<S*(x.2+1):=by omega
  refine Zc1 (Zc4 b d g n) ?_;refine⟨i+1,by omega,by omega,?_⟩;rw[k];exact⟨[],rfl,au0,au42,au41⟩
 refine Zc1 b ?_;exact⟨.inr trivial,_,rfl,rfl⟩
end Go.AM.SO
