/- A part of the proof of SynthesisLoopsCardSaid: lemmas on the way (AmBd, AmBe, AmBf, AmBg, AmTh, AmTj, AmTk, AmCt, AmCx, AmDk, AmBi, AmBj). Conditions: none of ours. -/
import Derived.Test.YtmoanlnleppcpaaGreatDoorProg
import Derived.KernelRfl
import Derived.Test.YtmoanlnleppcpaaGreatDoorAmV11
set_option linter.unusedSectionVars false
set_option maxHeartbeats 32000000
set_option maxRecDepth 100000
set_option linter.unusedVariables false
set_option linter.unusedSimpArgs false
namespace Go.AM.SE
open Go.Proofs Go.AM.SD
theorem _root_.Go.AM.ZcE{p q:Prop}(k:q)(h:p=q:=by conv=>lhs;simp(disch:=first|omega|exact PairsOK.mk rfl|(simp only[lenW]<;>omega))only[wW,wV,simprocAttr]):p:=h▸k
theorem _root_.Go.AM.ZcF{p q A:Prop}(a:A)(k:q)(h:A->p=q:=by intro a;conv=>lhs;simp(disch:=first|omega|exact PairsOK.mk rfl|(simp only[lenW]<;>omega))only[a,wW,wV,simprocAttr]):p:=h a▸k
def keysR(es:List Ed):List Nat:=es.foldl (fun l e=>if l.contains e.2.2 then l else l++[e.2.2]) []
theorem Qoa{es:List Ed}{i:Nat}{e:Ed}(h:es[i]?=some e):keysR (es.take (i+1))=if(keysR (es.take i)).contains e.2.2 then keysR (es.take i)else keysR (es.take i)++[e.2.2]:=by unfold keysR;rw[ZaT,h,Option.toList,Za5];rfl
theorem Qeo:∀{es:List Ed}{x:Nat},x∈keysR es↔∃e∈es,e.2.2=x:=by
 have key:∀(es:List Ed)(l:List Nat)(x:Nat),x∈es.foldl (fun l e=>if l.contains e.2.2 then l else l++[e.2.2]) l↔x∈l\/∃e∈es,e.2.2=x:=by intro es;induction es with|nil=>intro l x;simp|cons e es c=>
  intro l x;rw[ZaH,c];by_cases h:l.contains e.2.2=true
  ·rw[if_pos h];have d:e.2.2∈l:=by simpa using h
   constructor
   ·rintro(h1|⟨b,h1,a⟩);·exact .inl h1
    exact .inr ⟨b,by simp[h1],a⟩
   rintro(h1|⟨b,h1,a⟩);·exact .inl h1
   rcases Zaw.1 h1 with rfl|h1;·exact .inl (a▸d)
   exact .inr ⟨b,h1,a⟩
  rw[if_neg h];constructor
  ·rintro(h1|⟨b,h1,a⟩)
   ·rcases ZaE.1 h1 with h1|h1;·exact .inl h1
    exact .inr ⟨e,by simp,(by simpa using h1:x=e.2.2).symm⟩
   exact .inr ⟨b,by simp[h1],a⟩
  rintro(h1|⟨b,h1,a⟩);·exact .inl (by simp[h1])
  rcases Zaw.1 h1 with rfl|h1;·exact .inl (by simp[a])
  exact .inr ⟨b,h1,a⟩
 intro es x;have:=key es [] x;unfold keysR;rw[this];simp
theorem QmA(es:List Ed):(keysR es).Nodup:=by
 have key:∀(es:List Ed)(l:List Nat),l.Nodup->(es.foldl (fun l e=>if l.contains e.2.2 then l else l++[e.2.2]) l).Nodup:=by intro es;induction es with|nil=>intro l h;exact h|cons e es g=>
  intro l h;rw[ZaH];refine g _ ?_;split;·exact h
  rename_i h1;rw[List.nodup_append];refine⟨h,by simp,fun a f b c=>?_⟩;rw[Zbi.1 c];intro d;subst d;exact h1 (by simpa using f)
 exact key es [] List.nodup_nil
theorem QbO{es:List Ed}{i:Nat}{e:Ed}(h:es[i]?=some e)(v:Nat):preds (es.take (i+1)) v=preds (es.take i) v++if e.2.2=v then[e.1]else[]:=by unfold preds;rw[ZaT,h,Option.toList,Zbm,ZaN];congr 1;by_cases h1:e.2.2=v<;>simp[h1]
theorem QdE{es:List Ed}{v:Nat}(h:v∉keysR es):preds es v=[]:=by unfold preds;rw[List.map_eq_nil_iff,List.filter_eq_nil_iff];intro e he h1;exact h (Qeo.2 ⟨e,he,by simpa using h1⟩)
theorem QjR(es:List Ed)(v:Nat):(preds es v).length<=es.length:=by unfold preds;rw[Zaz];exact Za3 _ _
abbrev pblk(a:Aut)(u:List Nat):List AV:=[sliN a.al,.int .i64 (a.n:Int),sliN a.ms,egsN a.es,sliN u,.map 71 0,.sl 72 0 0 a.n 1]
abbrev backF(es:List Ed):Nat->AV:=fun k=>sliN (preds es k)
abbrev startL(a:Aut)(f u:List Nat):HL:=[(70,.cells 0 (pblk a u)),(71,.map 0 (mapF .i64 (backF a.es) (keysR a.es))),(72,.cells 0 (bls (left0 a.n f)))]
abbrev rowF(es:List Ed):Nat->List AV:=fun k=>ints (nz (preds es k))
abbrev ptrF(es:List Ed):Nat->AV:=fun k=>.sl (300+k) 0 0 (preds es k).length 1
theorem Qob{n i x:Nat}{f:List Nat}(h:f[i]?=some x):left0 n (f.take (i+1))=(left0 n (f.take i)).set x false:=by unfold left0 offs;rw[ZaT,h,Option.toList,Za5];rfl
theorem QjS{n:Nat}{f:List Nat}:(left0 n f).length=n:=by unfold left0;rw[Qhv];simp
theorem reps(n:Nat):(List.replicate n [AV.bool false]).flatten=bls (List.replicate n false):=by induction n with|zero=>rfl|succ n a=>rw[Za6,Zbv,a];rfl
theorem QlF{n i:Nat}(h:i<n):(List.replicate i true++List.replicate (n-i) false).set i true=List.replicate (i+1) true++List.replicate (n-(i+1)) false:=by rw[List.set_append_right _ _ (by simp),ZbG,Nat.sub_self,show n-i=(n-(i+1))+1 by omega,Za6,ZbE,List.replicate_succ',ZaP];rfl
theorem start34(a:Aut)(f u:List Nat)(A:∀e∈a.es,e.1<a.n/\e.2.2<a.n)(hf:∀x∈f,x<a.n)(V:a.n<=4096)(P:a.es.length<=1000000)(S:f.length<=1000000):HSpec Tryz.prog 177 [aV a,sliN f,sliN u] .e (.ptr 70 0 0) (hp (startL a f u)):=by
 refine HSpec.QbN 74 ok177 rfl ?_;have I:(a.n:Int)<=140737488355328:=by omega
 unfold s177;refine ZcF (ZcI I @reps) ?_;refine Qat 100 (fun i:Nat=>[(1,sliN f),(3,.ptr 60 0 0),(7,.ptr 70 0 0),(25,.int .i64 a.n),(26,.int .i64 i)]) (fun i=>[(60,.cells 0 [sliN a.al,.int .i64 (a.n:Int),sliN a.ms,egsN a.es]),(70,.cells 0 (pblk a u)),(71,.map 0 []),(72,.cells 0 (bls (List.replicate i true++List.replicate (a.n-i) false)))]) (fun i=>i<=a.n) (fun i=>a.n-i) 0 0 120 (fun _:Unit=>[(1,sliN f),(3,.ptr 60 0 0),(7,.ptr 70 0 0)]) (fun _=>[(60,.cells 0 [sliN a.al,.int .i64 (a.n:Int),sliN a.ms,egsN a.es]),(70,.cells 0 (pblk a u)),(71,.map 0 []),(72,.cells 0 (bls (left0 a.n (f.take 0))))]) (fun _=>True) ?_ (Zaj _) ?_ ?_;·exact⟨[(60,.blk 74 0),(70,.blk 83 0),(71,.blk 78 0),(72,.blk 81 0)],rfl,au0,au1,au2⟩
 ·rintro i hi;by_cases m:i<a.n
  ·have h1:i+1<=i+(a.n-i):=by omega
   refine ZcF (ZcK m h1 @Qgr (QlF m)) ?_;exact⟨i+1,by omega,by omega,⟨[(60,.blk 60 0),(70,.blk 70 0),(71,.blk 71 0),(72,.blk 72 0)],rfl,au0,au1,au2⟩⟩
  have e:i=a.n:=by omega
  subst e;have B:List.replicate a.n true++List.replicate (a.n-a.n) false=left0 a.n (f.take 0):=by simp[left0,offs]
  refine ZcF m ?_;refine⟨(),?_⟩;rw[B];exact⟨[(60,.blk 60 0),(70,.blk 70 0),(71,.blk 71 0),(72,.blk 72 0)],rfl,au0,au1,au2⟩
 rintro _ _;refine ZcE ?_;refine Qat 140 (fun i:Nat=>[(3,.ptr 60 0 0),(7,.ptr 70 0 0),(36,sliN f),(37,.int .i64 f.length),(38,.int .i64 i)]) (fun i=>[(60,.cells 0 [sliN a.al,.int .i64 (a.n:Int),sliN a.ms,egsN a.es]),(70,.cells 0 (pblk a u)),(71,.map 0 []),(72,.cells 0 (bls (left0 a.n (f.take i))))]) (fun i=>i<=f.length) (fun i=>f.length-i) 0 2 160 (fun _:Unit=>[(3,.ptr 60 0 0),(7,.ptr 70 0 0)]) (fun _=>[(60,.cells 0 [sliN a.al,.int .i64 (a.n:Int),sliN a.ms,egsN a.es]),(70,.cells 0 (pblk a u)),(71,.map 0 []),(72,.cells 0 (bls (left0 a.n f)))]) (fun _=>True) ?_ (Zaj _) ?_ ?_;·exact⟨[(60,.blk 60 0),(70,.blk 70 0),(71,.blk 71 0),(72,.blk 72 0)],rfl,au0,au1,au2⟩
 ·rintro i hi;by_cases m:i<f.length
  ·obtain⟨x,l⟩:=Qaq m;have n:=hf x (Zae l);have H:x+1<=(left0 a.n (f.take i)).length:=by rw[QjS];exact n
   simp(disch:=first|omega|exact PairsOK.mk rfl|(simp only[lenW]<;>omega))only[m,QaF l,n,H,Qgr,<-Qob l,wW,wV,simprocAttr];exact⟨i+1,by omega,by omega,⟨[(60,.blk 60 0),(70,.blk 70 0),(71,.blk 71 0),(72,.blk 72 0)],rfl,au0,au1,au2⟩⟩
  have e:i=f.length:=by omega
  subst e;refine ZcF m ?_;refine⟨(),?_⟩;exact⟨[(60,.blk 60 0),(70,.blk 70 0),(71,.blk 71 0),(72,.blk 72 0)],rfl,au0,au1,au2⟩
 rintro _ _;refine ZcE ?_;have hrn:∀k∈List.range a.n,k<1000000:=fun k d=>by have:=Zat.1 d;omega
 refine Qat 170 (fun i:Nat=>[(7,.ptr 70 0 0),(50,egsN a.es),(51,.int .i64 a.es.length),(52,.int .i64 i)]) (fun i=>(70,.cells 0 (pblk a u))::(71,.map 0 (mapF .i64 (ptrF (a.es.take i)) (keysR (a.es.take i))))::(72,.cells 0 (bls (left0 a.n f)))::rowsL (rowF (a.es.take i)) (List.range a.n)) (fun i=>i<=a.es.length) (fun i=>a.es.length-i) 0 4 200 (fun _:Unit=>[(7,.ptr 70 0 0)]) (fun _=>startL a f u) (fun _=>True) ?_ (Zaj _) ?_ ?_
 ·refine⟨(70,.blk 70 0)::(71,.blk 71 0)::(72,.blk 72 0)::psL (fun _=>.nil) (List.range a.n),Qe9 Za0 hrn (fun _ _ _ _ _ b g M N h=>by cases h) (fun _ _ b g h=>by cases h) (by decide) (by decide) (by decide),Zcf,?_,au2⟩;repeat'(first|exact Zci|(refine Zca ?_;first|rfl|(simp only[noRef,noRefs,Qag,Zad,Zac,Zah,Qab,Qai,Qaf,Qal,Qah,Qan,Qaa,Qap,Qaj];done))|exact Zct rfl|exact Zco|exact(True.intro:RnM _ _ _ [] [])|refine Zcp ?_ ?_|(refine Zb9 ?_;first|rfl|(simp only[noRef,noRefs,Qag,Zad,Zac,Zah,Qab,Qai,Qaf,Qal,Qah,Qan,Qaa,Qap,Qaj];done))|exact Rn.x1 rfl rfl|exact Rn.x2 rfl rfl|exact Rn.x3 rfl rfl|exact Rn.x4 rfl rfl|exact Rn.x5 rfl|exact Rn.x6 rfl|exact Rn.x7 rfl|refine Zck rfl rfl ?_|refine Zcj rfl rfl rfl ?_ ?_|refine Zcl rfl rfl rfl ?_ ?_|refine Zcm rfl rfl ?_ ?_|refine Zcn rfl rfl ?_ ?_)
  refine Qdg fun k d=>?_;exact Zck rfl (QbT d) Zci
 ·rintro i hi;by_cases m:i<a.es.length
  ·obtain⟨e,he⟩:=Qaq m;obtain⟨O,L⟩:=A e (Zae he);have t:=Qoa he;have J:=QmA (a.es.take i);have T:(preds (a.es.take i) e.2.2).length<=1000000:=by have:=QjR (a.es.take i) e.2.2;rw[Zas]at this;omega
   have o:=Qch (f:=rowF (a.es.take i)) Za0 hrn (Zat.2 L);have r:∀b,b<300->(hp (rowsL (rowF (a.es.take i)) (List.range a.n))).get b=none:=fun b p=>Qe7 hrn fun k d=>by omega
   refine ZcF (ZcJ m (QaJ he) r) ?_;refine Qfa [(57,[70]),(59,[71]),(63,[70]),(65,[71]),(68,[300+e.2.2])] rfl ?_ ?_;·exact QdD (a:=[71]) (b:=[190]) rfl rfl (fun x l=>by simp only[Zaw,ZbA,or_false]at l⊢;omega) (QdD (a:=[70]) (b:=[191,300+e.2.2,190]) rfl rfl (fun x l=>by simp only[Zaw,ZbA,or_false]at l⊢;omega) (QdD (a:=[173]) (b:=[191,300+e.2.2,190]) rfl rfl (fun x l=>by simp only[Zaw,ZbA,or_false]at l⊢;omega) QjQ))
   refine ZcF r ?_;refine Qdo ?_;refine ZcF r ?_;by_cases d:e.2.2∈keysR (a.es.take i)
   ·refine wK_in d ?_;refine ZcF (ZcI o r) ?_;refine QbC ?_;refine ZcF (ZcI o r) ?_;refine QsQ J d (by decide) ?_;refine ZcF (ZcI o r) ?_;refine⟨⟨⟨_,rfl,fun b p=>p⟩,⟨_,rfl,fun b p=>p⟩,⟨_,rfl,fun b p=>p⟩,⟨_,rfl,fun b p=>p⟩,⟨_,rfl,fun b p=>p⟩,trivial⟩,i+1,by omega,by omega,?_⟩;rw[if_pos (by simpa using d)]at t;have w:∀x∈keysR (a.es.take (i+1)),x<a.n:=fun x l=>by obtain⟨G,z,rfl⟩:=Qeo.1 l;exact(A G (ZaU z)).2
    generalize v:psL (fun k=>if k∈keysR (a.es.take (i+1))then(if k=e.2.2 then .blk (300+e.2.2) 1 else .blk (300+k) 0:Src)else .nil) (List.range a.n)=PS;have s:∀k:Nat,k<a.n->k≠e.2.2->(hp (rowsL (rowF (a.es.take i)) (List.range a.n))).get (300+k)=some (.cells 0 (rowF (a.es.take i) k)):=fun k d _=>Qch Za0 hrn (Zat.2 d);refine⟨(70,.blk 70 0)::(71,.blk 71 0)::(72,.blk 72 0)::PS,?_,Zcf,?_,?_⟩
    ·subst v;refine Qe9 Za0 hrn (fun k d j U K b g M N h1 y=>?_) (fun k d b g h1=>?_) (by decide) (by decide) (by decide)
     ·split at h1
      ·split at y;·split at h1<;>split at y<;>cases h1<;>cases y<;>omega
       cases y
      cases h1
     split at h1;·split at h1<;>cases h1<;>omega
     cases h1
    ·subst v;refine Zcj rfl rfl (by simp(disch:=omega)only[Qay,QaE,QaQ];rfl) ?_ (Zcl rfl rfl (by simp(disch:=omega)only[Qay,QaE,QaQ];rfl) ?_ (Zcj rfl rfl (by simp(disch:=omega)only[Qay,QaE,QaQ]) (Zca (Qah _)) ?_));·repeat'(first|exact Zci|(refine Zca ?_;first|rfl|(simp only[noRef,noRefs,Qag,Zad,Zac,Zah,Qab,Qai,Qaf,Qal,Qah,Qan,Qaa,Qap,Qaj];done))|exact Zct rfl|exact Zco|exact(True.intro:RnM _ _ _ [] [])|refine Zcp ?_ ?_|(refine Zb9 ?_;first|rfl|(simp only[noRef,noRefs,Qag,Zad,Zac,Zah,Qab,Qai,Qaf,Qal,Qah,Qan,Qaa,Qap,Qaj];done))|exact Rn.x1 rfl rfl|exact Rn.x2 rfl rfl|exact Rn.x3 rfl rfl|exact Rn.x4 rfl rfl|exact Rn.x5 rfl|exact Rn.x6 rfl|exact Rn.x7 rfl|refine Zck rfl rfl ?_|refine Zcj rfl rfl rfl ?_ ?_|refine Zcl rfl rfl rfl ?_ ?_|refine Zcm rfl rfl ?_ ?_|refine Zcn rfl rfl ?_ ?_)
     ·rw[t];refine Zcw fun x l=>?_;have C:x∈keysR (a.es.take (i+1)):=by rw[t];exact l
      have n:=w x C;unfold updF ptrF;split;·rename_i c;subst c;(rw[QbO he,if_pos rfl,Zaf];exact Rn.x1 rfl (by rw[QbT (Zat.2 n)];simp[l]))
      rename_i c;rw[QbO he,if_neg (fun B=>c B.symm),Zap];exact Rn.x1 rfl (by rw[QbT (Zat.2 n)];simp[l,c])
     refine Qdg fun k d=>?_;have E:=Zat.1 d;by_cases q:k∈keysR (a.es.take (i+1))
     ·by_cases c:k=e.2.2;·subst c;refine Zcj rfl (b:=300+e.2.2) (g:=1) (ds:=rowF (a.es.take i) e.2.2++[.int .i64 (e.1:Int)]) (by rw[QbT d];simp[q]) (by simp(disch:=omega)only[Qay,QaE,QaQ]) (RnL.eq ?_ (Qab _)) Zci;unfold SE.rowF;rw[QbO he,if_pos rfl,QaH,QaA];rfl
      refine Zcj rfl (b:=300+k) (g:=0) (ds:=SE.rowF (a.es.take i) k) (by rw[QbT d];simp[q,c]) (by simp(disch:=omega)only[Qay,QaE,QaQ,s k E c]) (RnL.eq ?_ (Qab _)) Zci;unfold SE.rowF;rw[QbO he,if_neg (fun B=>c B.symm),Zap]
     have hp:=QdE q;have:SE.rowF (a.es.take (i+1)) k=[]:=by unfold SE.rowF;rw[hp];rfl
     rw[this];exact Zck rfl (by rw[QbT d];simp[q]) Zci
    exact au2
   refine Qpl d ?_;refine ZcF (ZcK o r @Qf3 @QlE) ?_;refine QbC ?_;refine ZcF (ZcI o r) ?_;refine Qcr d (by decide) ?_;refine ZcF (ZcI o r) ?_;refine⟨⟨⟨_,rfl,fun b p=>p⟩,⟨_,rfl,fun b p=>p⟩,⟨_,rfl,fun b p=>p⟩,⟨_,rfl,fun b p=>p⟩,⟨[],rfl,fun b p=>by cases p⟩,trivial⟩,i+1,by omega,by omega,?_⟩;rw[if_neg (by simpa using d)]at t;have w:∀x∈keysR (a.es.take (i+1)),x<a.n:=fun x l=>by obtain⟨G,z,rfl⟩:=Qeo.1 l;exact(A G (ZaU z)).2
   have F:=QdE d;generalize v:psL (fun k=>if k∈keysR (a.es.take (i+1))then(if k=e.2.2 then .blk 191 0 else .blk (300+k) 0:Src)else .nil) (List.range a.n)=PS;have s:∀k:Nat,k<a.n->k≠e.2.2->(hp (rowsL (rowF (a.es.take i)) (List.range a.n))).get (300+k)=some (.cells 0 (rowF (a.es.take i) k)):=fun k d _=>Qch Za0 hrn (Zat.2 d);refine⟨(70,.blk 70 0)::(71,.blk 71 0)::(72,.blk 72 0)::PS,?_,Zcf,?_,?_⟩
   ·subst v;refine Qe9 Za0 hrn (fun k d j U K b g M N h1 y=>?_) (fun k d b g h1=>?_) (by decide) (by decide) (by decide)
    ·split at h1
     ·split at y;·split at h1<;>split at y<;>cases h1<;>cases y<;>omega
      cases y
     cases h1
    split at h1;·split at h1<;>cases h1<;>omega
    cases h1
   ·subst v;refine Zcj rfl rfl (by simp(disch:=omega)only[Qay,QaE,QaQ];rfl) ?_ (Zcl rfl rfl (by simp(disch:=omega)only[Qay,QaE,QaQ];rfl) ?_ (Zcj rfl rfl (by simp(disch:=omega)only[Qay,QaE,QaQ]) (Zca (Qah _)) ?_));·repeat'(first|exact Zci|(refine Zca ?_;first|rfl|(simp only[noRef,noRefs,Qag,Zad,Zac,Zah,Qab,Qai,Qaf,Qal,Qah,Qan,Qaa,Qap,Qaj];done))|exact Zct rfl|exact Zco|exact(True.intro:RnM _ _ _ [] [])|refine Zcp ?_ ?_|(refine Zb9 ?_;first|rfl|(simp only[noRef,noRefs,Qag,Zad,Zac,Zah,Qab,Qai,Qaf,Qal,Qah,Qan,Qaa,Qap,Qaj];done))|exact Rn.x1 rfl rfl|exact Rn.x2 rfl rfl|exact Rn.x3 rfl rfl|exact Rn.x4 rfl rfl|exact Rn.x5 rfl|exact Rn.x6 rfl|exact Rn.x7 rfl|refine Zck rfl rfl ?_|refine Zcj rfl rfl rfl ?_ ?_|refine Zcl rfl rfl rfl ?_ ?_|refine Zcm rfl rfl ?_ ?_|refine Zcn rfl rfl ?_ ?_)
    ·rw[t];refine Zcw fun x l=>?_;have C:x∈keysR (a.es.take (i+1)):=by rw[t];exact l
     have n:=w x C;unfold updF ptrF;split;·rename_i c;subst c;(rw[QbO he,if_pos rfl,F];exact Rn.x1 rfl (by rw[QbT (Zat.2 n)];simp[l]))
     rename_i c;rw[QbO he,if_neg (fun B=>c B.symm),Zap];exact Rn.x1 rfl (by rw[QbT (Zat.2 n)];simp[l,c])
    refine Qdg fun k d=>?_;have E:=Zat.1 d;by_cases q:k∈keysR (a.es.take (i+1))
    ·by_cases c:k=e.2.2;·subst c;refine Zcj rfl (b:=191) (g:=0) (ds:=[.int .i64 (e.1:Int)]) (by rw[QbT d];simp[q]) (by simp(disch:=omega)only[Qay,QaE,QaQ]) (RnL.eq ?_ (Qab _)) Zci;unfold SE.rowF;rw[QbO he,if_pos rfl,QaH,QaA];(rw[F];rfl)
     refine Zcj rfl (b:=300+k) (g:=0) (ds:=SE.rowF (a.es.take i) k) (by rw[QbT d];simp[q,c]) (by simp(disch:=omega)only[Qay,QaE,QaQ,s k E c]) (RnL.eq ?_ (Qab _)) Zci;unfold SE.rowF;rw[QbO he,if_neg (fun B=>c B.symm),Zap]
    have hp:=QdE q;have:SE.rowF (a.es.take (i+1)) k=[]:=by unfold SE.rowF;rw[hp];rfl
    rw[this];exact Zck rfl (by rw[QbT d];simp[q]) Zci
   exact au2
  have e:i=a.es.length:=by omega
  subst e;have w:∀x∈keysR a.es,x<a.n:=fun x l=>by obtain⟨G,z,rfl⟩:=Qeo.1 l;exact(A G z).2
  refine ZcF m ?_;refine⟨(),[(70,.blk 70 0),(71,.blk 71 0),(72,.blk 72 0)],rfl,Zcf,?_,au2⟩;refine Zcj rfl rfl (by simp(disch:=omega)only[Qay,QaE,QaQ];rfl) ?_ (Zcl rfl rfl (by simp(disch:=omega)only[Qay,QaE,QaQ];rfl) ?_ (Zcj rfl rfl (by simp(disch:=omega)only[Qay,QaE,QaQ]) (Zca (Qah _)) Zci));·repeat'(first|exact Zci|(refine Zca ?_;first|rfl|(simp only[noRef,noRefs,Qag,Zad,Zac,Zah,Qab,Qai,Qaf,Qal,Qah,Qan,Qaa,Qap,Qaj];done))|exact Zct rfl|exact Zco|exact(True.intro:RnM _ _ _ [] [])|refine Zcp ?_ ?_|(refine Zb9 ?_;first|rfl|(simp only[noRef,noRefs,Qag,Zad,Zac,Zah,Qab,Qai,Qaf,Qal,Qah,Qan,Qaa,Qap,Qaj];done))|exact Rn.x1 rfl rfl|exact Rn.x2 rfl rfl|exact Rn.x3 rfl rfl|exact Rn.x4 rfl rfl|exact Rn.x5 rfl|exact Rn.x6 rfl|exact Rn.x7 rfl|refine Zck rfl rfl ?_|refine Zcj rfl rfl rfl ?_ ?_|refine Zcl rfl rfl rfl ?_ ?_|refine Zcm rfl rfl ?_ ?_|refine Zcn rfl rfl ?_ ?_)
  refine Zcw fun x l=>?_;have n:=w x l;have Q:=Qch (f:=SE.rowF a.es) Za0 hrn (Zat.2 n);have h1:Nat.beq (300+x) 70=false:=by rw[ZaB];simp;try omega
  have y:Nat.beq (300+x) 71=false:=by rw[ZaB];simp;try omega
  have R:Nat.beq (300+x) 72=false:=by rw[ZaB];simp;try omega
  exact Zcq (by simp(disch:=omega)only[Qay,QaE,QaQ,Q]) (by simp[srcNew,h1,y,R]) (by simp) rfl (by rw[Qcy,Zaz,Zb2]) (Zca (Qab _))
 rintro _ _;refine ZcE ?_;refine⟨.inr trivial,_,rfl,[(70,.blk 70 0),(71,.blk 71 0),(72,.blk 72 0)],rfl,Zcf,?_,au2⟩;refine Zcj rfl rfl rfl ?_ (Zcl rfl rfl rfl (Zcw fun x _=>Zb9 (Qaa _)) (Zcj rfl rfl rfl (Zca (Qah _)) Zci));repeat'(first|exact Zci|(refine Zca ?_;first|rfl|(simp only[noRef,noRefs,Qag,Zad,Zac,Zah,Qab,Qai,Qaf,Qal,Qah,Qan,Qaa,Qap,Qaj];done))|exact Zct rfl|exact Zco|exact(True.intro:RnM _ _ _ [] [])|refine Zcp ?_ ?_|(refine Zb9 ?_;first|rfl|(simp only[noRef,noRefs,Qag,Zad,Zac,Zah,Qab,Qai,Qaf,Qal,Qah,Qan,Qaa,Qap,Qaj];done))|exact Rn.x1 rfl rfl|exact Rn.x2 rfl rfl|exact Rn.x3 rfl rfl|exact Rn.x4 rfl rfl|exact Rn.x5 rfl|exact Rn.x6 rfl|exact Rn.x7 rfl|refine Zck rfl rfl ?_|refine Zcj rfl rfl rfl ?_ ?_|refine Zcl rfl rfl rfl ?_ ?_|refine Zcm rfl rfl ?_ ?_|refine Zcn rfl rfl ?_ ?_)
end Go.AM.SE
namespace Go.AM.SE
open Go.Proofs Go.AM.SD
abbrev pv(a:Aut)(u:List Nat)(l:LB):AV:=.fptr [sliN a.al,.int .i64 (a.n:Int),sliN a.ms,egsN a.es,sliN u,fmapF .i64 (backF a.es) (keysR a.es),.fsl (bls l) a.n 1]
theorem Qdp{f:Nat->AV}(h:∀x,noRef (f x)=true)(l:List Nat):noRefs (l.map f)=true:=by induction l with|nil=>rfl|cons x l a=>simp only[ZaK,noRefs,h,a];rfl
theorem Qak(k:IntKind)(l:List Nat):noRefs (l.map fun x:Nat=>AV.int k (x:Int))=true:=Qdp (fun _=>rfl) l
theorem Qam(es:List Ed)(l:List Nat):noRefs (l.map (backF es))=true:=Qdp (fun x=>Qaa _) l
theorem Qpq{n:Nat}{mk:List Nat}{left:Nat->Bool}{i x:Nat}(h:mk[i]?=some x):bMks n (mk.take (i+1)) left=bMk left (bMks n (mk.take i) left) x:=by unfold bMks;rw[ZaT,h,Option.toList,Za5];rfl
theorem QqP(n:Nat)(mk:List Nat)(left:Nat->Bool):(bMks n mk left).1.length=n:=by
 have key:∀(mk:List Nat)(s:QS),(mk.foldl (bMk left) s).1.length=s.1.length:=by intro mk;induction mk with|nil=>intro s;rfl|cons x mk a=>intro s;rw[ZaH,a];unfold bMk;split<;>simp
 unfold bMks;rw[key];simp
theorem QjT{left:Nat->Bool}{v:Nat}{s:QS}{ys:List Nat}{i y:Nat}(h:ys[i]?=some y):(ys.take (i+1)).foldl (bEd left v) s=bEd left v ((ys.take i).foldl (bEd left v) s) y:=by rw[ZaT,h,Option.toList,Za5];rfl
theorem Qhz(n:Nat)(x:Int):(List.replicate n [AV.int .i64 x]).flatten=ints (List.replicate n x):=by induction n with|zero=>rfl|succ n a=>rw[Za6,Zbv,a];rfl
theorem QjU{n i:Nat}(h:i<n):(List.replicate i (-1:Int)++List.replicate (n-i) 0).set i (-1)=List.replicate (i+1) (-1)++List.replicate (n-(i+1)) 0:=by rw[List.set_append_right _ _ (by simp),ZbG,Nat.sub_self,show n-i=(n-(i+1))+1 by omega,Za6,ZbE,List.replicate_succ',ZaP];rfl
theorem Qbo{l:List Int}{i:Nat}{x:Int}:(ints l).set i (.int .i64 x)=ints (l.set i x):=by simp[ints,List.map_set]
def Bd(s:QS):Prop:=∀x,s.1.getD x 0<=s.2.length
theorem QsS{left:Nat->Bool}{v y:Nat}{s:QS}(h:Bd s):Bd (bEd left v s y):=by
 unfold bEd;split
 ·intro x;have h1:=h x;have a:=h v;show(s.1.set y (s.1.getD v 0+1)).getD x 0<=((s.2++[y]).length:Int);rw[Zaf,Zbs];rw[Zak,List.getElem?_set];rw[Zak]at h1;split
  ·split;·simp only[Option.getD_some];omega
   simp only[Option.getD_none];omega
  omega
 exact h
theorem QsT{left:Nat->Bool}{x:Nat}{s:QS}(h:Bd s):Bd (bMk left s x):=by
 unfold bMk;split
 ·intro z;have h1:=h z;show(s.1.set x 0).getD z 0<=((s.2++[x]).length:Int);rw[Zaf,Zbs];rw[Zak,List.getElem?_set];rw[Zak]at h1;split
  ·split;·simp only[Option.getD_some];omega
   simp only[Option.getD_none];omega
  omega
 exact h
theorem QeH{left:Nat->Bool}{v:Nat}:∀(ys:List Nat)(s:QS),Bd s->Bd (ys.foldl (bEd left v) s)|[],s,h=>h|y::ys,s,h=>QeH ys _ (QsS h)
theorem QrO{n:Nat}{left:Nat->Bool}(mk:List Nat):Bd (bMks n mk left):=by
 have key:∀(mk:List Nat)(s:QS),Bd s->Bd (mk.foldl (bMk left) s):=by intro mk;induction mk with|nil=>intro s h;exact h|cons x mk a=>intro s h;exact a _ (QsT h)
 refine key mk _ fun x=>?_;simp only[Zak,List.getElem?_replicate];split<;>simp
theorem QsU(n:Nat)(left:Nat->Bool)(mk:List Nat):(bMks n mk left).2.length<=mk.length:=by
 have key:∀(mk:List Nat)(s:QS),(mk.foldl (bMk left) s).2.length<=s.2.length+mk.length:=by intro mk;induction mk with|nil=>intro s;simp|cons x mk a=>intro s;rw[ZaH];refine Zay (a _) ?_;unfold bMk;split<;>simp<;>omega
 have:=key mk (List.replicate n (-1),[]);unfold bMks;simpa using this
theorem QbG{l:List Int}{i:Nat}{x:Int}(h:l[i]?=some x):(ints l)[i]?=some (.int .i64 x):=by simp[ints,h]
theorem QaW{l:List Int}{i:Nat}(h:i<l.length):(ints l)[i]?=some (.int .i64 (l.getD i 0)):=by simp[ints,h]
theorem _root_.Go.AM.au3{p:Prop}(h:p:=by repeat'(first|exact Zci|(refine Zca ?_;first|rfl|(simp only[noRef,noRefs,Qag,Zad,Zac,Zah,Qab,Qai,Qaf,Qal,Qah,Qan,Qaa,Qap,Qaj,Qak,Qam];done))|exact Zct rfl|exact Zco|exact(True.intro:RnM _ _ _ [] [])|refine Zcp ?_ ?_|(refine Zb9 ?_;first|rfl|(simp only[noRef,noRefs,Qag,Zad,Zac,Zah,Qab,Qai,Qaf,Qal,Qah,Qan,Qaa,Qap,Qaj,Qak,Qam];done))|exact Rn.x1 rfl rfl|exact Rn.x2 rfl rfl|exact Rn.x3 rfl rfl|exact Rn.x4 rfl rfl|exact Rn.x5 rfl|exact Rn.x6 rfl|exact Rn.x7 rfl|refine Zck rfl rfl ?_|refine Zcj rfl rfl rfl ?_ ?_|refine Zcl rfl rfl rfl ?_ ?_|refine Zcm rfl rfl ?_ ?_|refine Zcn rfl rfl ?_ ?_)):p:=h
theorem _root_.Go.AM.au4{p:Prop}(h:p:=by repeat(first|exact Zcg|(refine Zch ?_ ?_;·(first|exact Rn.any|exact Rn.x1 rfl rfl|exact Rn.x2 rfl rfl|exact Rn.x3 rfl rfl|exact Rn.x4 rfl rfl|exact Rn.x5 rfl|exact Rn.x6 rfl|exact Rn.x7 rfl|(refine Rn.slot ?_ ?_;(first|rfl|(rw[ZaO];rfl));(first|rfl|(simp only[noRef,noRefs,Qag,Zad,Zac,Zah,Qab,Qai,Qaf,Qal,Qah,Qan,Qaa,Qap,Qaj,Qak,Qam];done)))|(refine Rn.fn ?_ ?_<;>(repeat'(first|exact Zco|refine Zcp ?_ ?_|exact Zb9 rfl|exact Rn.x6 rfl|exact Rn.x2 rfl rfl|exact Rn.x5 rfl|exact Rn.x1 rfl rfl))))))):p:=h
theorem dist53(a:Aut)(u:List Nat)(l:LB)(r:InN a.n a.es a.ms)(hnd:a.ms.Nodup)(hl:l.length=a.n)(hn:a.n<=4096)(hel:a.es.length<=1000000)(hml:a.ms.length<=1000000):HSpec Tryz.prog 181 [pv a u l] .e (.sl 80 0 0 a.n 1) (hp [(80,.cells 0 (ints (pDist a.n a.es a.ms (lf l))))]):=by
 refine HSpec.QbN 100 ok181 rfl ?_;have hn':(a.n:Int)<=140737488355328:=by omega
 have Z:(8:Int)*a.n<=140737488355328:=by omega
 unfold s181;refine ZcF (ZcJ hn' Z @Qhz) ?_;refine Qat 100 (fun i:Nat=>[(0,pv a u l),(3,.sl 80 0 0 a.n 1),(18,.int .i64 a.n),(19,.int .i64 i)]) (fun i=>[(80,.cells 0 (ints (List.replicate i (-1)++List.replicate (a.n-i) 0)))]) (fun i=>i<=a.n) (fun i=>a.n-i) 0 0 120 (fun _:Unit=>[(0,pv a u l),(3,.sl 80 0 0 a.n 1)]) (fun _=>[(80,.cells 0 (ints (List.replicate a.n (-1))))]) (fun _=>True) ?_ (Zaj _) ?_ ?_;·exact⟨[(80,.blk 106 0)],rfl,au0,au3,au4⟩
 ·rintro i hi;by_cases c:i<a.n
  ·have h1:i+1<=i+(a.n-i):=by omega
   refine ZcF (ZcK c h1 @Qbo (QjU c)) ?_;exact⟨i+1,by omega,by omega,⟨[(80,.blk 80 0)],rfl,au0,au3,au4⟩⟩
  have e:i=a.n:=by omega
  subst e;have e2:List.replicate a.n (-1:Int)++List.replicate (a.n-a.n) 0=List.replicate a.n (-1):=by simp
  refine ZcF c ?_;refine⟨(),?_⟩;rw[e2];exact⟨[(80,.blk 80 0)],rfl,au0,au3,au4⟩
 rintro _ _;refine ZcE ?_;refine Qat 140 (fun i:Nat=>[(0,pv a u l),(3,.sl 80 0 0 a.n 1),(5,.sl 81 0 0 (bMks a.n (a.ms.take i) (lf l)).2.length 1),(30,sliN a.ms),(31,.int .i64 a.ms.length),(32,.int .i64 i)]) (fun i=>[(80,.cells 0 (ints (bMks a.n (a.ms.take i) (lf l)).1)),(81,.cells 0 (ints (nz (bMks a.n (a.ms.take i) (lf l)).2)))]) (fun i=>i<=a.ms.length) (fun i=>a.ms.length-i) 0 2 160 (fun _:Unit=>[(0,pv a u l),(3,.sl 80 0 0 a.n 1),(5,.sl 81 0 0 (bMks a.n a.ms (lf l)).2.length 1)]) (fun _=>[(80,.cells 0 (ints (bMks a.n a.ms (lf l)).1)),(81,.cells 0 (ints (nz (bMks a.n a.ms (lf l)).2)))]) (fun _=>True) ?_ (Zaj _) ?_ ?_;·exact⟨[(80,.blk 80 0),(81,.nil)],rfl,au0,au3,au4⟩
 ·rintro i hi;by_cases c:i<a.ms.length
  ·obtain⟨x,S⟩:=Qaq c;have Q:=r.2 x (Zae S);have R:=Qpq (n:=a.n) (left:=lf l) S;have L:=QsU a.n (lf l) (a.ms.take i);rw[Zas]at L;have hlen:=QqP a.n (a.ms.take i) (lf l);generalize bMks a.n (a.ms.take i) (lf l)=s at*;have h1:x+1<=s.1.length:=by omega
   have K:x<l.length:=by omega
   by_cases g:lf l x=true;·rw[bMk,if_pos g]at R;refine ZcF (ZcN c (QaF S) Q (QaK K) g @Qbo h1) ?_;refine⟨i+1,by omega,by omega,?_⟩;rw[R,QaH,QaA,Zaf];exact⟨[(80,.blk 80 0),(81,.blk 81 1)],rfl,au0,au3,au4⟩
   rw[bMk,if_neg g]at R;rw[Zai]at g;refine ZcF (ZcL c (QaF S) Q (QaK K) g) ?_;refine⟨i+1,by omega,by omega,?_⟩;rw[R];exact⟨[(80,.blk 80 0),(81,.blk 81 0)],rfl,au0,au3,au4⟩
  have e:i=a.ms.length:=by omega
  subst e;refine ZcF c ?_;refine⟨(),?_⟩;exact⟨[(80,.blk 80 0),(81,.blk 81 0)],rfl,au0,au3,au4⟩
 rintro _ _;refine ZcE ?_;have hb0:=QdM (left:=lf l) r hnd;have hd0:=QrO (n:=a.n) (left:=lf l) a.ms;have N:(bQ a.es (lf l) (a.n+1) 0 (bMks a.n a.ms (lf l))).1=pDist a.n a.es a.ms (lf l):=rfl;generalize bMks a.n a.ms (lf l)=X at*;refine Qat 180 (fun t:Nat×QS=>[(0,pv a u l),(3,.sl 80 0 0 a.n 1),(5,.sl 81 0 0 t.2.2.length 1),(8,.int .i64 t.1)]) (fun t=>[(80,.cells 0 (ints t.2.1)),(81,.cells 0 (ints (nz t.2.2)))]) (fun t=>t.1<=a.n/\BH a.n a.es a.ms (lf l) t.1 t.2/\Bd t.2/\bQ a.es (lf l) (a.n+1-t.1) t.1 t.2=bQ a.es (lf l) (a.n+1) 0 X) (fun t=>a.n+1-t.1) (0,X) 4 200 (fun _:Unit=>[(3,.sl 80 0 0 a.n 1)]) (fun _=>[(80,.cells 0 (ints (pDist a.n a.es a.ms (lf l))))]) (fun _=>True) ?_ ⟨Zaj _,hb0,hd0,rfl⟩ ?_ ?_;·exact⟨[(80,.blk 80 0),(81,.blk 81 0)],rfl,au0,au3,au4⟩
 ·rintro⟨i,s⟩⟨hi,k,q,L⟩;dsimp only at hi k q L⊢;have hsl:=k.bi.cnt;have hlen:=k.bi.len;by_cases c:i<s.2.length
  ·obtain⟨v,A⟩:=Qaq c;have z:=((k.bi.inl v).1 (Zae A)).1;have C:i<a.n:=by omega
   have M:bQ a.es (lf l) (a.n+1-(i+1)) (i+1) (bRow a.es (lf l) v s)=bQ a.es (lf l) (a.n+1) 0 X:=by rw[<-L,show a.n+1-i=(a.n+1-(i+1))+1 by omega];simp only[bQ,A]
   have E:=k.step r A;have B:=fun ys(T:∀y∈ys,∃e∈a.es,e.1=y/\e.2.2=v)=>BI.row (left:=lf l) (mk:=a.ms) r (v:=v) (i:=i) ys s T k.bi A (k.near v A) k.done;have hpl:=QjR a.es v;refine ZcF (ZcJ c (QaF A) (QbG (nz_at A))) ?_;have J:∀y∈preds a.es v,y<a.n:=fun y h=>by obtain⟨e,he,h1,w⟩:=Qdu.1 h;have:=(r.1 e he).1;omega
   by_cases V:v∈keysR a.es
   ·refine Qmz V ?_;refine ZcE ?_;refine Qat 220 (fun j:Nat=>[(65,sliN (preds a.es v)),(66,.int .i64 (preds a.es v).length),(0,pv a u l),(3,.sl 80 0 0 a.n 1),(5,.sl 81 0 0 (((preds a.es v).take j).foldl (bEd (lf l) v) s).2.length 1),(8,.int .i64 i),(67,.int .i64 j)]) (fun j=>[(80,.cells 0 (ints (((preds a.es v).take j).foldl (bEd (lf l) v) s).1)),(81,.cells 0 (ints (nz (((preds a.es v).take j).foldl (bEd (lf l) v) s).2)))]) (fun j=>j<=(preds a.es v).length) (fun j=>(preds a.es v).length-j) 0 6 240 (fun _:Unit=>[(0,pv a u l),(3,.sl 80 0 0 a.n 1),(5,.sl 81 0 0 (bRow a.es (lf l) v s).2.length 1),(8,.int .i64 i)]) (fun _=>[(80,.cells 0 (ints (bRow a.es (lf l) v s).1)),(81,.cells 0 (ints (nz (bRow a.es (lf l) v s).2)))]) (fun _=>True) ?_ (Zaj _) ?_ ?_;·exact⟨[(80,.blk 80 0),(81,.blk 81 0)],rfl,au0,au3,au4⟩
    ·rintro j hj;by_cases d:j<(preds a.es v).length
     ·obtain⟨y,h⟩:=Qaq d;have n:=J y (Zae h);obtain⟨F,O,_,_,_,_⟩:=B ((preds a.es v).take j) (fun y h=>Qdu.1 (ZaU h));have o:=QeH (left:=lf l) (v:=v) ((preds a.es v).take j) s q;have b:=QjT (left:=lf l) (v:=v) (s:=s) h;generalize((preds a.es v).take j).foldl (bEd (lf l) v) s=t at*;have hcn:=F.cnt;have hln:=F.len;have I:i<t.2.length:=(Zam.1 O).1;have m:y<l.length:=by omega
      have G:y+1<=t.1.length:=by omega
      have p:y<t.1.length:=by omega
      have H:v<t.1.length:=by omega
      have U:=F.neg v z;have Y:=o v;by_cases g:lf l y=true
      ·by_cases w:t.1.getD y 0<0
       ·have f:bEd (lf l) v t y=(t.1.set y (t.1.getD v 0+1),t.2++[y]):=by unfold bEd;rw[if_pos (by rw[g,decide_eq_true w];rfl)]
        rw[f]at b;refine ZcF (ZcT d (QaF h) n (QaK m) g (QaW p) w I (QbG (nz_at O)) z (QaW H) G @Qbo) ?_;refine⟨j+1,by omega,by omega,?_⟩;rw[b,QaH,QaA,Zaf];exact⟨[(80,.blk 80 0),(81,.blk 81 1)],rfl,au0,au3,au4⟩
       have f:bEd (lf l) v t y=t:=by unfold bEd;rw[if_neg (by rw[g,decide_eq_false w];decide)]
       rw[f]at b;refine ZcF (ZcN d (QaF h) n (QaK m) g (QaW p) w) ?_;refine⟨j+1,by omega,by omega,?_⟩;rw[b];exact⟨[(80,.blk 80 0),(81,.blk 81 0)],rfl,au0,au3,au4⟩
      have f:bEd (lf l) v t y=t:=by unfold bEd;rw[if_neg (by simp[g])]
      rw[f]at b;rw[Zai]at g;refine ZcF (ZcL d (QaF h) n (QaK m) g) ?_;refine⟨j+1,by omega,by omega,?_⟩;rw[b];exact⟨[(80,.blk 80 0),(81,.blk 81 0)],rfl,au0,au3,au4⟩
     have e:j=(preds a.es v).length:=by omega
     subst e;refine ZcF d ?_;refine⟨(),?_⟩;exact⟨[(80,.blk 80 0),(81,.blk 81 0)],rfl,au0,au3,au4⟩
    rintro _ _;refine ZcE ?_;exact⟨(i+1,bRow a.es (lf l) v s),by dsimp only;omega,⟨C,E,QeH _ _ q,M⟩,⟨[(80,.blk 80 0),(81,.blk 81 0)],rfl,au0,au3,au4⟩⟩
   refine Qlz V ?_;have P:=QdE V;refine ZcE ?_;refine Qat 220 (fun j:Nat=>[(65,sliN (preds a.es v)),(66,.int .i64 (preds a.es v).length),(0,pv a u l),(3,.sl 80 0 0 a.n 1),(5,.sl 81 0 0 (((preds a.es v).take j).foldl (bEd (lf l) v) s).2.length 1),(8,.int .i64 i),(67,.int .i64 j)]) (fun j=>[(80,.cells 0 (ints (((preds a.es v).take j).foldl (bEd (lf l) v) s).1)),(81,.cells 0 (ints (nz (((preds a.es v).take j).foldl (bEd (lf l) v) s).2)))]) (fun j=>j<=(preds a.es v).length) (fun j=>(preds a.es v).length-j) 0 6 240 (fun _:Unit=>[(0,pv a u l),(3,.sl 80 0 0 a.n 1),(5,.sl 81 0 0 (bRow a.es (lf l) v s).2.length 1),(8,.int .i64 i)]) (fun _=>[(80,.cells 0 (ints (bRow a.es (lf l) v s).1)),(81,.cells 0 (ints (nz (bRow a.es (lf l) v s).2)))]) (fun _=>True) ?_ (Zaj _) ?_ ?_;·exact⟨[(80,.blk 80 0),(81,.blk 81 0)],rfl,Zcf,au3,Zch (by rw[P];exact Rn.nilK) (Zch (by rw[P];exact Zb9 rfl) au4)⟩
   ·rintro j hj;by_cases d:j<(preds a.es v).length
    ·obtain⟨y,h⟩:=Qaq d;have n:=J y (Zae h);obtain⟨F,O,_,_,_,_⟩:=B ((preds a.es v).take j) (fun y h=>Qdu.1 (ZaU h));have o:=QeH (left:=lf l) (v:=v) ((preds a.es v).take j) s q;have b:=QjT (left:=lf l) (v:=v) (s:=s) h;generalize((preds a.es v).take j).foldl (bEd (lf l) v) s=t at*;have hcn:=F.cnt;have hln:=F.len;have I:i<t.2.length:=(Zam.1 O).1;have m:y<l.length:=by omega
     have G:y+1<=t.1.length:=by omega
     have p:y<t.1.length:=by omega
     have H:v<t.1.length:=by omega
     have U:=F.neg v z;have Y:=o v;by_cases g:lf l y=true
     ·by_cases w:t.1.getD y 0<0
      ·have f:bEd (lf l) v t y=(t.1.set y (t.1.getD v 0+1),t.2++[y]):=by unfold bEd;rw[if_pos (by rw[g,decide_eq_true w];rfl)]
       rw[f]at b;refine ZcF (ZcT d (QaF h) n (QaK m) g (QaW p) w I (QbG (nz_at O)) z (QaW H) G @Qbo) ?_;refine⟨j+1,by omega,by omega,?_⟩;rw[b,QaH,QaA,Zaf];exact⟨[(80,.blk 80 0),(81,.blk 81 1)],rfl,au0,au3,au4⟩
      have f:bEd (lf l) v t y=t:=by unfold bEd;rw[if_neg (by rw[g,decide_eq_false w];decide)]
      rw[f]at b;refine ZcF (ZcN d (QaF h) n (QaK m) g (QaW p) w) ?_;refine⟨j+1,by omega,by omega,?_⟩;rw[b];exact⟨[(80,.blk 80 0),(81,.blk 81 0)],rfl,au0,au3,au4⟩
     have f:bEd (lf l) v t y=t:=by unfold bEd;rw[if_neg (by simp[g])]
     rw[f]at b;rw[Zai]at g;refine ZcF (ZcL d (QaF h) n (QaK m) g) ?_;refine⟨j+1,by omega,by omega,?_⟩;rw[b];exact⟨[(80,.blk 80 0),(81,.blk 81 0)],rfl,au0,au3,au4⟩
    have e:j=(preds a.es v).length:=by omega
    subst e;refine ZcF d ?_;refine⟨(),?_⟩;exact⟨[(80,.blk 80 0),(81,.blk 81 0)],rfl,au0,au3,au4⟩
   rintro _ _;refine ZcE ?_;exact⟨(i+1,bRow a.es (lf l) v s),by dsimp only;omega,⟨C,E,QeH _ _ q,M⟩,⟨[(80,.blk 80 0),(81,.blk 81 0)],rfl,au0,au3,au4⟩⟩
  have A:s.2[i]?=none:=ZaA (by omega);have hqf:s.1=pDist a.n a.es a.ms (lf l):=by rw[<-N,<-L,show a.n+1-i=(a.n-i)+1 by omega];simp only[bQ,A]
  refine ZcF c ?_;refine⟨(),?_⟩;rw[hqf];exact⟨[(80,.blk 80 0)],rfl,au0,au3,au4⟩
 rintro _ _;refine ZcE ?_;exact⟨.inr trivial,_,rfl,⟨[(80,.blk 80 0)],rfl,au0,au3,au4⟩⟩
end Go.AM.SE
namespace Go.AM.SE
open Go.Proofs Go.AM.SD
def bkC(rank:Int)(x:Nat):List AV:=[.int .i64 (x:Int),.int .i64 rank,.int .i64 3,.int .i64 (-1)]
theorem Qau(rank:Int)(l:List Nat):noRefs (l.flatMap (bkC rank))=true:=Qa0 (fun x=>rfl) l
def lsC(rank:Int)(p:Nat×Nat):List AV:=[.int .i64 (p.1:Int),.int .i64 rank,.int .i64 2,.int .i64 (p.2:Int)]
theorem Qao(rank:Int)(l:List (Nat×Nat)):noRefs (l.flatMap (lsC rank))=true:=Qa0 (fun x=>rfl) l
theorem ls_rm(rank:Int)(l:List (Nat×Nat)):l.flatMap (lsC rank)=(lostF rank l).flatMap rmC:=by unfold lostF;rw[List.flatMap_map];rfl
theorem Qpr(rank:Int)(l:List (Nat×Nat)):(l.flatMap (lsC rank)).length=l.length*4:=Qbb (f:=lsC rank) (k:=4) (fun _=>rfl) l
theorem Qps{rank:Int}{l:List (Nat×Nat)}{i:Nat}{p:Nat×Nat}(h:l[i]?=some p):(l.flatMap (lsC rank))[i*4]?=some (.int .i64 (p.1:Int)):=by
 have:=Qbf (f:=lsC rank) (k:=4) (fun _=>rfl) h;have a:((l.flatMap (lsC rank)).drop (i*4))[0]?=some (.int .i64 (p.1:Int)):=by rw[this];rfl
 simpa using a
theorem Qoc{es:List Ed}{left:Nat->Bool}{unc:List Nat}{i:Nat}{e:Ed}(h:es[i]?=some e):pLost (es.take (i+1)) left unc=pLs left unc (pLost (es.take i) left unc) e:=by unfold pLost;rw[ZaT,h,Option.toList,Za5];rfl
theorem Qpt(es:List Ed)(left:Nat->Bool)(unc:List Nat):(pLost es left unc).length<=es.length:=by
 have key:∀(es:List Ed)(o:List (Nat×Nat)),(es.foldl (pLs left unc) o).length<=o.length+es.length:=by intro es;induction es with|nil=>intro o;simp|cons e es a=>intro o;rw[ZaH];refine Zay (a _) ?_;unfold pLs;(repeat' split)<;>(try simp)<;>(try omega)
 have:=key es [];unfold pLost;simpa using this
theorem _root_.Go.AM.au5{p:Prop}(h:p:=by repeat'(first|exact Zci|(refine Zca ?_;first|rfl|(simp only[noRef,noRefs,Qag,Zad,Zac,Zah,Qab,Qai,Qaf,Qal,Qao,Qau,Qah,Qan,Qaa,Qap,Qaj,Qak,Qam];done))|exact Zct rfl|exact Zco|exact(True.intro:RnM _ _ _ [] [])|refine Zcp ?_ ?_|(refine Zb9 ?_;first|rfl|(simp only[noRef,noRefs,Qag,Zad,Zac,Zah,Qab,Qai,Qaf,Qal,Qao,Qau,Qah,Qan,Qaa,Qap,Qaj,Qak,Qam];done))|exact Rn.x1 rfl rfl|exact Rn.x2 rfl rfl|exact Rn.x3 rfl rfl|exact Rn.x4 rfl rfl|exact Rn.x5 rfl|exact Rn.x6 rfl|exact Rn.x7 rfl|refine Zck rfl rfl ?_|refine Zcj rfl rfl rfl ?_ ?_|refine Zcl rfl rfl rfl ?_ ?_|refine Zcm rfl rfl ?_ ?_|refine Zcn rfl rfl ?_ ?_)):p:=h
theorem _root_.Go.AM.au6{p:Prop}(h:p:=by repeat(first|exact Zcg|(refine Zch ?_ ?_;·(first|exact Rn.any|exact Rn.x1 rfl rfl|exact Rn.x2 rfl rfl|exact Rn.x3 rfl rfl|exact Rn.x4 rfl rfl|exact Rn.x5 rfl|exact Rn.x6 rfl|exact Rn.x7 rfl|(refine Rn.slot ?_ ?_;(first|rfl|(rw[ZaO];rfl));(first|rfl|(simp only[noRef,noRefs,Qag,Zad,Zac,Zah,Qab,Qai,Qaf,Qal,Qao,Qau,Qah,Qan,Qaa,Qap,Qaj,Qak,Qam];done)))|(refine Rn.fn ?_ ?_<;>(repeat'(first|exact Zco|refine Zcp ?_ ?_|exact Zb9 rfl|exact Rn.x6 rfl|exact Rn.x2 rfl rfl|exact Rn.x5 rfl|exact Rn.x1 rfl rfl))))))):p:=h
theorem lost47(a:Aut)(u:List Nat)(l:LB)(rank:Int)(hes:∀e∈a.es,e.1<a.n/\e.2.2<a.n)(hl:l.length=a.n)(hel:a.es.length<=1000000)(hul:u.length<=1000000):HSpec Tryz.prog 220 [pv a u l,.int .i64 rank] .e (.sl 80 0 0 (lostF rank (pLost a.es (lf l) u)).length 4) (hp [(80,.cells 0 ((lostF rank (pLost a.es (lf l) u)).flatMap rmC))]):=by
 rw[<-ls_rm,show(lostF rank (pLost a.es (lf l) u)).length=(pLost a.es (lf l) u).length by unfold lostF;rw[Zaz]];refine HSpec.QbN 100 ok220 rfl ?_;unfold s220;refine ZcE ?_;refine Qat 100 (fun i:Nat=>[(0,pv a u l),(1,.int .i64 rank),(5,.sl 80 0 0 (pLost (a.es.take i) (lf l) u).length 4),(13,egsN a.es),(14,.int .i64 a.es.length),(15,.int .i64 i)]) (fun i=>[(80,.cells 0 ((pLost (a.es.take i) (lf l) u).flatMap (lsC rank)))]) (fun i=>i<=a.es.length) (fun i=>a.es.length-i) 0 0 120 (fun _:Unit=>[(5,.sl 80 0 0 (pLost a.es (lf l) u).length 4)]) (fun _=>[(80,.cells 0 ((pLost a.es (lf l) u).flatMap (lsC rank)))]) (fun _=>True) ?_ (Zaj _) ?_ ?_;·exact⟨[(80,.nil)],rfl,au0,au5,au6⟩
 ·rintro i hi;by_cases hlt:i<a.es.length
  ·obtain⟨e,he⟩:=Qaq hlt;obtain⟨hfr,hto⟩:=hes e (Zae he);have hst:=Qoc (left:=lf l) (unc:=u) he;have hol:=Qpt (a.es.take i) (lf l) u;rw[Zas]at hol;generalize pLost (a.es.take i) (lf l) u=o at*;have hfl:e.1<l.length:=by omega
   have htl:e.2.2<l.length:=by omega
   by_cases h1:lf l e.1=true
   ·by_cases h2:lf l e.2.2=true
    ·have :bad (lf l) u e=false:=by simp[bad,h2]
     rw[pLs,if_neg (by simp[this])]at hst;refine ZcF (ZcO hlt (QaJ he) hfr hto (QaK hfl) (QaK htl) h1 h2) ?_;refine⟨i+1,by omega,by omega,?_⟩;rw[hst];exact⟨[(80,.blk 80 0)],rfl,au0,au5,au6⟩
    ·rw[Zai]at h2;by_cases h3:u.contains e.2.1=true
     ·have hb:bad (lf l) u e=true:=by simp only[bad,h1,h2,h3];rfl
      rw[pLs,if_pos hb]at hst;refine ZcF (ZcO hlt (QaJ he) hfr hto (QaK hfl) (QaK htl) h1 h2) ?_;have hc:=contains62 (nz u) e.2.1 (by simp;omega);rw[QbF,Qec,h3]at hc;refine cp hc ?_;by_cases h4:o.length=0
      ·have ho:o=[]:=ZbK h4;have hlast:o.getLast?=none:=by rw[ho];rfl
       rw[hlast,if_neg (by simp)]at hst;have h6:¬(0:Int)<(o.length:Int):=by omega
       have hll:=Qpr rank o;refine ZcF (ZcI h6 hll) ?_;refine⟨i+1,by omega,by omega,?_⟩;rw[hst,Zaq,Zaf];exact⟨[(80,.blk 80 1)],rfl,au0,au5,au6⟩
      ·obtain⟨p,hp⟩:=Qaq (l:=o) (i:=o.length-1) (by omega);have hlast:o.getLast?=some p:=by rw[List.getLast?_eq_getElem?];exact hp
       rw[hlast]at hst;have h5:(o.length:Int)-1=((o.length-1:Nat):Int):=by omega
       have h6:(0:Int)<(o.length:Int):=by omega
       have h7:((o.length-1:Nat):Int)<(o.length:Int):=by omega
       by_cases h8:p.1=e.1;·rw[if_pos (by simpa using h8)]at hst;simp(disch:=first|omega|exact PairsOK.mk rfl|(simp only[lenW]<;>omega))only[h5,h6,h7,Qps hp,h8,wW,wV,simprocAttr];refine⟨i+1,by omega,by omega,?_⟩;rw[hst];exact⟨[(80,.blk 80 0)],rfl,au0,au5,au6⟩
       ·rw[if_neg (by simpa using h8)]at hst;have hll:=Qpr rank o;simp(disch:=first|omega|exact PairsOK.mk rfl|(simp only[lenW]<;>omega))only[h5,h6,h7,Qps hp,h8,hll,wW,wV,simprocAttr];refine⟨i+1,by omega,by omega,?_⟩;rw[hst,Zaq,Zaf];exact⟨[(80,.blk 80 1)],rfl,au0,au5,au6⟩
     ·rw[Zai]at h3;have:bad (lf l) u e=false:=by simp only[bad,h1,h2,h3];rfl
      rw[pLs,if_neg (by simp[this])]at hst;refine ZcF (ZcO hlt (QaJ he) hfr hto (QaK hfl) (QaK htl) h1 h2) ?_;have hc:=contains62 (nz u) e.2.1 (by simp;omega);rw[QbF,Qec,h3]at hc;refine cp hc ?_;refine ZcE ?_;refine⟨i+1,by omega,by omega,?_⟩;rw[hst];exact⟨[(80,.blk 80 0)],rfl,au0,au5,au6⟩
   ·rw[Zai]at h1;have:bad (lf l) u e=false:=by simp[bad,h1]
    rw[pLs,if_neg (by simp[this])]at hst;refine ZcF (ZcN hlt (QaJ he) hfr hto (QaK hfl) (QaK htl) h1) ?_;refine⟨i+1,by omega,by omega,?_⟩;rw[hst];exact⟨[(80,.blk 80 0)],rfl,au0,au5,au6⟩
  ·have e:i=a.es.length:=by omega
   subst e;refine ZcF hlt ?_;refine⟨(),?_⟩;exact⟨[(80,.blk 80 0)],rfl,au0,au5,au6⟩
 rintro _ _;refine ZcE ?_;exact⟨.inr trivial,_,rfl,⟨[(80,.blk 80 0)],rfl,au0,au5,au6⟩⟩
def blkP(left:Nat->Bool)(d:List Int)(n:Nat):List Nat:=(List.range n).filter fun i=>left i&&decide (d.getD i 0<0)
theorem QsV(rank:Int)(l:List Nat):(l.flatMap (bkC rank)).length=l.length*4:=Qbb (f:=bkC rank) (k:=4) (fun _=>rfl) l
theorem Qnp(left:Nat->Bool)(rank:Int)(d:List Int):blkF left rank d=(blkP left d d.length).map fun x=>⟨x,rank,3,-1⟩:=by unfold blkF blkP;generalize List.range d.length=r;induction r with|nil=>rfl|cons x r a=>
 rw[Zbz,ZbC];by_cases h:(left x&&decide (d.getD x 0<0))=true;·rw[if_pos h,if_pos h,ZaK,<-a]
 rw[if_neg h,if_neg h,<-a]
theorem bk_rm(left:Nat->Bool)(rank:Int)(d:List Int):(blkP left d d.length).flatMap (bkC rank)=(blkF left rank d).flatMap rmC:=by rw[Qnp,List.flatMap_map];rfl
theorem QqQ(left:Nat->Bool)(d:List Int)(n:Nat):(blkP left d n).length<=n:=by unfold blkP;exact Zay (Za3 _ _) (by simp)
theorem Qpu{left:Nat->Bool}{d:List Int}{i:Nat}:blkP left d (i+1)=blkP left d i++if left i&&decide (d.getD i 0<0)then[i]else[]:=by
 unfold blkP;rw[ZaI,Zbm];congr 1;by_cases h:(left i&&decide (d.getD i 0<0))=true;·rw[if_pos h,ZbC,if_pos h];rfl
 rw[if_neg h,ZbC,if_neg h];rfl
theorem QjV{n:Nat}{es:List Ed}{mk:List Nat}{left:Nat->Bool}(a:InN n es mk)(b:mk.Nodup):(pDist n es mk left).length=n:=(QfU a (n+1) 0 _ (QdM a b) (by omega)).1
theorem blocked48(a:Aut)(u:List Nat)(l:LB)(rank:Int)(k:InN a.n a.es a.ms)(h:a.ms.Nodup)(t:l.length=a.n)(w:a.n<=4096)(r:a.es.length<=1000000)(n:a.ms.length<=1000000):HSpec Tryz.prog 221 [pv a u l,.int .i64 rank] .e (.sl 81 0 0 (blkF (lf l) rank (pDist a.n a.es a.ms (lf l))).length 4) (hp [(81,.cells 0 ((blkF (lf l) rank (pDist a.n a.es a.ms (lf l))).flatMap rmC))]):=by
 have p:=QjV (left:=lf l) k h;have s:=dist53 a u l k h t w r n;generalize pDist a.n a.es a.ms (lf l)=d at*;rw[<-bk_rm,Qnp,Zaz,p];refine HSpec.QbN 100 ok221 rfl ?_;unfold s221;refine ZcE ?_;refine ch (HSpec.of_O (b:=80) (by(try simp only[noRefs,Qak,Qam,Qab,Qai,Qaf,Qal,Qao,Qau,Qah,noRef,Zad,Zac])<;>rfl) s (by repeat(first|exact Fresh.e|exact Fresh.le (by assumption) (by omega)|refine Fresh.set ?_ (by omega) (by omega))) rfl) ?_;refine ZcE ?_;refine Qat 110 (fun i:Nat=>[(0,pv a u l),(1,.int .i64 rank),(5,.sl 81 0 0 (blkP (lf l) d i).length 4),(9,.sl 80 0 0 a.n 1),(10,.int .i64 a.n),(11,.int .i64 i)]) (fun i=>[(80,.cells 0 (ints d)),(81,.cells 0 ((blkP (lf l) d i).flatMap (bkC rank)))]) (fun i=>i<=a.n) (fun i=>a.n-i) 0 0 120 (fun _:Unit=>[(5,.sl 81 0 0 (blkP (lf l) d a.n).length 4)]) (fun _=>[(81,.cells 0 ((blkP (lf l) d a.n).flatMap (bkC rank)))]) (fun _=>True) ?_ (Zaj _) ?_ ?_;·exact⟨[(80,.blk 80 0),(81,.nil)],rfl,au0,au5,au6⟩
 ·rintro i hi;by_cases c:i<a.n
  ·have b:=Qpu (left:=lf l) (d:=d) (i:=i);have v:=QqQ (lf l) d i;generalize blkP (lf l) d i=o at*;have f:i<l.length:=by omega
   have g:i<d.length:=by omega
   have q:=QsV rank o;by_cases h1:lf l i=true
   ·by_cases m:d.getD i 0<0;·rw[if_pos (by rw[h1,decide_eq_true m];rfl)]at b;refine ZcF (ZcM c (QaW g) (QaK f) h1 m q) ?_;refine⟨i+1,by omega,by omega,?_⟩;rw[b,Zaq,Zaf];exact⟨[(80,.blk 80 0),(81,.blk 81 1)],rfl,au0,au5,au6⟩
    rw[if_neg (by rw[h1,decide_eq_false m];decide),Zap]at b;refine ZcF (ZcL c (QaW g) (QaK f) h1 m) ?_;refine⟨i+1,by omega,by omega,?_⟩;rw[b];exact⟨[(80,.blk 80 0),(81,.blk 81 0)],rfl,au0,au5,au6⟩
   rw[if_neg (by simp[h1]),Zap]at b;rw[Zai]at h1;refine ZcF (ZcK c (QaW g) (QaK f) h1) ?_;refine⟨i+1,by omega,by omega,?_⟩;rw[b];exact⟨[(80,.blk 80 0),(81,.blk 81 0)],rfl,au0,au5,au6⟩
  have e:i=a.n:=by omega
  subst e;refine ZcF c ?_;refine⟨(),?_⟩;exact⟨[(81,.blk 81 0)],rfl,au0,au5,au6⟩
 rintro _ _;refine ZcE ?_;exact⟨.inr trivial,_,rfl,⟨[(81,.blk 81 0)],rfl,au0,au5,au6⟩⟩
end Go.AM.SE
namespace Go.AM.SE
open Go.Proofs Go.AM.SD
theorem Qf4(l:List Rm):(l.flatMap rmC).length=l.length*4:=Qbb (f:=rmC) (k:=4) (fun _=>rfl) l
theorem QrP(l:List Rm):flatVs (l.flatMap rmC)=true:=by induction l with|nil=>rfl|cons x l a=>rw[Zax];simp only[rmC,ZaW,ZaR,flatVs,flatV,Zah];exact a
theorem Qb0(l:List Int):flatVs (ints l)=true:=by induction l with|nil=>rfl|cons x l a=>simp only[ints,ZaK,flatVs,flatV,Zah];exact a
theorem FrzTo.all{h:Heap}{b g len sz:Nat}{cs:List AV}(c:h.get b=some (.cells g cs))(a:cs.length=len*sz):FrzTo h (.sl b g 0 len sz) (.fsl cs len sz):=by refine FrzTo.sl c (by omega) ?_;rw[Za9,<-a,Zau];exact Zce _
theorem frzP{h:Heap}{a:Aut}{u:List Nat}{l:LB}(d:h.get 70=some (.cells 0 (pblk a u)))(c:h.get 71=some (.map 0 (mapF .i64 (backF a.es) (keysR a.es))))(b:h.get 72=some (.cells 0 (bls l)))(f:l.length=a.n):FrzTo h (.ptr 70 0 0) (pv a u l):=by refine FrzTo.ptr d ?_;rw[Za9];exact Zcv (Zcd _) (Zcv (Zcd _) (Zcv (Zcd _) (Zcv (Zcd _) (Zcv (Zcd _) (Zcv (FrzTo.mapF c fun x _=>Zcd _) (Zcv (FrzTo.all b (by rw[Qgq,f,Zb2])) Zcu))))))
theorem next35(a:Aut)(u:List Nat)(l:LB)(rank:Int)(all:Bool)(d:InN a.n a.es a.ms)(g:a.ms.Nodup)(i:l.length=a.n)(m:a.n<=4096)(b:a.es.length<=1000000)(h:a.ms.length<=1000000)(f:u.length<=1000000):HSpec Tryz.prog 178 [pv a u l,.int .i64 rank,.bool all] .e (.sl 82 0 0 (pNext a.n a.es a.ms (lf l) u rank all).length 4) (hp [(82,.cells 0 ((pNext a.n a.es a.ms (lf l) u rank all).flatMap rmC))]):=by
 have h1:=lost47 a u l rank (fun e he=>d.1 e he) i b f;have k:=blocked48 a u l rank d g i m b h;have hlen:(lostF rank (pLost a.es (lf l) u)).length=(pLost a.es (lf l) u).length:=by unfold lostF;rw[Zaz]
 unfold pNext;refine HSpec.QbN 100 ok178 rfl ?_;unfold s178;refine ZcE ?_;refine ch (HSpec.of_O (b:=80) (by(try simp only[noRefs,Qak,Qam,Qab,Qai,Qaf,Qal,Qao,Qah,noRef,Zad,Zac])<;>rfl) h1 (by repeat(first|exact Fresh.e|exact Fresh.le (by assumption) (by omega)|refine Fresh.set ?_ (by omega) (by omega))) rfl) ?_;rw[hlen];by_cases c:0<(pLost a.es (lf l) u).length;·rw[if_pos (by simp[c])];rw[hlen];generalize pLost a.es (lf l) u=o at*;refine ZcF c ?_;exact⟨.inr trivial,_,rfl,⟨[(82,.blk 80 0)],rfl,au0,au5,au6⟩⟩
 cases all with|false=>rw[if_pos (by simp)];rw[hlen];generalize pLost a.es (lf l) u=o at*;refine ZcF c ?_;exact⟨.inr trivial,_,rfl,⟨[(82,.blk 80 0)],rfl,au0,au5,au6⟩⟩|true=>rw[if_neg (by simp[c])];generalize pLost a.es (lf l) u=o at*;refine ZcF c ?_;refine ch (HSpec.of_O (b:=81) (by(try simp only[noRefs,Qak,Qam,Qab,Qai,Qaf,Qal,Qao,Qah,noRef,Zad,Zac])<;>rfl) k (by repeat(first|exact Fresh.e|exact Fresh.le (by assumption) (by omega)|refine Fresh.set ?_ (by omega) (by omega))) rfl) ?_;generalize blkF (lf l) rank (pDist a.n a.es a.ms (lf l))=q at*;refine ZcE ?_;exact⟨.inr trivial,_,rfl,⟨[(82,.blk 81 0)],rfl,au0,au5,au6⟩⟩
theorem WfA.auOk{a:Aut}(h:WfA a)(c:a.es.length<=1000000):AuOk (au a):=by
 have g:a.al.length<=32:=QaT 32 a.al (by rw[ZaL];exact h.al.imp fun h=>by omega) h.al5;have d:a.ms.length<=a.n:=QaT a.n a.ms h.nd h.msn;have f:=h.n5;refine{len:=?_,all:=?_,fr:=?_,to:=?_,ev:=?_,up:=?_,alS:=SetOk.nz (n:=32) (fun x b=>by have:=h.al5 x b;omega) h.al,msS:=SetOk.nz h.msn h.ms,mslen:=?_,n0:=?_,nm:=?_};·show(a.es.map eg).length<=_;simp;omega
 ·show(nz a.al).length<=_;simp;omega
 ·intro e he;obtain⟨x,b,rfl⟩:=Zao.1 he;have:=h.esn x b;show(0:Int)<=x.1/\(x.1:Int)<a.n;omega
 ·intro e he;obtain⟨x,b,rfl⟩:=Zao.1 he;have:=h.esn x b;show(0:Int)<=x.2.2/\(x.2.2:Int)<a.n;omega
 ·intro e he;obtain⟨x,b,rfl⟩:=Zao.1 he;exact Zao.2 ⟨x.2.1,h.ev x b,rfl⟩
 ·show(a.es.map eg).Pairwise _;rw[Zbx];refine h.es.imp fun h=>?_;show(_:Int)<_\/(_:Int)=_/\(_:Int)<_;simp only[eg];omega
 ·show(nz a.ms).length<=_;simp;omega
 ·show(0:Int)<=(a.n:Int);omega
 show(a.n:Int)<=4096;omega
structure QOk(a:Aut)(f u:List Nat):Prop where
 fS:f.Pairwise (·<·)fn:∀x∈f,x<a.n
 uS:u.Pairwise (·<·)un:∀x∈u,x<32
theorem Qbq{l:List Nat}{n:Nat}(h:l.Pairwise (·<·))(a:∀x∈l,x<n):l.length<=n:=QaT n l (by rw[ZaL];exact h.imp fun h=>by omega) a
theorem WfA.elK{a:Aut}{k:Nat}(h:WfA a)(g:∀x∈a.al,x<k):a.es.length<=a.n*k:=by
 have f:∀e∈a.es,e.2.1<k:=fun e he=>g _ (h.ev e he);have i:(a.es.map fun e=>e.1*k+e.2.1).Pairwise (·<·):=by
  rw[Zbx];refine h.es.imp_of_mem fun{x y}b l d=>?_;have h1:=f x b;rcases d with c|⟨c,m⟩;·have :=ZaZ k (show x.1+1<=y.1 from c);rw[Zbb]at this;omega
  rw[c];omega
 have:=Qbq i (n:=a.n*k) fun x b=>by obtain⟨e,he,rfl⟩:=Zao.1 b;have h1:=f e he;have:=ZaZ k (show e.1+1<=a.n from(h.esn e he).1);rw[Zbb]at this;show e.1*k+e.2.1<_;omega
 rwa[Zaz]at this
theorem WfA.el1{a:Aut}(h:WfA a):a.es.length<=131072:=by have h1:=WfA.elK h h.al5;have b:=ZaZ 32 h.n5;omega
end Go.AM.SE
namespace Go.AM
variable{P:Program}
end Go.AM
namespace Go.AM
variable{P:Program}
theorem HSpec.empty{f sz:Nat}{d:List AV}{h h':Heap}{v:AV}(h1:HSpec P f (.nilsl::d) h v h')(g:HSpec P f (.nsl::d) h v h'):HSpec P f (.fsl [] 0 sz::d) h v h':=by
 obtain⟨hc,h1⟩:=h1;obtain⟨_,g⟩:=g;refine⟨hc,fun c w b H l=>?_⟩;simp only[VRels]at l;obtain⟨u,us,e,k,i⟩:=l;simp only[VRel]at k;rcases k with⟨⟨a,rfl⟩,_⟩|⟨m,off,cap,C,_,_,rfl,_⟩;·cases a with|none=>exact h1 c w b H (by rw[e];simp only[VRels];exact⟨_,_,rfl,by simp[VRel],i⟩)|some a=>exact g c w b H (by rw[e];simp only[VRels];exact⟨_,_,rfl,by simp[VRel],i⟩)
 exact g c w b H (by rw[e];simp only[VRels];exact⟨_,_,rfl,by simp[VRel],i⟩)
end Go.AM
namespace Go.AM
theorem Qii{x:Src}:∀{A B:List (Nat×Src)},srcNew x A=true->srcNew x B=true->srcNew x (A++B)=true|[],B,_,h=>h|(j,t)::A,B,h1,a=>by simp only[srcNew,Zab]at h1;rw[ZaW];simp only[srcNew,Zab];exact⟨h1.1,Qii h1.2 a⟩
theorem Qfb{s:Nat->Src}{f:Nat->List AV}{ks:List Nat}(m:okPs 0 (psL s ks) (rowsL f ks)=true):∀{A:List (Nat×Src)}{L:HL},okPs 0 A L=true->(∀p∈A,p.1<300)->(∀p∈A,∀b g,p.2=.blk b g->∀k∈ks,∀a i,s k=.blk a i->b≠a)->okPs 0 (A++psL s ks) (L++rowsL f ks)=true
 |[],[],_,_,_=>m|[],_::_,h,_,_=>by simp[okPs]at h|_::_,[],h,_,_=>by simp[okPs]at h|(b,t)::A,(a,x)::L,h,n,l=>by
  simp only[okPs,Zab,Zbd]at h;obtain⟨⟨⟨⟨h1,w⟩,c⟩,v⟩,u⟩:=h;rw[ZaW,ZaW];simp only[okPs,Zab,Zbd];refine⟨⟨⟨⟨h1,w⟩,?_⟩,?_⟩,Qfb m u (fun p hp=>n p (by simp[hp])) (fun p hp=>l p (by simp[hp]))⟩
  ·rcases c with c|⟨c,o⟩;·exact .inl c
   refine .inr ⟨c,Qii o ?_⟩;cases e:t with|nil=>exact Qe8|blk k g=>exact Qca fun j r a i q=>l (b,t) (by simp) k g e j r a i q
  rw[ZbU,v,Zah,ZaD];intro p hp;have o:=Qen hp;have y:=n (b,t) (by simp);have d:Nat.beq p.1 b=false:=by
   rw[ZaB];intro d;have:p.1=b:=by simpa using d
   omega
  simp[d]
theorem QeI{s:Nat->Src}{ks:List Nat}{k:Nat}(a:k∈ks):∀{A:List (Nat×Src)},(∀p∈A,p.1<300)->ow 0 (A++psL s ks) (300+k)=some (s k):=by
 have key:∀{A:List (Nat×Src)},(∀p∈A,p.1<300)->lkS (A++psL s ks) (300+k)=some (s k):=by intro A;induction A with|nil=>intro _;exact Qhy a|cons p A b=>intro h;obtain⟨j,t⟩:=p;have:=h (j,t) (by simp);dsimp only at this;rw[ZaW];simp only[lkS];rw[if_neg (by omega)];exact b fun p hp=>h p (by simp[hp])
 grind[ow]
theorem QeJ{m:Nat}{π:Nat->Option Src}{h:Heap}{f g:Nat->AV}:∀{ks:List Nat},(∀k∈ks,Rn m π h (f k) (g k))->RnL m π h (ks.map f) (ks.map g)|[],_=>trivial|j::ks,a=>⟨a j (by simp),QeJ fun k h=>a k (by simp[h])⟩
theorem RnO.agg{h:Heap}{xs ys:List AV}(d:RnOL h xs ys):RnO h (.agg xs) (.agg ys):=fun _ c w v H a=>by simp only[VRel]at a⊢;obtain⟨b,rfl,a⟩:=a;exact⟨b,rfl,d.rels H a⟩
theorem RnO.nil{h:Heap}{sz:Nat}:RnO h (.fsl [] 0 sz) .nilsl:=fun _ c w v H a=>by simp_all[VRel]
theorem Qod{k:IntKind}{f g:Nat->AV}{l:List Nat}(h:∀x∈l,f x=g x):mapF k f l=mapF k g l:=by simp_all[mapF]
theorem Qpv{f:Nat->AV}{n i:Nat}{v:AV}(h:i<n):((List.range n).map f).set i v=(List.range n).map (updF f i v):=by
 apply Zbo;intro j;rw[List.getElem?_set];by_cases e:i=j;·subst e;rw[if_pos rfl,if_pos (by simpa using h)];simp[updF,h]
 grind[updF]
theorem QjW{f:Nat->AV}{n i:Nat}(h:i<n):((List.range n).map f)[i]?=some (f i):=by simp[h]
end Go.AM
namespace Go.AM
variable{P:Program}
theorem HSpec.freeze{f b g len sz:Nat}{args ds:List AV}{h h1:Heap}(S:HSpec P f args h (.sl b g 0 len sz) h1)(M:h1.get b=some (.cells g ds))(hf:flatVs ds=true)(hl:len*sz<=ds.length)(U:Nat.blt b 1099511627775=true):HSpec P f args h (.fsl (ds.take (len*sz)) len sz) (h1.set b (.dead g)):=by
 have q:b<1099511627775:=by simp_all
 obtain⟨hc,hs⟩:=S;refine⟨hc,fun c w p H ha=>(hs c w p H ha).mono ?_⟩;rintro e J⟨cv,r,rfl,E,H',V⟩;have d:Live h1 b g:=⟨_,M,rfl,fun _=>by simp⟩;let u:Ctx (okc P):={r with F:=fun k=>r.F k\/∃base,r.ρ b g=some (.loc k base),O:=fun k=>r.O k/\¬∃base,r.ρ b g=some (.loc k base)};have i:∀k,(h1.set b (.dead g)).get k=if k=b then some (.dead g)else h1.get k:=fun k=>by
  by_cases e:k=b;·subst e;rw[Qay q,if_pos rfl]
  simp_all[QaE]
 have G:∀k y,Live (h1.set b (.dead g)) k y->k≠b/\Live h1 k y:=by
  rintro k y⟨x,a,Y,O⟩;rw[i]at a;split at a;·grind
  rename_i e;exact⟨e,x,a,Y,O⟩
 have E2:Evo c w u J:=⟨E.os,E.tape,E.output,E.size,E.shape,E.keep,E.rho,fun k a=>.inl (E.frz k a),fun k a=>by
  rcases a with a|⟨base,a⟩;·exact E.frzNew k a
  rcases E.own k (H'.owned d a)with h|h;·simp_all
  omega,fun k a=>E.own k a.1,E.base⟩;refine⟨cv,u,rfl,E2,⟨fun k a y=>?_,fun k x a y s=>?_,fun k x a=>?_,fun k y k' y' I base m l1 X p1 p2=>H'.inj k y k' y' I base m (G _ _ l1).2 (G _ _ X).2 p1 p2,fun k l K=>?_,fun k l=>?_,fun k K=>H'.inO k K.1⟩,?_⟩
 ·rw[i]at a;split at a;·cases a
  exact H'.fresh k a y
 ·rw[i]at a;split at a;·rename_i e;subst e;cases a;exact H'.later k _ M y s
  exact H'.later k x a y s
 ·rw[i]at a;split at a;·cases a;trivial
  rename_i e;refine Zb6 (c:=r) (c':=u) (w:=J) (w':=J) ⟨fun _ _ _ h=>h,fun _ h=>.inl h,fun _ _ _ h=>h,fun _ C _ T h=>⟨C,T,h,rfl⟩⟩ (fun I base O hp=>?_) (H'.blk k x a);have B:Live h1 k x.gen:=⟨x,a,rfl,O⟩;exact⟨⟨H'.owned B hp,fun⟨m,Q⟩=>e (H'.inj _ _ _ _ _ _ _ B d hp Q)⟩,rfl⟩
 ·rcases l with l|l;·exact H'.disj k l K.1
  grind
 ·rcases l with l|⟨base,l⟩;·exact H'.inF k l
  exact H'.inO k (H'.owned d l)
 simp only[VRel]at V;rcases V with⟨hp,rfl,_,rfl⟩|⟨I,base,o,cap,C,e,T,hp,rfl,hlc,hC,t⟩;·simp_all[VRel]
 obtain⟨C',e',fr',K,A,hfr,hbs,z⟩:=H'.here M hp;rw[hC]at A;cases A;have l:u.F I:=.inr ⟨base,hp⟩;by_cases h0:cap=0
 ·have R:len=0:=by omega
  subst R;simp only[VRel];simp_all
 obtain⟨rfl,hbd⟩:=t.resolve_left h0;have L:=VPre.flat (c':=u) (w':=J) hf z;have hp3:=VPre_take2 (len*sz) L;simp only[VRel];grind where VPre_take2{c:Ctx (okc P)}{w:World}:∀(n:Nat){xs:List AV}{F:List Value},VPre c w xs F->VPre c w (xs.take n) F|0,xs,F,h=>by simp[VPre]|n+1,[],F,h=>by simp[VPre]|n+1,x::xs,F,h=>by simp only[VPre]at h;obtain⟨v,N,rfl,h1,Z⟩:=h;simp only[ZaX,VPre];exact⟨v,N,rfl,h1,VPre_take2 n Z⟩
end Go.AM
namespace Go.AM
variable{P:Program}
def OnlyD(D:Nat->Prop)(args:List AV):Prop:=∀(ok:Okc)(c a:Ctx ok)(w:World)(d:List Value),(∀b g,D b->a.ρ b g=c.ρ b g)->(∀k,c.F k->a.F k)->VRels c w args d->VRels a w args d
theorem OnlyD.nil{D:Nat->Prop}:OnlyD D []:=fun _ c b w a _ _ h=>by grind[VRels]
theorem OnlyD.cons{D:Nat->Prop}{x:AV}{xs:List AV}(i:OnlyD D [x])(h:OnlyD D xs):OnlyD D (x::xs):=fun ok c d w m h1 f b=>by simp only[VRels]at b⊢;obtain⟨v,a,rfl,n,k⟩:=b;have:=i ok c d w [v] h1 f (by simp only[VRels];simp_all);simp only[VRels]at this;obtain⟨v2,l,e,g,_⟩:=this;cases e;exact⟨v,a,rfl,g,h _ c d w a h1 f k⟩
theorem OnlyD.same{D:Nat->Prop}{x:AV}(d:noRef x=true):OnlyD D [x]:=fun _ c k w i h1 h b=>by simp only[VRels]at b⊢;obtain⟨v,a,rfl,f,g⟩:=b;exact⟨v,a,rfl,Zb7 h _ _ d f,g⟩
theorem OnlyD.sl{D:Nat->Prop}{b g off len sz:Nat}(m:D b):OnlyD D [.sl b g off len sz]:=fun _ c i w h h1 l d=>by simp only[VRels]at d⊢;obtain⟨v,a,rfl,k,f⟩:=d;refine⟨v,a,rfl,?_,f⟩;simp_all[VRel]
theorem OnlyD.ptr{D:Nat->Prop}{b g off:Nat}(m:D b):OnlyD D [.ptr b g off]:=fun _ c i w h h1 l d=>by simp only[VRels]at d⊢;obtain⟨v,a,rfl,k,f⟩:=d;refine⟨v,a,rfl,?_,f⟩;simp_all[VRel]
theorem OnlyD.fn{D:Nat->Prop}{f:Nat}{xs ys:List AV}(m:OnlyD D xs)(l:OnlyD D ys):OnlyD D [.fn f xs ys]:=fun ok c d w q h1 h g=>by simp only[VRels]at g⊢;obtain⟨v,a,rfl,b,k⟩:=g;refine⟨v,a,rfl,?_,k⟩;simp only[VRel]at b⊢;obtain⟨p,o,rfl,i,n⟩:=b;exact⟨p,o,rfl,m ok c d w _ h1 h i,l ok c d w _ h1 h n⟩
theorem OnlyD.map{D:Nat->Prop}{b g:Nat}(m:D b):OnlyD D [.map b g]:=fun _ c i w h h1 l d=>by simp only[VRels]at d⊢;obtain⟨v,a,rfl,k,f⟩:=d;refine⟨v,a,rfl,?_,f⟩;simp_all[VRel]
def NoRefB:Blk->Prop|.cells _ cs=>noRefs cs=true|.map _ es=>∀e∈es,noRef e.1=true/\noRef e.2=true|.dead _=>True|_=>False
theorem VPre.noRef2{ok:Okc}{c c':Ctx ok}{w:World}(a:∀k,c.F k->c'.F k){xs:List AV}{vs:List Value}(b:noRefs xs=true)(h:VPre c w xs vs):VPre c' w xs vs:=VPre.noRef a _ _ b h
theorem MRel.noRef2{ok:Okc}{c c':Ctx ok}{w:World}(b:∀k,c.F k->c'.F k):∀{xs:List (AV×AV)}{es:List MapEntry}{clock:Nat},(∀e∈xs,noRef e.1=true/\noRef e.2=true)->MRel c w xs es clock->MRel c' w xs es clock|[],_,_,_,h=>h|(k,x)::r,es,clock,d,h=>by obtain⟨e,a,h1,m,l,i,f,g⟩:=h;obtain⟨q1,q2⟩:=d (k,x) (by simp);exact⟨e,a,h1,Zb7 b _ _ q1 m,Zb7 b _ _ q2 l,i,f,MRel.noRef2 b (fun e he=>d e (by simp[he])) g⟩
theorem NoRefB.rel{ok:Okc}{c c':Ctx ok}{w:World}{b:Nat}{x:Blk}(m:NoRefB x)(p:∀k,c.F k->c'.F k)(n:∀g,c'.ρ b g=c.ρ b g)(o:∀k g base,c.ρ b g=some (.loc k base)->(∀j,x≠.dead j)->x.gen=g->c.O k->c'.O k)(h:BRel c w b x):BRel c' w b x:=by cases x with|dead g=>trivial|map g es=>obtain⟨d,l,clock,h1,a,i,f⟩:=h;exact⟨d,l,clock,(n _).trans h1,o d g 0 h1 (fun _=>by simp) rfl a,i,MRel.noRef2 p m f.1,f.2⟩|loop=>exact m.elim|cells g cs=>
 rcases h with⟨h1,a⟩|⟨d,base,C,e,s,h1,a,i,f,q,r⟩;·exact .inl ⟨(n _).trans h1,a⟩
 exact .inr ⟨d,base,C,e,s,(n _).trans h1,o d g base h1 (fun _=>by simp) rfl a,i,f,q,VPre.noRef2 p m r⟩
theorem HSpec.frame{f:Nat}{args:List AV}{v:AV}{h h1 q h':Heap}(D:Nat->Prop)[DecidablePred D](hs:HSpec P f args h1 v q)(ha:OnlyD D args)(hv:OnlyD D [v])(e1:∀k,h1.get k=if D k then h.get k else none)(e2:∀k,¬D k->q.get k=none)(e3:∀k,h'.get k=if D k then q.get k else h.get k)(n1:∀k x,h1.get k=some x->NoRefB x)(n2:∀k x,q.get k=some x->NoRefB x):HSpec P f args h v h':=by
 obtain⟨hc,hs⟩:=hs;refine⟨hc,fun c w L H M=>?_⟩;let I:Ctx (okc P):={ρ:=fun k y=>if D k then c.ρ k y else none,F:=c.F,O:=fun k=>∃b g base,D b/\Live h b g/\c.ρ b g=some (.loc k base),base:=c.base};have o:∀b y,D b->I.ρ b y=c.ρ b y:=fun b y t=>if_pos t;have Q:∀k,I.O k->c.O k:=fun k⟨b,g,base,_,R,a⟩=>H.owned R a;have C:∀{k x},h1.get k=some x->D k/\h.get k=some x:=fun{k x}a=>by simp_all
 have Z:∀{k y},Live h1 k y->D k/\Live h k y:=fun{k y}⟨x,a,hx,d⟩=>⟨(C a).1,x,(C a).2,hx,d⟩;have H1:HRel I h1 w:=by
  refine⟨fun k a y=>?_,fun k x a y u=>?_,fun k x a=>?_,fun k y T y' m base l s r z F=>?_,fun k hF i=>H.disj k hF (Q k i),H.inF,fun k i=>H.inO k (Q k i)⟩
  ·rw[e1]at a;split at a;·rename_i d;rw[o _ _ d];exact H.fresh k a y
   grind
  ·obtain⟨d,a⟩:=C a;rw[o _ _ d];exact H.later k _ a y u
  ·obtain⟨d,U⟩:=C a;exact NoRefB.rel (c:=c) (c':=I) (n1 k x a) (fun _ h=>h) (fun g=>o k g d) (fun m g base hp A G _=>⟨k,g,base,d,⟨x,U,G,A⟩,hp⟩) (H.blk k x U)
  obtain⟨Y,s⟩:=Z s;obtain⟨O,r⟩:=Z r;rw[o _ _ Y]at z;rw[o _ _ O]at F;exact H.inj _ _ _ _ _ _ _ s r z F
 refine(hs I w L H1 (ha _ c I w _ (fun b g t=>o b g t) (fun _ h=>h) M)).mono ?_;rintro e w'⟨cv,J,rfl,E,H',V⟩;let S:Ctx (okc P):={ρ:=fun k y=>if D k then J.ρ k y else c.ρ k y,F:=J.F,O:=fun k=>J.O k\/(c.O k/\¬I.O k),base:=c.base};have n:∀b y,D b->S.ρ b y=J.ρ b y:=fun b y t=>if_pos t;have B:∀b y,¬D b->S.ρ b y=c.ρ b y:=fun b y t=>if_neg t;have E2:Evo c w S w':=by
  refine⟨E.os,E.tape,E.output,E.size,E.shape,fun k a i=>E.keep k a fun h=>i (Q k h),fun b y p hp=>?_,fun k a=>E.frz k a,fun k a=>?_,fun k a=>?_,rfl⟩
  ·by_cases d:D b;·rw[n _ _ d];exact E.rho b y p ((o _ _ d).trans hp)
   simp_all
  ·rcases E.frzNew k a with h|h|h;·exact .inl h
   ·simp_all
   omega
  rcases a with a|a
  ·rcases E.own k a with h|h;·simp_all
   exact .inr h
  simp_all
 have K:∀{k x},h'.get k=some x->(D k/\q.get k=some x)\/(¬D k/\h.get k=some x):=fun{k x}a=>by grind
 have N:∀{k y},Live h' k y->(D k/\Live q k y)\/(¬D k/\Live h k y):=fun{k y}⟨x,a,hx,d⟩=>by
  rcases K a with⟨q1,q2⟩|⟨q1,q2⟩;·exact .inl ⟨q1,x,q2,hx,d⟩
  exact .inr ⟨q1,x,q2,hx,d⟩
 have X:∀{k y m base},¬D k->Live h k y->c.ρ k y=some (.loc m base)->¬I.O m:=by rintro k y m base d R hp⟨b,g,l,t,hlb,hpb⟩;have:=H.inj _ _ _ _ _ _ _ R hlb hp hpb;simp_all
 have hcross:∀{k y T y' m base l},D k->Live q k y->J.ρ k y=some (.loc m base)->¬D T->Live h T y'->c.ρ T y'=some (.loc m l)->False:=by
  intro k y T y' m base l d s z hd' r F;rcases E.own m (H'.owned s z)with h|h;·grind
  have:=H.inO m (H.owned r F);omega
 refine⟨cv,S,rfl,E2,⟨fun k a y=>?_,fun k x a y u=>?_,fun k x a=>?_,fun k y T y' m base l s r z F=>?_,fun k hF i=>?_,H'.inF,fun k i=>?_⟩,?_⟩
 ·rw[e3]at a;split at a;·rename_i d;rw[n _ _ d];exact H'.fresh k a y
  rename_i d;rw[B _ _ d];exact H.fresh k a y
 ·rcases K a with⟨d,a⟩|⟨d,a⟩;·rw[n _ _ d];exact H'.later k x a y u
  rw[B _ _ d];exact H.later k x a y u
 ·rcases K a with⟨d,a⟩|⟨d,a⟩;·exact NoRefB.rel (c:=J) (c':=S) (n2 k x a) (fun _ h=>h) (fun g=>n k g d) (fun m g base hp A G i=>.inl i) (H'.blk k x a)
  refine Zb6 (E2.ext H.disj) (fun m base A hp=>?_) (H.blk k x a);have R:Live h k x.gen:=⟨x,a,rfl,A⟩;have i:=H.owned R hp;have hn:=X d R hp;exact⟨.inr ⟨i,hn⟩,E.keep m (H.inO m i) hn⟩
 ·rcases N s with⟨Y,s⟩|⟨Y,s⟩
  ·rw[n _ _ Y]at z;rcases N r with⟨O,r⟩|⟨O,r⟩;·rw[n _ _ O]at F;exact H'.inj _ _ _ _ _ _ _ s r z F
   grind
  rw[B _ _ Y]at z;rcases N r with⟨O,r⟩|⟨O,r⟩;·grind
  rw[B _ _ O]at F;exact H.inj _ _ _ _ _ _ _ s r z F
 ·rcases i with i|⟨i,hn⟩;·exact H'.disj k hF i
  rcases E.frzNew k hF with h|h|h;·exact H.disj k h i
  ·exact hn h
  have:=H.inO k i;omega
 ·rcases i with i|⟨i,_⟩;·exact H'.inO k i
  exact ZaV (H.inO k i) E.size
 have h5:VRels J w' [v] [cv]:=by simp only[VRels];simp_all
 have h6:=hv _ J S w' [cv] (fun b g t=>n b g t) (fun _ h=>h) h5;simp_all[VRels]
theorem QbU{b:Nat}{x:Blk}(a:b<1099511627775)(k:Nat):(hp [(b,x)]).get k=if k=b then some x else none:=by
 simp only[hp];by_cases e:k=b;·subst e;rw[Qay a,if_pos rfl]
 simp_all[QaE,get_e]
theorem QeK{b c:Nat}{x y:Blk}(a:b<1099511627775)(hc:c<1099511627775)(k:Nat):(hp [(b,x),(c,y)]).get k=if k=b then some x else if k=c then some y else none:=by
 rw[QaQ];by_cases e:k=b;·subst e;rw[Qay a,if_pos rfl]
 simp_all[QaE,QbU]
theorem HSpec.frameA{f b g i:Nat}{args xs ys:List AV}{v:AV}{h:Heap}(n:HSpec P f args (hp [(b,.cells g xs)]) v (hp [(b,.cells i ys)]))(p:OnlyD (fun k=>k=b) args)(l:OnlyD (fun k=>k=b) [v])(m:noRefs xs=true)(o:noRefs ys=true)(q:h.get b=some (.cells g xs))(d:Nat.blt b 1099511627775=true):HSpec P f args h v (h.set b (.cells i ys)):=by
 have a:b<1099511627775:=by simp_all
 refine HSpec.frame (fun k=>k=b) n p l (fun k=>?_) (fun k c=>?_) (fun k=>?_) (fun k x c=>?_) (fun k x c=>?_);·rw[QbU a];simp_all
 ·simp_all[QbU]
 ·rw[QbU a];by_cases e:k=b;·subst e;rw[if_pos rfl,if_pos rfl,Qay a]
  simp_all[QaE]
 ·rw[QbU a]at c;split at c;·cases c;exact m
  cases c
 rw[QbU a]at c;split at c;·cases c;exact o
 cases c
theorem HSpec.frameM{f b g i:Nat}{args:List AV}{xs ys:List (AV×AV)}{v:AV}{h:Heap}(n:HSpec P f args (hp [(b,.map g xs)]) v (hp [(b,.map i ys)]))(p:OnlyD (fun k=>k=b) args)(l:OnlyD (fun k=>k=b) [v])(m:∀e∈xs,noRef e.1=true/\noRef e.2=true)(o:∀e∈ys,noRef e.1=true/\noRef e.2=true)(q:h.get b=some (.map g xs))(d:Nat.blt b 1099511627775=true):HSpec P f args h v (h.set b (.map i ys)):=by
 have a:b<1099511627775:=by simp_all
 refine HSpec.frame (fun k=>k=b) n p l (fun k=>?_) (fun k c=>?_) (fun k=>?_) (fun k x c=>?_) (fun k x c=>?_);·rw[QbU a];simp_all
 ·simp_all[QbU]
 ·rw[QbU a];by_cases e:k=b;·subst e;rw[if_pos rfl,if_pos rfl,Qay a]
  simp_all[QaE]
 ·rw[QbU a]at c;split at c;·cases c;exact m
  cases c
 rw[QbU a]at c;split at c;·cases c;exact o
 cases c
theorem HSpec.frameB{f a l b g q:Nat}{args us xs ys:List AV}{v:AV}{h:Heap}(w:HSpec P f args (hp [(a,.cells l us),(b,.cells g xs)]) v (hp [(a,.cells l us),(b,.cells q ys)]))(t:OnlyD (fun k=>k=a\/k=b) args)(r:OnlyD (fun k=>k=a\/k=b) [v])(hu:noRefs us=true)(s:noRefs xs=true)(y:noRefs ys=true)(n:h.get a=some (.cells l us))(z:h.get b=some (.cells g xs))(o:a≠b)(m:Nat.blt a 1099511627775=true)(p:Nat.blt b 1099511627775=true):HSpec P f args h v (h.set b (.cells q ys)):=by
 have i:a<1099511627775:=by simp_all
 have d:b<1099511627775:=by simp_all
 refine HSpec.frame (fun k=>k=a\/k=b) w t r (fun k=>?_) (fun k c=>?_) (fun k=>?_) (fun k x c=>?_) (fun k x c=>?_);·rw[QeK i d];grind
 ·simp_all[QeK]
 ·rw[QeK i d];by_cases e:k=a;·subst e;rw[if_pos rfl,if_pos (.inl rfl),QaE d o,n]
  rw[if_neg e];by_cases u:k=b;·subst u;rw[if_pos rfl,if_pos (.inr rfl),Qay d]
  simp_all[QaE]
 ·rw[QeK i d]at c;split at c;·cases c;exact hu
  split at c;·cases c;exact s
  cases c
 rw[QeK i d]at c;split at c;·cases c;exact hu
 split at c;·cases c;exact y
 cases c
theorem HSpec.Qnq{f m:Nat}{sf:SFn}{args:List AV}{L0 L:HL}{v:AV}(n:Nat)(d:okFn P f sf=true)(o:Nat.ble args.length sf.n=true)(hm:(Nat.ble m 1099511627775&&L0.all fun p=>Nat.blt p.1 m)=true)(hw:wS P ⟨sf.n,m⟩ sf.body [] n (argT 0 args) (hp L0) fun e T k _=>(e=.normal\/e=.ret)/\∃vs,resV T k sf.res=some vs/\Rec m [(0,v)] L [(0,resOf vs)] k):HSpec P f args (hp L0) v (hp L):=by
 simp only[Zab,Nat.ble_eq]at hm;refine HSpec.of_W2 d (Zar o) (fun b a=>?_) ((wpC.toW hw).mono ?_)
 ·have :∀M:HL,M.all (fun p=>Nat.blt p.1 m)=true->(hp M).get b=none:=by intro M;induction M with|nil=>intro _;exact get_e|cons q M h=>obtain⟨j,x⟩:=q;intro l;simp only[ZbV,Zab,Nat.blt,Nat.ble_eq]at l;rw[QaQ,QaE (by omega) (by omega)];exact h (by grind[Nat.blt])
  grind
 rintro e B⟨r,h1,vs,g,s,ho,c,a,i⟩;exact⟨h1,vs,_,g,Rec.maps ho a,Rec.heap ho a,Rec.dom ho c,i 0⟩
end Go.AM
namespace Go.AM.SU
open Go.Proofs Go.AM.SD Go.AM.SE
theorem _root_.Go.AM.ZcC{p q:Prop}(k:q)(h:p=q:=by conv=>lhs;simp(disch:=first|omega|exact PairsOK.mk rfl|(simp only[lenW]<;>omega))only[Zai,wW,wV,simprocAttr]):p:=h▸k
theorem _root_.Go.AM.ZcD{p q A:Prop}(a:A)(k:q)(h:A->p=q:=by intro a;conv=>lhs;simp(disch:=first|omega|exact PairsOK.mk rfl|(simp only[lenW]<;>omega))only[a,Zai,wW,wV,simprocAttr]):p:=h a▸k
theorem not92(A:List Nat)(x:Nat)(hA:A.length<=1000000):PSpec Tryz.prog 92 [.int .i64 (x:Int),.fptr [sliN A]] (.bool (!decide (x∈A))):=by
 refine Zcc 64 ok92 rfl (by simp only[noRefs,noRef,Qab];rfl) rfl ?_;have h:=contains62 (nz A) x (by simp;omega);have e:decide ((x:Int)∈nz A)=decide (x∈A):=by
  refine decide_eq_decide.2 ⟨fun h=>?_,fun h=>Zao.2 ⟨x,h,rfl⟩⟩;obtain⟨a,h1,b⟩:=Zao.1 h;have:a=x:=by omega
  exact this▸h1
 rw[e,QbF]at h;unfold s92;refine ZcC ?_;refine cp h ?_;refine ZcC ?_;exact⟨.inr trivial,_,rfl,rfl⟩
def fstN(A l:List Nat):Int:=if l.all (fun x=>decide (x∈A))then-1 else(l.findIdx (fun x=>!decide (x∈A)):Int)
theorem cpc{P:Program}{N:NM}{r:List SOper}{dead:List Nat}{fs:List Fr}{n:Nat}{T:Tmps}{h:Heap}{Q:QC}{d:Option Nat}{f:Nat}{args a c:List AV}{v:AV}(hp:PSpec P f (a++args++c) v)(k:wR P N r dead fs (n+1) (putD T d v) h Q):wCall P N .heap (.fn f a c) args d r dead fs n T h Q:=⟨v,h,hp.toH h,k⟩
theorem chc{P:Program}{N:NM}{r:List SOper}{dead:List Nat}{fs:List Fr}{n:Nat}{T:Tmps}{h h1:Heap}{Q:QC}{d:Option Nat}{f:Nat}{args a c:List AV}{v:AV}(hp:HSpec P f (a++args++c) h v h1)(k:wR P N r dead fs (n+1) (putD T d v) h1 Q):wCall P N .heap (.fn f a c) args d r dead fs n T h Q:=⟨v,h1,hp,k⟩
theorem _root_.Go.AM.au7{p:Prop}(h:p:=by repeat'(first|exact Zci|(refine Zca ?_;first|rfl|(simp only[noRef,noRefs,Qag,Zad,Zac,Zah,Qab,Qan,Qaa];done))|exact Zct rfl|exact Zco|exact(True.intro:RnM _ _ _ [] [])|refine Zcp ?_ ?_|(refine Zb9 ?_;first|rfl|(simp only[noRef,noRefs,Qag,Zad,Zac,Zah,Qab,Qan,Qaa];done))|exact Rn.x1 rfl rfl|exact Rn.x2 rfl rfl|exact Rn.x3 rfl rfl|exact Rn.x4 rfl rfl|exact Rn.x5 rfl|exact Rn.x6 rfl|exact Rn.x7 rfl|refine Zck rfl rfl ?_|refine Zcj rfl rfl rfl ?_ ?_|refine Zcl rfl rfl rfl ?_ ?_|refine Zcm rfl rfl ?_ ?_|refine Zcn rfl rfl ?_ ?_)):p:=h
theorem _root_.Go.AM.au8{p:Prop}(h:p:=by repeat(first|exact Zcg|(refine Zch ?_ ?_;·(first|exact Rn.any|exact Rn.x1 rfl rfl|exact Rn.x2 rfl rfl|exact Rn.x3 rfl rfl|exact Rn.x4 rfl rfl|exact Rn.x5 rfl|exact Rn.x6 rfl|exact Rn.x7 rfl|(refine Rn.slot ?_ ?_;(first|rfl|(rw[ZaO];rfl));(first|rfl|(simp only[noRef,noRefs,Qag,Zad,Zac,Zah,Qab,Qan,Qaa];done)))|(refine Rn.fn ?_ ?_<;>(repeat'(first|exact Zco|refine Zcp ?_ ?_|exact Zb9 rfl|exact Rn.x6 rfl|exact Rn.x2 rfl rfl|exact Rn.x5 rfl|exact Rn.x1 rfl rfl))))))):p:=h
theorem index110(A l:List Nat)(hA:A.length<=1000000)(o:l.length<=1000000):PSpec Tryz.prog 110 [sliN l,.fn 92 [] [.fptr [sliN A]]] (.int .i64 (fstN A l)):=by
 refine Zcc 64 ok110 rfl (by simp only[noRefs,noRef,Qab];rfl) rfl ?_;unfold s110;refine ZcC ?_;refine QaO 100 (fun i:Nat=>[(0,sliN l),(1,.fn 92 [] [.fptr [sliN A]]),(7,.int .i64 l.length),(8,.int .i64 i)]) (fun _=>[]) (fun i=>i<=l.length/\∀(j:Nat)y,j<i->l[j]?=some y->y∈A) (fun i=>l.length-i) 0 ⟨[],rfl,au0,au7,au8⟩ ⟨Zaj _,fun j y c=>absurd c (ZaF _)⟩ ?_;rintro i⟨hi,g⟩;by_cases a:i<l.length
 ·obtain⟨x,b⟩:=Qaq a;have f:=not92 A x hA;by_cases d:x∈A
  ·have e:(!decide (x∈A))=false:=by simp[d]
   rw[e]at f;refine ZcD (ZcI a (QaF b)) ?_;refine cpc f ?_;refine ZcC ?_;refine⟨i+1,by omega,⟨by omega,fun j y c m=>?_⟩,⟨[],rfl,au0,au7,au8⟩⟩;by_cases e:j=i;·subst e;rw[b]at m;cases m;exact d
   exact g j y (by omega) m
  have e:(!decide (x∈A))=true:=by simp[d]
  rw[e]at f;refine ZcD (ZcI a (QaF b)) ?_;refine cpc f ?_;refine ZcC ?_;refine⟨.inr trivial,_,rfl,?_⟩;have h1:¬l.all (fun x=>decide (x∈A))=true:=by intro h;exact d (by simpa using ZaD.1 h x (Zae b))
  have n:l.findIdx (fun x=>!decide (x∈A))=i:=by rw[List.findIdx_eq a];refine⟨by rw[Zal a]at b;cases b;simp[d],fun j c=>?_⟩;have:=g j l[j] c (Zal (by omega));simpa using this
  unfold fstN;rw[if_neg h1,n];rfl
 have h1:l.all (fun x=>decide (x∈A))=true:=by rw[ZaD];intro x b;obtain⟨j,c,k⟩:=Zbf b;simpa using g j x (by omega) (by rw[Zal c,k])
 refine ZcD a ?_;refine⟨.inr trivial,_,rfl,?_⟩;unfold fstN;rw[if_pos h1];rfl
theorem Qez{cs vs:List AV}{off:Nat}(h:off<cs.length):putR cs off vs=cs.take off++vs++cs.drop (off+vs.length):=by
 unfold putR;split;·rename_i v;rw[List.set_eq_take_append_cons_drop,if_pos h];simp
 rfl
theorem QlG{P:Program}{N:NM}{d:Option Nat}{r:List SOper}{dead:List Nat}{fs:List Fr}{n:Nat}{T:Tmps}{h:Heap}{Q:QC}{b g off len sz:Nat}{cs zero:List AV}(i:h.get b=some (.cells g cs))(p:0<len)(o:off+len*sz<=cs.length)(f:zero.length=sz)(ho:zero.all AV.one=true)(c:b<lim)(m:wR P N r dead fs (n+1) (putD T d .any) (h.set b (.cells g (putR cs off (List.replicate len zero).flatten))) Q):wM P N (aClear sz zero (.sl b g off len sz)) d r dead fs n T h Q:=by
 obtain⟨k,rfl⟩:∃k,len=k+1:=⟨len-1,by omega⟩;refine⟨_,_,?_,m⟩;have l:Nat.beq g g=true:=by simp
 have a:Nat.blt b lim=true:=by simpa using c
 simp only[aClear,if_true,HM.cells,HM.run,i,l,cond_true];rw[if_pos ⟨o,f,ho⟩];simp only[HM.run,a,cond_true]
def fltN(A l:List Nat):List Nat:=l.filter fun x=>decide (x∈A)
theorem QlH{A l:List Nat}{j v:Nat}(h:l[j]?=some v):fltN A (l.take (j+1))=if v∈A then fltN A (l.take j)++[v]else fltN A (l.take j):=by unfold fltN;rw[ZaT,h,Option.toList,Zbm];by_cases a:v∈A<;>simp[a]
def delL(A l:List Nat):List Nat:=fltN A l++List.replicate (l.length-(fltN A l).length) 0
theorem QrQ{A l:List Nat}(h:l.all (fun x=>decide (x∈A))=true):fltN A l=l:=by unfold fltN;exact ZbN.2 fun x a=>ZaD.1 h x a
theorem QqR{k:Nat}:(List.replicate k [AV.int .i64 0]).flatten=ints (nz (List.replicate k 0)):=by induction k with|zero=>rfl|succ k a=>rw[Za6,Zbv,a];rfl
theorem Qpw{l:List Nat}{i:Nat}:(ints (nz l)).take i=ints (nz (l.take i)):=by simp[ints,nz,List.map_take]
theorem Qnr{l:List Nat}{i x:Nat}(h:l[i]?=some x):(ints (nz l))[i]?=some (.int .i64 (x:Int)):=by simp[ints,h]
theorem del40(A l:List Nat)(hA:A.length<=1000000)(O:l.length<=1000000):HSpec Tryz.prog 40 [.sl 98 0 0 l.length 1,.fn 92 [] [.ptr 75 0 0]] (hp [(75,.cells 0 [sliN A]),(98,.cells 0 (ints (nz l)))]) (.sl 98 0 0 (fltN A l).length 1) (hp [(75,.cells 0 [sliN A]),(98,.cells 0 (ints (nz (delL A l))))]):=by
 refine HSpec.Qnq (m:=99) 100 ok40 rfl rfl ?_;have M:(ints (nz l)).length=l.length*1:=by simp[ints]
 unfold s40;refine ZcC ?_;refine chc (Zcs (Zcv (FrzTo.all gg M) (Zcv (FrzTo.fn Zcu (Zcv (FrzTo.ptr (g:=0) (cs:=[sliN A]) gg (Zcv (Zcd _) Zcu)) Zcu)) Zcu)) (index110 A l hA O) rfl) ?_;by_cases a:l.all (fun x=>decide (x∈A))=true;·have y:fstN A l=-1:=if_pos a;refine ZcD y ?_;refine⟨.inr trivial,_,rfl,?_⟩;unfold delL;rw[QrQ a,Nat.sub_self,List.replicate_zero,Zap];exact⟨[(75,.nil),(98,.nil)],rfl,au0,au7,au8⟩
 have y:fstN A l=(l.findIdx (fun x=>!decide (x∈A)):Int):=if_neg a;have hex:∃x∈l,(!decide (x∈A))=true:=by have:¬∀x∈l,decide (x∈A)=true:=fun h=>a (ZaD.2 h);obtain⟨x,r⟩:=Classical.not_forall.1 this;obtain⟨r,P⟩:=Classical.not_imp.1 r;exact⟨x,r,by simpa using P⟩
 have k:l.findIdx (fun x=>!decide (x∈A))<l.length:=Zbk hex;obtain⟨c,E⟩:∃c,c=l.findIdx (fun x=>!decide (x∈A)):=⟨_,rfl⟩;rw[<-E]at y k;have K:l[c]∉A:=by have:=List.findIdx_getElem (w:=by rw[<-E];exact k) (xs:=l) (p:=fun x=>!decide (x∈A));simp only[<-E]at this;simpa using this
 have q:fltN A (l.take c)=l.take c:=by unfold fltN;refine ZbN.2 fun x r=>?_;obtain⟨j,H,rfl⟩:=Zbf r;rw[Zas]at H;have:=List.not_of_lt_findIdx (xs:=l) (p:=fun x=>!decide (x∈A)) (i:=j) (by rw[<-E];omega);rw[List.getElem_take];simpa using this
 have G:fltN A (l.take (c+1))=l.take c:=by rw[QlH (Zal k),if_neg K,q]
 have F:¬(c:Int)=-1:=by omega
 refine ZcD (ZcI y F) ?_;refine QaO 110 (fun t:Nat×Nat×List Nat=>[(0,.sl 98 0 0 l.length 1),(1,.fn 92 [] [.ptr 75 0 0]),(5,.int .i64 t.2.1),(6,.int .i64 t.1)]) (fun t=>[(75,.cells 0 [sliN A]),(98,.cells 0 (ints (nz t.2.2)))]) (fun t=>t.1<=l.length/\t.2.1<t.1/\t.2.2.length=l.length/\t.2.2.take t.2.1=fltN A (l.take t.1)/\t.2.2.drop t.1=l.drop t.1) (fun t=>l.length-t.1) (c+1,c,l) ⟨[(75,.nil),(98,.nil)],rfl,au0,au7,au8⟩ ⟨by dsimp only;omega,by dsimp only;omega,rfl,G.symm,rfl⟩ ?_;rintro⟨j,i,C⟩⟨H,I,b,m,B⟩;dsimp only at H I b m B⊢;by_cases d:j<l.length
 ·obtain⟨v,L⟩:=Qaq d;have w:C[j]?=some v:=by
   have:(C.drop j)[0]?=(l.drop j)[0]?:=by rw[B]
   simpa[L]using this
  have z:=QlH (A:=A) L;have f:=not92 A v hA;by_cases hm:v∈A
  ·have J:(!decide (v∈A))=false:=by simp[hm]
   rw[J]at f;rw[if_pos hm]at z;refine ZcD (ZcJ d b (Qnr w)) ?_;refine chc (Zcs (Zcv (Zcd _) (Zcv (FrzTo.ptr (g:=0) (cs:=[sliN A]) gg (Zcv (Zcd _) Zcu)) Zcu)) f rfl) ?_;have g:i<l.length:=by omega
   have p:(ints (nz C)).set i (.int .i64 (v:Int))=ints (nz (C.set i v)):=by simp[ints,nz,List.map_set]
   have s:i+1<=(ints (nz C)).length:=by simp[ints,b];omega
   have n:i+1<=l.length:=by omega
   refine ZcD (ZcL g b p s n) ?_;refine⟨(j+1,i+1,C.set i v),by dsimp only;omega,⟨by dsimp only;omega,by dsimp only;omega,by simp[b],?_,?_⟩,?_⟩;·dsimp only;rw[z,<-m,ZaT,List.getElem?_set_self (by omega),List.take_set,List.set_eq_of_length_le (by rw[Zas];omega)];rfl
   ·dsimp only;rw[List.drop_set_of_lt (by omega)];have:=congrArg (List.drop 1) B;simpa[ZaQ]using this
   exact⟨[(75,.nil),(98,.nil)],rfl,au0,au7,au8⟩
  have J:(!decide (v∈A))=true:=by simp[hm]
  rw[J]at f;rw[if_neg hm]at z;refine ZcD (ZcJ d b (Qnr w)) ?_;refine chc (Zcs (Zcv (Zcd _) (Zcv (FrzTo.ptr (g:=0) (cs:=[sliN A]) gg (Zcv (Zcd _) Zcu)) Zcu)) f rfl) ?_;refine ZcC ?_;refine⟨(j+1,i,C),by dsimp only;omega,⟨by dsimp only;omega,by dsimp only;omega,b,by rw[z];exact m,?_⟩,?_⟩;·dsimp only;have:=congrArg (List.drop 1) B;simpa[ZaQ]using this
  exact⟨[(75,.nil),(98,.nil)],rfl,au0,au7,au8⟩
 have N:j=l.length:=by omega
 subst N;rw[Zau]at m;have g:(i:Int)<=(l.length:Int):=by omega
 refine ZcD (ZcI d g) ?_;refine QlG gg (by omega) (by simp[ints,b];omega) rfl rfl (by decide) ?_;refine ZcD g ?_;refine⟨.inr trivial,_,rfl,?_⟩;have o:(fltN A l).length=i:=by rw[<-m,Zas];omega
 have u:putR (ints (nz C)) i (List.replicate (l.length-i) [AV.int .i64 0]).flatten=ints (nz (delL A l)):=by rw[Qez (by simp[ints,b];omega),QqR,Qpw,m];unfold delL;rw[o,QaH,QaA,List.drop_of_length_le (by simp[ints,b];omega),Zap]
 rw[o,u];exact⟨[(75,.nil),(98,.nil)],rfl,au0,au7,au8⟩
end Go.AM.SU
namespace Go.AM.SO
open Go.Proofs
set_option maxHeartbeats 4000000
noncomputable section
def cf:YA.Cf:={most:=.pure,always:=[83].map fun k=>(k,.heap),value:=.pure}
def s21:SFn:=by
 refine(?f:YA.Yt Tryz.prog cf 21 [[0,2],[15,16,17],[18],[1,3,19,20],[2,3,19,21,22,23],[25,26],[1,4,24],[4,24,28,29,30,31,32,33,34,35,36,37],[1,27],[2,27,38],[],[39,40],[],[43,44],[8,45,46,47,48],[49],[41,42,50],[],[54,55,56],[57,58,59,60,61,62,63],[64],[1,5,6,7,51,52,53,10,11,65,66],[2,10,11,65,67,68,69,70,71],[72],[6,51,52,53,73],[],[77,78,79],[13,80,81,82,83,84,85,86],[87],[1,5,7,74,75,76,14,88,89],[2,14,88,90],[1,5,7,74,75,76,91,92,93]]) ?s ?h;case h=>exact YA.rr
 exact fun s _=>s
def s25:SFn:=by
 refine(?f:YA.Yt Tryz.prog cf 25 [[0,2],[1,3,4,5,6]]) ?s ?h;case h=>exact YA.rr
 exact fun s _=>s
def s36:SFn:=by
 refine(?f:YA.Yt Tryz.prog cf 36 [[4],[0,1,5,6,7,8]]) ?s ?h;case h=>exact YA.rr
 exact fun s _=>s
def s60:SFn:=by
 refine(?f:YA.Yt Tryz.prog cf 60 [[0,2],[1,3,4,5,6,7,8,9,10,11]]) ?s ?h;case h=>exact YA.rr
 exact fun s _=>s
def s82:SFn:=by
 refine(?f:YA.Yt Tryz.prog cf 82 [[2],[6,7],[0,8],[2,8,9],[0],[],[13,14,15],[17,18,19,20],[3,10,11,12,45,42,44,43,41,40,33,32,31,5,16],[16,22,23,24,25],[3,10,11,12,45,42,44,43,41,40,33,32,31,5,21],[21,27,28,29,30,34],[3,10,11,12,45,42,44,43,41,40,33,32,31,5,26],[26,36,37,38,39,46],[3,10,11,12,45,42,44,43,41,40,33,32,31,5,35],[2,5,35,47,48,49],[50],[3,10,11,12,45,42,44,43,41,40,33,32,31]]) ?s ?h;case h=>exact YA.rr
 exact fun s _=>s
def s84:SFn:=by
 refine(?f:YA.Yt Tryz.prog cf 84 [[4],[0,1,5,6,7]]) ?s ?h;case h=>exact YA.rr
 exact fun s _=>s
def s85:SFn:=by
 refine(?f:YA.Yt Tryz.prog cf 85 [[0],[10],[11],[],[15,16,17],[5,18,19,20,21,22,23,24,25],[26],[12,13,14,27],[],[31,32,33],[7,34,35,36,37,38,39,40,41,42,43,44],[45],[1,28,29,30,46],[],[50,51,52],[9,53,54,55,56,57,58,59,60,61,62,63,64,65],[66],[3,47,48,49,67]]) ?s ?h;case h=>exact YA.rr
 exact fun s _=>s
def s88:SFn:=by
 refine(?f:YA.Yt Tryz.prog cf 88 [[0,2],[],[],[6],[7,10,11,12,13,14,15],[16,17,18,19,20],[25,26,27,28,29,30,31],[25,32,33,34,35,36,37,38,39,40,41,42,43,44,45,46,47,48,49],[5,50,51,52,53],[8,9],[1,3,4,24,23,22,21,54]] [(3,[(7,16),(12,16),(12,18)])]) ?s ?h;case h=>exact YA.rr
 exact fun s _=>s
def s103:SFn:=by
 refine(?f:YA.Yt Tryz.prog cf 103 [[0,1,4],[7,8,9],[2,3,10],[4,10,11],[],[15,16,17,18],[20,21,22,23,30],[2,3,12,13,14,59,52,58,57,54,56,55,53,51,44,36,43,42,41,38,40,39,37,35,29,25,28,27,26,24,6,5,19],[5,19,32,33,34,45],[2,3,12,13,14,59,52,58,57,54,56,55,53,51,44,36,43,42,41,38,40,39,37,35,29,25,28,27,26,24,6,31],[6,31,47,48,49,50,60],[2,3,12,13,14,59,52,58,57,54,56,55,53,51,44,36,43,42,41,38,40,39,37,35,29,25,28,27,26,24,46],[4,46,61],[2,3,12,13,14,59,52,58,57,54,56,55,53,51,44,36,43,42,41,38,40,39,37,35,29,25,28,27,26,24]]) ?s ?h;case h=>exact YA.rr
 exact fun s _=>s
def s105:SFn:=by
 refine(?f:YA.Yt Tryz.prog cf 105 [[0,1,4],[7,8,9],[2,3,10],[4,10,11],[],[15,16,17,18],[20,21,22,23,30],[2,3,12,13,14,53,52,51,44,36,43,42,41,38,40,39,37,35,29,25,28,27,26,24,6,5,19],[5,19,32,33,34,45],[2,3,12,13,14,53,52,51,44,36,43,42,41,38,40,39,37,35,29,25,28,27,26,24,6,31],[6,31,47,48,49,50,54],[2,3,12,13,14,53,52,51,44,36,43,42,41,38,40,39,37,35,29,25,28,27,26,24,46],[4,46,55],[2,3,12,13,14,53,52,51,44,36,43,42,41,38,40,39,37,35,29,25,28,27,26,24,56,57],[58],[58]]) ?s ?h;case h=>exact YA.rr
 exact fun s _=>s
def s110:SFn:=by
 refine(?f:YA.Yt Tryz.prog cf 110 [[4],[6],[],[9,10],[11,12,13,14,15],[0,1,7,8,5,16,17],[4,5,16,18],[0,1,7,8]]) ?s ?h;case h=>exact YA.rr
 exact fun s _=>s
def s148:SFn:=by
 refine(?f:YA.Yt Tryz.prog cf 148 [[2],[3],[0,4],[0,4,5,6,7]]) ?s ?h;case h=>exact YA.rr
 exact fun s _=>s
def s149:SFn:=by
 refine(?f:YA.Yt Tryz.prog cf 149 [[2],[3],[0,4],[0,4,5,6,7]]) ?s ?h;case h=>exact YA.rr
 exact fun s _=>s
def s166:SFn:=by
 refine(?f:YA.Yt Tryz.prog cf 166 [[3],[0,1,4,5,6]]) ?s ?h;case h=>exact YA.rr
 exact fun s _=>s
def s167:SFn:=by
 refine(?f:YA.Yt Tryz.prog cf 167 [[4],[0,1,5,6,7,8,9]]) ?s ?h;case h=>exact YA.rr
 exact fun s _=>s
def s168:SFn:=by
 refine(?f:YA.Yt Tryz.prog cf 168 [[6],[],[11,12,13,14],[18,19,20,21,22,35],[36,37,38,39,52],[],[],[53,54,55,56,57,58],[53],[59,60,61,62,63,64],[8,9,59,65,66,67],[10,68,69,70,71,72],[0,1,2,7,51,43,50,46,49,48,47,45,44,42,41,40,34,26,33,29,32,31,30,28,27,25,24,23,17,16,15,73]]) ?s ?h;case h=>exact YA.rr
 exact fun s _=>s
def s169:SFn:=by
 refine(?f:YA.Yt Tryz.prog cf 169 [[4],[0,1,5,6,7,8]]) ?s ?h;case h=>exact YA.rr
 exact fun s _=>s
def s190:SFn:=by
 refine(?f:YA.Yt Tryz.prog cf 190 [[2],[0,3,4,5,6,7,8]]) ?s ?h;case h=>exact YA.rr
 exact fun s _=>s
def s219:SFn:=by
 refine(?f:YA.Yt Tryz.prog cf 219 [[4],[0,1,5,6,7]]) ?s ?h;case h=>exact YA.rr
 exact fun s _=>s
def s242:SFn:=by
 refine(?f:YA.Yt Tryz.prog cf 242 [[4],[0,1,5,6,7,8,9]]) ?s ?h;case h=>exact YA.rr
 exact fun s _=>s
theorem ok21:okFn Tryz.prog 21 s21=true:=by kernel_rfl
theorem ok25:okFn Tryz.prog 25 s25=true:=by kernel_rfl
theorem ok36:okFn Tryz.prog 36 s36=true:=by kernel_rfl
theorem ok60:okFn Tryz.prog 60 s60=true:=by kernel_rfl
theorem ok82:okFn Tryz.prog 82 s82=true:=by kernel_rfl
theorem ok84:okFn Tryz.prog 84 s84=true:=by kernel_rfl
theorem ok85:okFn Tryz.prog 85 s85=true:=by kernel_rfl
theorem ok88:okFn Tryz.prog 88 s88=true:=by kernel_rfl
theorem ok103:okFn Tryz.prog 103 s103=true:=by kernel_rfl
theorem ok105:okFn Tryz.prog 105 s105=true:=by kernel_rfl
theorem ok110:okFn Tryz.prog 110 s110=true:=by kernel_rfl
theorem ok148:okFn Tryz.prog 148 s148=true:=by kernel_rfl
theorem ok149:okFn Tryz.prog 149 s149=true:=by kernel_rfl
theorem ok166:okFn Tryz.prog 166 s166=true:=by kernel_rfl
theorem ok167:okFn Tryz.prog 167 s167=true:=by kernel_rfl
theorem ok168:okFn Tryz.prog 168 s168=true:=by kernel_rfl
theorem ok169:okFn Tryz.prog 169 s169=true:=by kernel_rfl
theorem ok190:okFn Tryz.prog 190 s190=true:=by kernel_rfl
theorem ok219:okFn Tryz.prog 219 s219=true:=by kernel_rfl
theorem ok242:okFn Tryz.prog 242 s242=true:=by kernel_rfl
end
end Go.AM.SO
namespace Go.AM.SD
def stR(l:List Rm)(k:Nat):Nat:=(l.getD k (rm0 0)).st
def sw(l:List Rm)(j:Nat):List Rm:=(l.set (j+1) (l.getD j (rm0 0))).set j (l.getD (j+1) (rm0 0))
def insJ:Nat->List Rm->List Rm|0,l=>l|j+1,l=>if stR l (j+1)<stR l j then insJ j (sw l j)else l
def isort(l:List Rm):Nat->List Rm|0=>l|i+1=>insJ (i+1) (isort l i)
theorem QlI{l:List Rm}{j:Nat}:(sw l j).length=l.length:=by simp[sw]
theorem QlJ:∀(j:Nat)(l:List Rm),(insJ j l).length=l.length
 |0,l=>rfl|j+1,l=>by
  simp only[insJ];split;·rw[QlJ j,QlI]
  rfl
theorem Qci(l:List Rm):∀i,(isort l i).length=l.length|0=>rfl|i+1=>by rw[isort,QlJ,Qci l i]
theorem Qij{l:List Rm}{j k:Nat}(b:j+1<l.length):stR (sw l j) k=if k=j then stR l (j+1)else if k=j+1 then stR l j else stR l k:=by
 unfold stR sw;simp only[Zak,List.getElem?_set,List.length_set];by_cases h1:k=j;·subst h1;rw[if_pos rfl,if_pos rfl,if_pos (by omega)];rfl
 rw[if_neg (fun e=>h1 e.symm),if_neg h1];by_cases a:k=j+1;·subst a;rw[if_pos rfl,if_pos rfl,if_pos b];rfl
 rw[if_neg (fun e=>a e.symm),if_neg a]
theorem QrR{l:List Rm}{j:Nat}(a:j+1<l.length):(sw l j).Perm l:=by
 have h1:l.getD j (rm0 0)=l[j]:=by simp[show j<l.length by omega]
 have b:l.getD (j+1) (rm0 0)=l[j+1]:=by simp[a]
 unfold sw;rw[h1,b];exact List.set_set_perm (i:=j+1) (j:=j) a (by omega)
theorem QjX:∀(j:Nat)(l:List Rm),j<l.length->(insJ j l).Perm l
 |0,l,_=>List.Perm.refl _|j+1,l,h=>by
  simp only[insJ];split;·exact(QjX j (sw l j) (by rw[QlI];omega)).trans (QrR h)
  exact List.Perm.refl _
theorem Qik(l:List Rm):∀i,i<l.length\/i=0->(isort l i).Perm l|0,_=>List.Perm.refl _|i+1,h=>by rw[isort];exact(QjX (i+1) _ (by rw[Qci];omega)).trans (Qik l i (by omega))
def SrtTo(l:List Rm)(i:Nat):Prop:=∀p q,p<q->q<=i->stR l p<=stR l q
theorem QlK:∀(j i:Nat)(l:List Rm),j<=i->i<l.length->(∀p q,p<q->q<=i->p≠j->q≠j->stR l p<=stR l q)->(∀q,j<q->q<=i->stR l j<=stR l q)->SrtTo (insJ j l) i
 |0,i,l,m,hi,h1,f=>fun p q a b=>by
  rw[insJ];by_cases e:p=0;·subst e;exact f q a b
  exact h1 p q a b e (by omega)|j+1,i,l,m,hi,h1,f=>by
  rw[insJ];split
  ·rename_i n;refine QlK j i (sw l j) (by omega) (by rw[QlI];exact hi) (fun p q a b hp h=>?_) (fun q b g=>?_)
   ·rw[Qij (by omega),Qij (by omega),if_neg hp,if_neg h];by_cases d:p=j+1;·subst d;rw[if_pos rfl,if_neg (by omega)];exact h1 j q (by omega) b (by omega) (by omega)
    rw[if_neg d];by_cases c:q=j+1;·subst c;rw[if_pos rfl];exact h1 p j (by omega) (by omega) d (by omega)
    rw[if_neg c];exact h1 p q a b d c
   rw[Qij (by omega),Qij (by omega),if_pos rfl,if_neg (by omega)];by_cases e:q=j+1;·subst e;rw[if_pos rfl];omega
   rw[if_neg e];exact f q (by omega) g
  rename_i k;intro p q a b;by_cases d:q=j+1
  ·subst d;by_cases c:p=j;·subst c;omega
   have :=h1 p j (by omega) (by omega) (by omega) (by omega);omega
  by_cases c:p=j+1;·subst c;exact f q a b
  exact h1 p q a b c d
theorem QjY(l:List Rm):∀i,i<l.length->SrtTo (isort l i) i|0,_=>fun p q a c=>by omega|i+1,h=>by have d:=QjY l i (by omega);rw[isort];refine QlK (i+1) (i+1) _ (ZaJ _) (by rw[Qci];exact h) (fun p q a c hp b=>d p q a (by omega)) (fun q c b=>by omega)
theorem Qoe{l:List Rm}(h:0<l.length):(isort l (l.length-1)).Pairwise fun a b=>a.st<=b.st:=by rw[Za7];intro i j hi d c;rw[Qci]at hi d;have:=QjY l (l.length-1) (by omega) i j c (by omega);unfold stR at this;rw[Zak,Zak,Zal (by rw[Qci];exact hi),Zal (by rw[Qci];exact d)]at this;exact this
def srtR(l:List Rm):List Rm:=isort l (l.length-1)
theorem Qpx(l:List Rm):(srtR l).Perm l:=by unfold srtR;cases l with|nil=>exact List.Perm.refl _|cons a l=>exact Qik _ _ (by simp)
theorem Qpy(l:List Rm):(srtR l).Pairwise fun a b=>a.st<=b.st:=by unfold srtR;cases l with|nil=>exact List.Pairwise.nil|cons a l=>exact Qoe (by simp)
theorem QqS(l:List Rm):(srtR l).length=l.length:=Qci l _
end Go.AM.SD
namespace Go.AM.SE
open Go.Proofs Go.AM.SD
theorem Qof:aEq (.nil 2) false .nilsl .nilsl=some (.bool true):=rfl
theorem Qog:aEq (.nil 2) false .nsl .nilsl=some (.bool false):=rfl
theorem QmB{P:Program}{N:NM}{n:Nat}{d:Option Nat}{dead:List Nat}{r:List SOper}{T:Tmps}{h:Heap}{Q:QC}{fs:List Fr}{sz bytes b2 c b a:Nat}:wM P N (aAppend .dyn n sz bytes (.sl b2 c b a sz) .nsl) d r dead fs n T h Q=wA P N (srcB (h.get b2) c b a sz) (some []) c a 0 sz bytes b2 d r dead fs n T h Q:=Qex
theorem Qpz:HSpec Tryz.prog 41 [.nilsl] .e (.sl 83 0 0 0 1) (hp [(83,.cells 0 [])]):=by refine HSpec.QbN 100 ok41 rfl ?_;unfold s41;refine ZcF @Qof ?_;exact⟨.inr trivial,_,rfl,⟨[(83,.nil)],rfl,au0,au5,au6⟩⟩
theorem QpA:HSpec Tryz.prog 41 [.nsl] .e (.sl 83 0 0 0 1) (hp [(83,.cells 0 [])]):=by refine HSpec.QbN 100 ok41 rfl ?_;unfold s41;refine ZcF (ZcI @Qog @QmB) ?_;exact⟨.inr trivial,_,rfl,⟨[(83,.blk 103 1)],rfl,au0,au5,au6⟩⟩
theorem clone56(l:List Nat)(c:l.length<=1000000):HSpec Tryz.prog 41 [sliN l] .e (.sl 83 0 0 l.length 1) (hp [(83,.cells 0 (ints (nz l)))]):=by cases l with|nil=>exact HSpec.empty Qpz QpA|cons x l=>
 refine HSpec.QbN 100 ok41 rfl ?_;have b:aEq (.nil 2) false (sliN (x::l)) .nilsl=some (.bool false):=rfl;have a:(ints (nz (x::l))).all AV.one=true:=by simp[ints,AV.one]
 generalize x::l=q at*;unfold s41;refine ZcF (ZcI b a) ?_;exact⟨.inr trivial,_,rfl,⟨[(83,.blk 103 1)],rfl,au0,au5,au6⟩⟩
end Go.AM.SE
namespace Go.AM.SE
open Go.Proofs Go.AM.SD
abbrev frzE(es:List Ed)(left:Nat->Bool):Nat->AV:=fun k=>egsN (sOut es left k)
abbrev rowE(es:List Ed)(left:Nat->Bool):Nat->List AV:=fun k=>(sOut es left k).flatMap edC
abbrev ptrE(es:List Ed)(left:Nat->Bool):Nat->AV:=fun k=>.sl (300+k) 0 0 (sOut es left k).length 3
theorem Qas(es:List Ed)(left:Nat->Bool)(l:List Nat):noRefs (l.map (frzE es left))=true:=Qdp (fun x=>Qaj _) l
theorem QbH(l:List Ed):(l.flatMap edC).length=l.length*3:=Qbb (f:=edC) (k:=3) (fun _=>rfl) l
theorem QrS(l:List Ed):flatVs (l.flatMap edC)=true:=by induction l with|nil=>rfl|cons x l a=>rw[Zax];simp only[edC,ZaW,ZaR,flatVs,flatV,Zah];exact a
theorem QpB{es:List Ed}{left:Nat->Bool}{i:Nat}{e:Ed}(h:es[i]?=some e)(v:Nat):sOut (es.take (i+1)) left v=sOut (es.take i) left v++if e.1=v/\left e.2.2=true then[e]else[]:=by unfold sOut;rw[ZaT,h,Option.toList,Zbm];congr 1;by_cases h1:e.1=v<;>by_cases a:left e.2.2=true<;>simp[h1,a]
theorem Qed(es:List Ed)(left:Nat->Bool)(v:Nat):(sOut es left v).length<=es.length:=by unfold sOut;exact Za3 _ _
theorem repN(n:Nat):(List.replicate n [AV.nilsl]).flatten=(List.range n).map fun _=>AV.nilsl:=by rw[List.map_const',Zby];induction n with|zero=>rfl|succ n a=>rw[Za6,Zbv,a];rfl
theorem QqT{es:List Ed}{left:Nat->Bool}{n i:Nat}(h:i<n):((List.range n).map (frzE es left))[i]?=some (egsN (sOut es left i)):=QjW h
abbrev numF(o:List Nat):Nat->AV:=fun x=>.int .i64 (idx o x:Nat)
def mks(a:Aut)(i:Nat)(o:List Nat):List Nat:=(List.range i).filter fun j=>a.ms.contains (o.getD j 0)
theorem QiM{a:Aut}{i:Nat}{o:List Nat}:(mks a i o).length<=i:=by unfold mks;exact Zay (Za3 _ _) (by simp)
theorem Qns{a:Aut}{i:Nat}{o t:List Nat}(h:i<=o.length):mks a i (o++t)=mks a i o:=by unfold mks;refine Zbw fun j b=>?_;have:=Zat.1 b;rw[Zak,Zak,Zbh (by omega)]
theorem QhA{a:Aut}{i v:Nat}{o:List Nat}(h:o[i]?=some v):mks a (i+1) o=mks a i o++if a.ms.contains v then[i]else[]:=by
 unfold mks;rw[ZaI,Zbm];congr 1;have:o.getD i 0=v:=by rw[Zak,h];rfl
 rw[ZbC,this];rfl
theorem Qf5{i:Nat}{s:OE}{es:List Ed}{j:Nat}{e:Ed}(h:es[j]?=some e):(es.take (j+1)).foldl (sEd i) s=sEd i ((es.take j).foldl (sEd i) s) e:=by rw[ZaT,h,Option.toList,Za5];rfl
theorem Qcz{i:Nat}:∀(es:List Ed)(s:OE),(es.foldl (sEd i) s).2.length=s.2.length+es.length|[],s=>by simp|e::es,s=>by rw[ZaH,Qcz es];unfold sEd;split<;>simp<;>omega
abbrev ablk(a:Aut):List AV:=[.sl 83 0 0 a.al.length 1,.int .i64 0,.nilsl,.nilsl]
theorem _root_.Go.AM.au9{p:Prop}(h:p:=by repeat(first|exact Zcg|(refine Zch ?_ ?_;·(first|exact Rn.any|exact Rn.x1 rfl rfl|exact Rn.x2 rfl rfl|exact Rn.x3 rfl rfl|exact Rn.x4 rfl rfl|exact Rn.x5 rfl|exact Rn.x6 rfl|exact Rn.x7 rfl|(refine Rn.slot ?_ ?_;(first|rfl|(rw[ZaO];rfl));(first|rfl|(simp only[noRef,noRefs,Qag,Zad,Zac,Zah,Qab,Qai,Qaf,Qal,Qao,Qau,Qah,Qan,Qaa,Qap,Qaj,Qak,Qam,Qas];done)))|(refine Rn.fn ?_ ?_<;>(repeat'(first|exact Zco|refine Zcp ?_ ?_|exact Zb9 rfl|exact Rn.x6 rfl|exact Rn.x2 rfl rfl|exact Rn.x5 rfl|exact Rn.x1 rfl rfl))))))):p:=h
theorem _root_.Go.AM.au10{p:Prop}(h:p:=by repeat'(first|exact Zci|(refine Zca ?_;first|rfl|(simp only[noRef,noRefs,Qag,Zad,Zac,Zah,Qab,Qai,Qaf,Qal,Qao,Qau,Qah,Qan,Qaa,Qap,Qaj,Qak,Qam,Qas];done))|exact Zct rfl|exact Zco|exact(True.intro:RnM _ _ _ [] [])|refine Zcp ?_ ?_|(refine Zb9 ?_;first|rfl|(simp only[noRef,noRefs,Qag,Zad,Zac,Zah,Qab,Qai,Qaf,Qal,Qao,Qau,Qah,Qan,Qaa,Qap,Qaj,Qak,Qam,Qas];done))|exact Rn.x1 rfl rfl|exact Rn.x2 rfl rfl|exact Rn.x3 rfl rfl|exact Rn.x4 rfl rfl|exact Rn.x5 rfl|exact Rn.x6 rfl|exact Rn.x7 rfl|refine Zck rfl rfl ?_|refine Zcj rfl rfl rfl ?_ ?_|refine Zcl rfl rfl rfl ?_ ?_|refine Zcm rfl rfl ?_ ?_|refine Zcn rfl rfl ?_ ?_)):p:=h
theorem super54(a:Aut)(u:List Nat)(l:LB)(hw:WfA a)(hl:l.length=a.n)(hel:a.es.length<=1000000)(hul:u.length<=1000000):FSpec Tryz.prog 182 [pv a u l] (.tup [aV (restr a (lf l)),sliN (sAll a (lf l)).1]):=by
 have hn5:=hw.n5;have hal:a.al.length<=32:=QaT 32 a.al (by rw[ZaL];exact hw.al.imp fun h=>by omega) hw.al5;have hms:a.ms.length<=a.n:=QaT a.n a.ms hw.nd hw.msn;refine FSpec.of_wS 60 ok182 rfl (by(try simp only[noRefs,Qak,Qam,Qab,Qai,Qaf,Qal,Qao,Qah,noRef,Zad,Zac])<;>rfl) (by simp only[noRef,noRefs,Qab,Qaf];rfl) ?_;unfold s182;refine ZcE ?_;refine ch (HSpec.of_O (b:=83) (by(try simp only[noRefs,Qak,Qam,Qab,Qai,Qaf,Qal,Qao,Qah,noRef,Zad,Zac])<;>rfl) (clone56 a.al (by omega)) (by repeat(first|exact Fresh.e|exact Fresh.le (by assumption) (by omega)|refine Fresh.set ?_ (by omega) (by omega))) rfl) ?_;by_cases h0:a.n=0
 ·have e:sAll a (lf l)=([],[]):=by unfold sAll;rw[h0];rfl
  have h0':(a.n:Int)=0:=by omega
  refine ZcF h0' ?_;refine⟨.inr trivial,_,rfl,?_⟩;have hr:restr a (lf l)=⟨a.al,0,[],[]⟩:=by unfold restr;rw[e];rfl
  rw[hr,e];exact RnO.tup (Zcr (RnO.agg (Zcr (RnO.slm (g:=0) rfl rfl rfl (Qb0 _) (by simp[ints])) (Zcr (RnO.flat rfl) (Zcr RnO.nil (Zcr RnO.nil RnOL.nil))))) (Zcr RnO.nil RnOL.nil))
 have h0':¬(a.n:Int)=0:=by omega
 have h0n:(0:Int)<(a.n:Int):=by omega
 have h0l:0<l.length:=by omega
 have hh0:(bls l).head?=some (.bool (lf l 0)):=by have:=QaK h0l;simpa using this
 by_cases hl0:lf l 0=true
 ·have hn':(a.n:Int)<=140737488355328:=by omega
  have hn24:(24:Int)*(a.n:Int)<=140737488355328:=by omega
  refine ZcF (ZcN h0' h0n hh0 hl0 hn' hn24 @repN) ?_;have hrn:∀k∈List.range a.n,k<1000000:=fun k hk=>by have:=Zat.1 hk;omega
  refine Qat 100 (fun i:Nat=>[(0,pv a u l),(2,.ptr 60 0 0),(4,.ptr 69 0 0),(5,.sl 78 0 0 a.n 1),(48,egsN a.es),(49,.int .i64 a.es.length),(50,.int .i64 i)]) (fun i=>[(60,.cells 0 [.nilsl,.int .i64 0,.nilsl,.nilsl]),(69,.cells 0 (ablk a)),(83,.cells 0 (ints (nz a.al))),(78,.cells 0 ((List.range a.n).map (ptrE (a.es.take i) (lf l))))]++rowsL (rowE (a.es.take i) (lf l)) (List.range a.n)) (fun i=>i<=a.es.length) (fun i=>a.es.length-i) 0 0 160 (fun _:Unit=>[(0,pv a u l),(2,.ptr 60 0 0),(4,.ptr 69 0 0),(5,.sl 78 0 0 a.n 1)]) (fun _=>[(60,.cells 0 [.nilsl,.int .i64 0,.nilsl,.nilsl]),(69,.cells 0 (ablk a)),(83,.cells 0 (ints (nz a.al))),(78,.cells 0 ((List.range a.n).map (frzE a.es (lf l))))]) (fun _=>True) ?_ (Zaj _) ?_ ?_
  ·refine⟨[(60,.blk 60 0),(69,.blk 69 0),(83,.blk 83 0),(78,.blk 91 0)]++psL (fun _=>.nil) (List.range a.n),Qfb (Qdy Za0 hrn (fun _ _ _ _ _ b g b' g' h=>by cases h)) rfl (by decide) (fun _ _ _ _ _ _ _ b g h=>by cases h),Zcf,?_,au9⟩;refine Zcj rfl rfl rfl (Zca rfl) (Zcj rfl rfl rfl ?_ (Zcj rfl rfl rfl (Zca (Qab _)) (Zcj rfl rfl rfl (QeJ fun k hk=>Rn.x4 rfl (QeI hk (A:=[(60,.blk 60 0),(69,.blk 69 0),(83,.blk 83 0),(78,.blk 91 0)]) (by decide))) ?_)));·repeat'(first|exact Zci|(refine Zca ?_;first|rfl|(simp only[noRef,noRefs,Qag,Zad,Zac,Zah,Qab,Qai,Qaf,Qal,Qao,Qau,Qah,Qan,Qaa,Qap,Qaj,Qak,Qam,Qas];done))|exact Zct rfl|exact Zco|exact(True.intro:RnM _ _ _ [] [])|refine Zcp ?_ ?_|(refine Zb9 ?_;first|rfl|(simp only[noRef,noRefs,Qag,Zad,Zac,Zah,Qab,Qai,Qaf,Qal,Qao,Qau,Qah,Qan,Qaa,Qap,Qaj,Qak,Qam,Qas];done))|exact Rn.x1 rfl rfl|exact Rn.x2 rfl rfl|exact Rn.x3 rfl rfl|exact Rn.x4 rfl rfl|exact Rn.x5 rfl|exact Rn.x6 rfl|exact Rn.x7 rfl|refine Zck rfl rfl ?_|refine Zcj rfl rfl rfl ?_ ?_|refine Zcl rfl rfl rfl ?_ ?_|refine Zcm rfl rfl ?_ ?_|refine Zcn rfl rfl ?_ ?_)
   ·exact Qdg fun k hk=>Zck rfl (QeI hk (A:=[(60,.blk 60 0),(69,.blk 69 0),(83,.blk 83 0),(78,.blk 91 0)]) (by decide)) Zci
  ·rintro i hi;have hr0:∀b,b<300->(hp (rowsL (rowE (a.es.take i) (lf l)) (List.range a.n))).get b=none:=fun b hb=>Qe7 hrn fun k hk=>by omega
   by_cases hlt:i<a.es.length
   ·obtain⟨e,he⟩:=Qaq hlt;obtain⟨hfr,hto⟩:=hw.esn e (Zae he);have hroom:∀k:Nat,k<a.n->(hp (rowsL (rowE (a.es.take i) (lf l)) (List.range a.n))).get (300+k)=some (.cells 0 (rowE (a.es.take i) (lf l) k)):=fun k hk=>Qch Za0 hrn (Zat.2 hk);have hrow:=hroom e.1 hfr;have htl:e.2.2<l.length:=by omega
    have hstep:=QpB (left:=lf l) he;have hpl:=Qed (a.es.take i) (lf l) e.1;rw[Zas]at hpl;have hel2:=QbH (sOut (a.es.take i) (lf l) e.1);by_cases h1:lf l e.2.2=true
    ·refine ZcF (ZcO @ZaW @ZaR hlt (QaJ he) hr0 hto (QaK htl) h1) ?_;refine Qfa [(69,[300+e.1])] rfl ?_ ?_;·exact QdD (a:=[103]) (b:=[123,300+e.1,122]) rfl rfl (fun x hx=>by simp only[Zaw,ZbA,or_false]at hx⊢;omega) QjQ
     have hfr1:e.1+1<=a.n:=by omega
     simp(disch:=first|omega|exact PairsOK.mk rfl|(simp only[lenW]<;>omega))only[hr0,hfr,hrow,hel2,QjW hfr,Qpv hfr,Zby,hfr1,wW,wV,simprocAttr];refine⟨⟨⟨_,rfl,fun b hb=>hb⟩,trivial⟩,i+1,by omega,by omega,?_⟩;have hsb:∀k b g,(fun k=>if k=e.1 then Src.blk (300+e.1) 1 else Src.blk (300+k) 0) k=.blk b g->b=300+k:=by
      intro k b g h2;dsimp only at h2;split at h2<;>cases h2;·rename_i h3;rw[h3]
      ·rfl
     refine⟨[(60,.blk 60 0),(69,.blk 69 0),(83,.blk 83 0),(78,.blk 78 0)]++psL (fun k=>if k=e.1 then Src.blk (300+e.1) 1 else Src.blk (300+k) 0) (List.range a.n),Qfb (A:=[(60,.blk 60 0),(69,.blk 69 0),(83,.blk 83 0),(78,.blk 78 0)]) (L:=[(60,_),(69,_),(83,_),(78,_)]) (Qdy Za0 hrn (fun k hk j hj hkj b g b' g' h1 h2=>?_)) rfl (by decide) (fun p hp b g hb k hk b' g' h1=>?_),Zcf,?_,au9⟩;·have :=hsb k b g h1;have:=hsb j b' g' h2;omega
     ·have h2:=hsb k b' g' h1;simp only[Zaw,ZbA,or_false]at hp;rcases hp with rfl|rfl|rfl|rfl<;>cases hb<;>omega
     refine Zcj rfl rfl gg (Zca rfl) (Zcj rfl rfl gg ?_ (Zcj rfl rfl gg (Zca (Qab _)) (Zcj rfl rfl gg (QeJ fun k hk=>?_) (Qdg fun k hk=>?_))));·repeat'(first|exact Zci|(refine Zca ?_;first|rfl|(simp only[noRef,noRefs,Qag,Zad,Zac,Zah,Qab,Qai,Qaf,Qal,Qao,Qau,Qah,Qan,Qaa,Qap,Qaj,Qak,Qam,Qas];done))|exact Zct rfl|exact Zco|exact(True.intro:RnM _ _ _ [] [])|refine Zcp ?_ ?_|(refine Zb9 ?_;first|rfl|(simp only[noRef,noRefs,Qag,Zad,Zac,Zah,Qab,Qai,Qaf,Qal,Qao,Qau,Qah,Qan,Qaa,Qap,Qaj,Qak,Qam,Qas];done))|exact Rn.x1 rfl rfl|exact Rn.x2 rfl rfl|exact Rn.x3 rfl rfl|exact Rn.x4 rfl rfl|exact Rn.x5 rfl|exact Rn.x6 rfl|exact Rn.x7 rfl|refine Zck rfl rfl ?_|refine Zcj rfl rfl rfl ?_ ?_|refine Zcl rfl rfl rfl ?_ ?_|refine Zcm rfl rfl ?_ ?_|refine Zcn rfl rfl ?_ ?_)
     ·have hw2:=QeI (s:=fun k=>if k=e.1 then Src.blk (300+e.1) 1 else Src.blk (300+k) 0) hk (A:=[(60,.blk 60 0),(69,.blk 69 0),(83,.blk 83 0),(78,.blk 78 0)]) (by decide);unfold updF ptrE;rw[hstep];by_cases h2:k=e.1;·subst h2;rw[if_pos rfl,if_pos ⟨rfl,h1⟩,Zaf];exact Rn.x1 rfl (by rw[hw2];simp)
      ·rw[if_neg h2,if_neg (fun h3=>h2 h3.1.symm),Zap];exact Rn.x1 rfl (by rw[hw2];simp[h2])
     ·have hw2:=QeI (s:=fun k=>if k=e.1 then Src.blk (300+e.1) 1 else Src.blk (300+k) 0) hk (A:=[(60,.blk 60 0),(69,.blk 69 0),(83,.blk 83 0),(78,.blk 78 0)]) (by decide);have hkn:=Zat.1 hk;by_cases h2:k=e.1;·subst h2;refine Zcj rfl (b:=300+e.1) (g:=1) (by rw[hw2];simp) gg (RnL.eq ?_ (Qaf _)) Zci;unfold SE.rowE;rw[hstep,if_pos ⟨rfl,h1⟩,Zaq];rfl
      ·refine Zcj rfl (b:=300+k) (g:=0) (ds:=SE.rowE (a.es.take i) (lf l) k) (by rw[hw2];simp[h2]) (by first|(simp(disch:=omega)only[Qay,QaE,QaQ,hroom k hkn];done)|(simp(disch:=omega)only[Qay,QaE,QaQ,hroom k hkn];rfl)) (RnL.eq ?_ (Qaf _)) Zci;unfold SE.rowE;rw[hstep,if_neg (fun h3=>h2 h3.1.symm),Zap]
    ·rw[Zai]at h1;refine ZcF (ZcO @ZaW @ZaR hlt (QaJ he) hr0 hto (QaK htl) h1) ?_;refine⟨i+1,by omega,by omega,?_⟩;have hsb:∀k b g,(fun k=>Src.blk (300+k) 0) k=.blk b g->b=300+k:=by intro k b g h2;cases h2;rfl
     have hno:∀k,sOut (a.es.take (i+1)) (lf l) k=sOut (a.es.take i) (lf l) k:=fun k=>by rw[hstep,if_neg (by rw[h1];simp),Zap]
     refine⟨[(60,.blk 60 0),(69,.blk 69 0),(83,.blk 83 0),(78,.blk 78 0)]++psL (fun k=>Src.blk (300+k) 0) (List.range a.n),Qfb (A:=[(60,.blk 60 0),(69,.blk 69 0),(83,.blk 83 0),(78,.blk 78 0)]) (L:=[(60,_),(69,_),(83,_),(78,_)]) (Qdy Za0 hrn (fun k hk j hj hkj b g b' g' h1 h2=>?_)) rfl (by decide) (fun p hp b g hb k hk b' g' h1=>?_),Zcf,?_,au9⟩;·have :=hsb k b g h1;have:=hsb j b' g' h2;omega
     ·have h2:=hsb k b' g' h1;simp only[Zaw,ZbA,or_false]at hp;rcases hp with rfl|rfl|rfl|rfl<;>cases hb<;>omega
     refine Zcj rfl rfl gg (Zca rfl) (Zcj rfl rfl gg ?_ (Zcj rfl rfl gg (Zca (Qab _)) (Zcj rfl rfl gg (QeJ fun k hk=>?_) (Qdg fun k hk=>?_))));·repeat'(first|exact Zci|(refine Zca ?_;first|rfl|(simp only[noRef,noRefs,Qag,Zad,Zac,Zah,Qab,Qai,Qaf,Qal,Qao,Qau,Qah,Qan,Qaa,Qap,Qaj,Qak,Qam,Qas];done))|exact Zct rfl|exact Zco|exact(True.intro:RnM _ _ _ [] [])|refine Zcp ?_ ?_|(refine Zb9 ?_;first|rfl|(simp only[noRef,noRefs,Qag,Zad,Zac,Zah,Qab,Qai,Qaf,Qal,Qao,Qau,Qah,Qan,Qaa,Qap,Qaj,Qak,Qam,Qas];done))|exact Rn.x1 rfl rfl|exact Rn.x2 rfl rfl|exact Rn.x3 rfl rfl|exact Rn.x4 rfl rfl|exact Rn.x5 rfl|exact Rn.x6 rfl|exact Rn.x7 rfl|refine Zck rfl rfl ?_|refine Zcj rfl rfl rfl ?_ ?_|refine Zcl rfl rfl rfl ?_ ?_|refine Zcm rfl rfl ?_ ?_|refine Zcn rfl rfl ?_ ?_)
     ·have hw2:=QeI (s:=fun k=>Src.blk (300+k) 0) hk (A:=[(60,.blk 60 0),(69,.blk 69 0),(83,.blk 83 0),(78,.blk 78 0)]) (by decide);unfold ptrE;rw[hno];exact Rn.x1 rfl hw2
     ·have hw2:=QeI (s:=fun k=>Src.blk (300+k) 0) hk (A:=[(60,.blk 60 0),(69,.blk 69 0),(83,.blk 83 0),(78,.blk 78 0)]) (by decide);have hkn:=Zat.1 hk;refine Zcj rfl (b:=300+k) (g:=0) (ds:=SE.rowE (a.es.take i) (lf l) k) hw2 (by first|(simp(disch:=omega)only[Qay,QaE,QaQ,hroom k hkn];done)|(simp(disch:=omega)only[Qay,QaE,QaQ,hroom k hkn];rfl)) (RnL.eq ?_ (Qaf _)) Zci;unfold SE.rowE;rw[hno]
   ·have e:i=a.es.length:=by omega
    subst e;refine ZcF (ZcJ @ZaW @ZaR hlt) ?_;refine⟨(),[(60,.blk 60 0),(69,.blk 69 0),(83,.blk 83 0),(78,.blk 78 0)],rfl,Zcf,?_,au9⟩;refine Zcj rfl rfl gg (Zca rfl) (Zcj rfl rfl gg ?_ (Zcj rfl rfl gg (Zca (Qab _)) (Zcj rfl rfl gg (QeJ fun k hk=>?_) Zci)));·repeat'(first|exact Zci|(refine Zca ?_;first|rfl|(simp only[noRef,noRefs,Qag,Zad,Zac,Zah,Qab,Qai,Qaf,Qal,Qao,Qau,Qah,Qan,Qaa,Qap,Qaj,Qak,Qam,Qas];done))|exact Zct rfl|exact Zco|exact(True.intro:RnM _ _ _ [] [])|refine Zcp ?_ ?_|(refine Zb9 ?_;first|rfl|(simp only[noRef,noRefs,Qag,Zad,Zac,Zah,Qab,Qai,Qaf,Qal,Qao,Qau,Qah,Qan,Qaa,Qap,Qaj,Qak,Qam,Qas];done))|exact Rn.x1 rfl rfl|exact Rn.x2 rfl rfl|exact Rn.x3 rfl rfl|exact Rn.x4 rfl rfl|exact Rn.x5 rfl|exact Rn.x6 rfl|exact Rn.x7 rfl|refine Zck rfl rfl ?_|refine Zcj rfl rfl rfl ?_ ?_|refine Zcl rfl rfl rfl ?_ ?_|refine Zcm rfl rfl ?_ ?_|refine Zcn rfl rfl ?_ ?_)
    ·have hkn:=Zat.1 hk;have hr:=Qch (f:=SE.rowE a.es (lf l)) Za0 hrn hk;have b1:Nat.beq (300+k) 60=false:=by rw[ZaB];simp;try omega
     have b2:Nat.beq (300+k) 69=false:=by rw[ZaB];simp;try omega
     have b3:Nat.beq (300+k) 83=false:=by rw[ZaB];simp;try omega
     have b4:Nat.beq (300+k) 78=false:=by rw[ZaB];simp;try omega
     exact Zcq (by first|(simp(disch:=omega)only[Qay,QaE,QaQ,hr];done)|(simp(disch:=omega)only[Qay,QaE,QaQ,hr];rfl)) (by simp[srcNew,b1,b2,b3,b4]) (by simp) rfl (QbH _) (Zca (Qaf _))
  rintro _ _;refine ZcE ?_;refine QbC ?_;refine ZcE ?_;refine Qcr (x:=0) (f:=numF [0]) (l:=[]) (by simp) (by decide) ?_;refine ZcE ?_;have hms0:mks a 0 [0]=[]:=rfl;have hsi:SI a.n a.es (lf l) 0 (([0],[]):OE):=by refine⟨⟨by simp,fun x hx=>by simp at hx;omega⟩,fun x hx=>by simp at hx;subst hx;exact hl0,Zaj _,fun j v hj=>by omega,by simp⟩
  have hq0:sQ a.es (lf l) (a.n+1) 0 ([0],[])=sAll a (lf l):=by unfold sAll;rw[hl0,Zac,if_pos (by simp;omega)]
  refine Qat 180 (fun t:Nat×OE=>[(0,pv a u l),(2,.ptr 60 0 0),(4,.ptr 69 0 0),(5,.sl 78 0 0 a.n 1),(8,.map 74 0),(9,.sl 75 0 0 t.2.1.length 1),(10,.int .i64 t.1)]) (fun t=>[(60,.cells 0 [.nilsl,.int .i64 0,.nilsl,.nilsl]),(69,.cells 0 [.sl 83 0 0 a.al.length 1,.int .i64 0,.sl 77 0 0 (mks a t.1 t.2.1).length 1,.sl 76 0 0 t.2.2.length 3]),(83,.cells 0 (ints (nz a.al))),(78,.cells 0 ((List.range a.n).map (frzE a.es (lf l)))),(74,.map 0 (mapF .i64 (numF t.2.1) t.2.1)),(75,.cells 0 (ints (nz t.2.1))),(76,.cells 0 (t.2.2.flatMap edC)),(77,.cells 0 (ints (nz (mks a t.1 t.2.1))))]) (fun t=>t.1<=a.n/\SI a.n a.es (lf l) t.1 t.2/\t.2.2.length<=t.1*1000000/\sQ a.es (lf l) (a.n+1-t.1) t.1 t.2=sAll a (lf l)) (fun t=>a.n+1-t.1) (0,([0],[])) 2 260 (fun _:Unit=>[(2,.ptr 60 0 0),(4,.ptr 69 0 0),(9,.sl 75 0 0 (sAll a (lf l)).1.length 1)]) (fun _=>[(60,.cells 0 [.nilsl,.int .i64 0,.nilsl,.nilsl]),(69,.cells 0 [.sl 83 0 0 a.al.length 1,.int .i64 0,.sl 77 0 0 (restr a (lf l)).ms.length 1,.sl 76 0 0 (restr a (lf l)).es.length 3]),(83,.cells 0 (ints (nz a.al))),(75,.cells 0 (ints (nz (sAll a (lf l)).1))),(76,.cells 0 ((restr a (lf l)).es.flatMap edC)),(77,.cells 0 (ints (nz (restr a (lf l)).ms)))]) (fun _=>True) ?_ ⟨Zaj _,hsi,Zaj _,hq0⟩ ?_ ?_
  ·dsimp only;rw[hms0];refine⟨[(60,.blk 60 0),(69,.blk 69 0),(83,.blk 83 0),(78,.blk 78 0),(74,.blk 160 0),(75,.blk 164 0),(76,.nil),(77,.nil)],rfl,Zcf,?_,au9⟩;repeat'(first|exact Zci|(refine Zca ?_;first|rfl|(simp only[noRef,noRefs,Qag,Zad,Zac,Zah,Qab,Qai,Qaf,Qal,Qao,Qau,Qah,Qan,Qaa,Qap,Qaj,Qak,Qam,Qas];done))|exact Zct rfl|exact Zco|exact(True.intro:RnM _ _ _ [] [])|refine Zcp ?_ ?_|(refine Zb9 ?_;first|rfl|(simp only[noRef,noRefs,Qag,Zad,Zac,Zah,Qab,Qai,Qaf,Qal,Qao,Qau,Qah,Qan,Qaa,Qap,Qaj,Qak,Qam,Qas];done))|exact Rn.x1 rfl rfl|exact Rn.x2 rfl rfl|exact Rn.x3 rfl rfl|exact Rn.x4 rfl rfl|exact Rn.x5 rfl|exact Rn.x6 rfl|exact Rn.x7 rfl|refine Zck rfl rfl ?_|refine Zcj rfl rfl rfl ?_ ?_|refine Zcl rfl rfl rfl ?_ ?_|refine Zcm rfl rfl ?_ ?_|refine Zcn rfl rfl ?_ ?_)
   refine Zcw (l:=[0]) fun x hx=>?_;have:x=0:=by simpa using hx
   subst this;exact Zb9 rfl
  ·rintro⟨i,s⟩⟨hi,hsi,hsl,hq⟩;dsimp only at hi hsi hsl hq⊢;have hfl:=hsi.fi.len;have hile:=hsi.le;by_cases hlt:i<s.1.length
   ·obtain⟨v,hv⟩:=Qaq hlt;have hvn:=hsi.fi.lt v (Zae hv);have hin':i<a.n:=by omega
    have hsi':=hsi.step hw.esn hv;have hq':sQ a.es (lf l) (a.n+1-(i+1)) (i+1) (sRow a.es (lf l) i v s)=sAll a (lf l):=by rw[<-hq,show a.n+1-i=(a.n+1-(i+1))+1 by omega];simp only[sQ,hv]
    have hol:=Qed a.es (lf l) v;have hrow:=fun j=>Qda (n:=a.n) (left:=lf l) i ((sOut a.es (lf l) v).take j) s (fun e he=>⟨(hw.esn e (QaY.1 (ZaU he)).1).2,(QaY.1 (ZaU he)).2.2⟩) hsi.fi hsi.lft;have hmsl:=@QiM a i s.1;have hmsk:∀j,mks a i (((sOut a.es (lf l) v).take j).foldl (sEd i) s).1=mks a i s.1:=fun j=>by obtain⟨_,_,⟨t,ht⟩,_⟩:=hrow j;rw[ht,Qns hile]
    generalize hmm:mks a i s.1=M at*;simp(disch:=first|omega|exact PairsOK.mk rfl|(simp only[lenW]<;>omega))only[hlt,QbG (nz_at hv),hvn,QqT hvn,wW,wV,simprocAttr];refine Qat 300 (fun j:Nat=>[(90,egsN (sOut a.es (lf l) v)),(91,.int .i64 (sOut a.es (lf l) v).length),(0,pv a u l),(2,.ptr 60 0 0),(4,.ptr 69 0 0),(5,.sl 78 0 0 a.n 1),(8,.map 74 0),(9,.sl 75 0 0 (((sOut a.es (lf l) v).take j).foldl (sEd i) s).1.length 1),(10,.int .i64 i),(92,.int .i64 j)]) (fun j=>[(60,.cells 0 [.nilsl,.int .i64 0,.nilsl,.nilsl]),(69,.cells 0 [.sl 83 0 0 a.al.length 1,.int .i64 0,.sl 77 0 0 M.length 1,.sl 76 0 0 (((sOut a.es (lf l) v).take j).foldl (sEd i) s).2.length 3]),(83,.cells 0 (ints (nz a.al))),(78,.cells 0 ((List.range a.n).map (frzE a.es (lf l)))),(74,.map 0 (mapF .i64 (numF (((sOut a.es (lf l) v).take j).foldl (sEd i) s).1) (((sOut a.es (lf l) v).take j).foldl (sEd i) s).1)),(75,.cells 0 (ints (nz (((sOut a.es (lf l) v).take j).foldl (sEd i) s).1))),(76,.cells 0 ((((sOut a.es (lf l) v).take j).foldl (sEd i) s).2.flatMap edC)),(77,.cells 0 (ints (nz M)))]) (fun j=>j<=(sOut a.es (lf l) v).length) (fun j=>(sOut a.es (lf l) v).length-j) 0 4 400 (fun _:Unit=>[(0,pv a u l),(2,.ptr 60 0 0),(4,.ptr 69 0 0),(5,.sl 78 0 0 a.n 1),(8,.map 74 0),(9,.sl 75 0 0 (sRow a.es (lf l) i v s).1.length 1),(10,.int .i64 i)]) (fun _=>[(60,.cells 0 [.nilsl,.int .i64 0,.nilsl,.nilsl]),(69,.cells 0 [.sl 83 0 0 a.al.length 1,.int .i64 0,.sl 77 0 0 M.length 1,.sl 76 0 0 (sRow a.es (lf l) i v s).2.length 3]),(83,.cells 0 (ints (nz a.al))),(78,.cells 0 ((List.range a.n).map (frzE a.es (lf l)))),(74,.map 0 (mapF .i64 (numF (sRow a.es (lf l) i v s).1) (sRow a.es (lf l) i v s).1)),(75,.cells 0 (ints (nz (sRow a.es (lf l) i v s).1))),(76,.cells 0 ((sRow a.es (lf l) i v s).2.flatMap edC)),(77,.cells 0 (ints (nz M)))]) (fun _=>True) ?_ (Zaj _) ?_ ?_
    ·refine⟨[(60,.blk 60 0),(69,.blk 69 0),(83,.blk 83 0),(78,.blk 78 0),(74,.blk 74 0),(75,.blk 75 0),(76,.blk 76 0),(77,.blk 77 0)],rfl,au0,?_,au9⟩;repeat'(first|exact Zci|(refine Zca ?_;first|rfl|(simp only[noRef,noRefs,Qag,Zad,Zac,Zah,Qab,Qai,Qaf,Qal,Qao,Qau,Qah,Qan,Qaa,Qap,Qaj,Qak,Qam,Qas];done))|exact Zct rfl|exact Zco|exact(True.intro:RnM _ _ _ [] [])|refine Zcp ?_ ?_|(refine Zb9 ?_;first|rfl|(simp only[noRef,noRefs,Qag,Zad,Zac,Zah,Qab,Qai,Qaf,Qal,Qao,Qau,Qah,Qan,Qaa,Qap,Qaj,Qak,Qam,Qas];done))|exact Rn.x1 rfl rfl|exact Rn.x2 rfl rfl|exact Rn.x3 rfl rfl|exact Rn.x4 rfl rfl|exact Rn.x5 rfl|exact Rn.x6 rfl|exact Rn.x7 rfl|refine Zck rfl rfl ?_|refine Zcj rfl rfl rfl ?_ ?_|refine Zcl rfl rfl rfl ?_ ?_|refine Zcm rfl rfl ?_ ?_|refine Zcn rfl rfl ?_ ?_)
     exact Zcw fun x _=>Zb9 rfl
    ·rintro j hj;by_cases hjl:j<(sOut a.es (lf l) v).length
     ·obtain⟨e,he⟩:=Qaq hjl;have hem:=QaY.1 (Zae he);have hto:=(hw.esn e hem.1).2;obtain⟨k1,_,_,_,_⟩:=hrow j;have hfi:=k1.len;have hnd:=k1.nd;have hstep:=Qf5 (i:=i) (s:=s) he;have hsl2:=Qcz (i:=i) ((sOut a.es (lf l) v).take j) s;rw[Zas]at hsl2;generalize((sOut a.es (lf l) v).take j).foldl (sEd i) s=t at*;have hel2:=QbH t.2;by_cases hc:e.2.2∈t.1
      ·have h2:sEd i t e=(t.1,t.2++[(i,e.2.1,idx t.1 e.2.2)]):=if_pos (by simpa using hc);rw[h2]at hstep;refine ZcF (ZcI hjl (QaJ he)) ?_;refine Qdo ?_;refine ZcE ?_;refine wK_in hc ?_;refine ZcF hel2 ?_;refine⟨j+1,by omega,by omega,?_⟩;rw[hstep,Zaq,Zaf];refine⟨[(60,.blk 60 0),(69,.blk 69 0),(83,.blk 83 0),(78,.blk 78 0),(74,.blk 74 0),(75,.blk 75 0),(76,.blk 76 1),(77,.blk 77 0)],rfl,au0,?_,au9⟩;repeat'(first|exact Zci|(refine Zca ?_;first|rfl|(simp only[noRef,noRefs,Qag,Zad,Zac,Zah,Qab,Qai,Qaf,Qal,Qao,Qau,Qah,Qan,Qaa,Qap,Qaj,Qak,Qam,Qas];done))|exact Zct rfl|exact Zco|exact(True.intro:RnM _ _ _ [] [])|refine Zcp ?_ ?_|(refine Zb9 ?_;first|rfl|(simp only[noRef,noRefs,Qag,Zad,Zac,Zah,Qab,Qai,Qaf,Qal,Qao,Qau,Qah,Qan,Qaa,Qap,Qaj,Qak,Qam,Qas];done))|exact Rn.x1 rfl rfl|exact Rn.x2 rfl rfl|exact Rn.x3 rfl rfl|exact Rn.x4 rfl rfl|exact Rn.x5 rfl|exact Rn.x6 rfl|exact Rn.x7 rfl|refine Zck rfl rfl ?_|refine Zcj rfl rfl rfl ?_ ?_|refine Zcl rfl rfl rfl ?_ ?_|refine Zcm rfl rfl ?_ ?_|refine Zcn rfl rfl ?_ ?_)
       exact Zcw fun x _=>Zb9 rfl
      ·have h2:sEd i t e=(t.1++[e.2.2],t.2++[(i,e.2.1,t.1.length)]):=if_neg (by simpa using hc);rw[h2]at hstep;refine ZcF (ZcI hjl (QaJ he)) ?_;refine Qdo ?_;refine ZcE ?_;refine Qpl hc ?_;refine ZcF hel2 ?_;refine QbC ?_;refine ZcE ?_;refine Qcr hc (by decide) ?_;have hm:mapF .i64 (updF (numF t.1) e.2.2 (.int .i64 (t.1.length:Int))) (t.1++[e.2.2])=mapF .i64 (numF (t.1++[e.2.2])) (t.1++[e.2.2]):=by
        refine Qod fun x hx=>?_;unfold updF numF;split;·rename_i hx2;subst hx2;rw[QdN hc]
        ·rename_i hx2;have:x∈t.1:=by
          rcases ZaE.1 hx with h3|h3;·exact h3
          ·exact absurd (by simpa using h3) hx2
         rw[Qc9 this]
       refine ZcF (ZcI hm hel2) ?_;refine⟨j+1,by omega,by omega,?_⟩;rw[hstep,Zaq,Zaf];dsimp only;rw[Zaf,QaH,QaA];refine⟨[(60,.blk 60 0),(69,.blk 69 0),(83,.blk 83 0),(78,.blk 78 0),(74,.blk 74 0),(75,.blk 75 1),(76,.blk 76 1),(77,.blk 77 0)],rfl,au0,?_,au9⟩;repeat'(first|exact Zci|(refine Zca ?_;first|rfl|(simp only[noRef,noRefs,Qag,Zad,Zac,Zah,Qab,Qai,Qaf,Qal,Qao,Qau,Qah,Qan,Qaa,Qap,Qaj,Qak,Qam,Qas];done))|exact Zct rfl|exact Zco|exact(True.intro:RnM _ _ _ [] [])|refine Zcp ?_ ?_|(refine Zb9 ?_;first|rfl|(simp only[noRef,noRefs,Qag,Zad,Zac,Zah,Qab,Qai,Qaf,Qal,Qao,Qau,Qah,Qan,Qaa,Qap,Qaj,Qak,Qam,Qas];done))|exact Rn.x1 rfl rfl|exact Rn.x2 rfl rfl|exact Rn.x3 rfl rfl|exact Rn.x4 rfl rfl|exact Rn.x5 rfl|exact Rn.x6 rfl|exact Rn.x7 rfl|refine Zck rfl rfl ?_|refine Zcj rfl rfl rfl ?_ ?_|refine Zcl rfl rfl rfl ?_ ?_|refine Zcm rfl rfl ?_ ?_|refine Zcn rfl rfl ?_ ?_)
       exact Zcw fun x _=>Zb9 rfl
     ·have e:j=(sOut a.es (lf l) v).length:=by omega
      subst e;refine ZcF hjl ?_;refine⟨(),?_⟩;refine⟨[(60,.blk 60 0),(69,.blk 69 0),(83,.blk 83 0),(78,.blk 78 0),(74,.blk 74 0),(75,.blk 75 0),(76,.blk 76 0),(77,.blk 77 0)],rfl,au0,?_,au9⟩;repeat'(first|exact Zci|(refine Zca ?_;first|rfl|(simp only[noRef,noRefs,Qag,Zad,Zac,Zah,Qab,Qai,Qaf,Qal,Qao,Qau,Qah,Qan,Qaa,Qap,Qaj,Qak,Qam,Qas];done))|exact Zct rfl|exact Zco|exact(True.intro:RnM _ _ _ [] [])|refine Zcp ?_ ?_|(refine Zb9 ?_;first|rfl|(simp only[noRef,noRefs,Qag,Zad,Zac,Zah,Qab,Qai,Qaf,Qal,Qao,Qau,Qah,Qan,Qaa,Qap,Qaj,Qak,Qam,Qas];done))|exact Rn.x1 rfl rfl|exact Rn.x2 rfl rfl|exact Rn.x3 rfl rfl|exact Rn.x4 rfl rfl|exact Rn.x5 rfl|exact Rn.x6 rfl|exact Rn.x7 rfl|refine Zck rfl rfl ?_|refine Zcj rfl rfl rfl ?_ ?_|refine Zcl rfl rfl rfl ?_ ?_|refine Zcm rfl rfl ?_ ?_|refine Zcn rfl rfl ?_ ?_)
      exact Zcw fun x _=>Zb9 rfl
    rintro _ _;have hfull:=hmsk (sOut a.es (lf l) v).length;rw[Zau]at hfull;have hfull:mks a i (sRow a.es (lf l) i v s).1=M:=hfull;have hv':(sRow a.es (lf l) i v s).1[i]?=some v:=by obtain⟨_,_,⟨t,ht⟩,_⟩:=hrow (sOut a.es (lf l) v).length;rw[Zau]at ht;have ht:(sRow a.es (lf l) i v s).1=s.1++t:=ht;rw[ht,Zbh hlt];exact hv
    have hmn:=QhA (a:=a) hv';rw[hfull]at hmn;have hsl3:(sRow a.es (lf l) i v s).2.length=s.2.length+(sOut a.es (lf l) v).length:=Qcz _ _;have hfi':=hsi'.fi.len;have hii:i<(sRow a.es (lf l) i v s).1.length:=(Zam.1 hv').1;generalize hrr:sRow a.es (lf l) i v s=R at*;have hc:=contains62 (nz a.ms) v (by simp;omega);rw[QbF,Qec]at hc;by_cases hmv:a.ms.contains v=true
    ·rw[if_pos hmv]at hmn;rw[hmv]at hc;refine ZcF (ZcI hii (QbG (nz_at hv'))) ?_;refine cp hc ?_;refine ZcE ?_;refine⟨(i+1,R),by dsimp only;omega,⟨hin',hsi',by dsimp only;omega,hq'⟩,?_⟩;dsimp only;rw[hmn,Zaf,QaH,QaA];refine⟨[(60,.blk 60 0),(69,.blk 69 0),(83,.blk 83 0),(78,.blk 78 0),(74,.blk 74 0),(75,.blk 75 0),(76,.blk 76 0),(77,.blk 77 1)],rfl,au0,?_,au9⟩;repeat'(first|exact Zci|(refine Zca ?_;first|rfl|(simp only[noRef,noRefs,Qag,Zad,Zac,Zah,Qab,Qai,Qaf,Qal,Qao,Qau,Qah,Qan,Qaa,Qap,Qaj,Qak,Qam,Qas];done))|exact Zct rfl|exact Zco|exact(True.intro:RnM _ _ _ [] [])|refine Zcp ?_ ?_|(refine Zb9 ?_;first|rfl|(simp only[noRef,noRefs,Qag,Zad,Zac,Zah,Qab,Qai,Qaf,Qal,Qao,Qau,Qah,Qan,Qaa,Qap,Qaj,Qak,Qam,Qas];done))|exact Rn.x1 rfl rfl|exact Rn.x2 rfl rfl|exact Rn.x3 rfl rfl|exact Rn.x4 rfl rfl|exact Rn.x5 rfl|exact Rn.x6 rfl|exact Rn.x7 rfl|refine Zck rfl rfl ?_|refine Zcj rfl rfl rfl ?_ ?_|refine Zcl rfl rfl rfl ?_ ?_|refine Zcm rfl rfl ?_ ?_|refine Zcn rfl rfl ?_ ?_)
     exact Zcw fun x _=>Zb9 rfl
    ·rw[if_neg hmv,Zap]at hmn;rw[Zai]at hmv;rw[hmv]at hc;refine ZcF (ZcI hii (QbG (nz_at hv'))) ?_;refine cp hc ?_;refine ZcE ?_;refine⟨(i+1,R),by dsimp only;omega,⟨hin',hsi',by dsimp only;omega,hq'⟩,?_⟩;dsimp only;rw[hmn];refine⟨[(60,.blk 60 0),(69,.blk 69 0),(83,.blk 83 0),(78,.blk 78 0),(74,.blk 74 0),(75,.blk 75 0),(76,.blk 76 0),(77,.blk 77 0)],rfl,au0,?_,au9⟩;repeat'(first|exact Zci|(refine Zca ?_;first|rfl|(simp only[noRef,noRefs,Qag,Zad,Zac,Zah,Qab,Qai,Qaf,Qal,Qao,Qau,Qah,Qan,Qaa,Qap,Qaj,Qak,Qam,Qas];done))|exact Zct rfl|exact Zco|exact(True.intro:RnM _ _ _ [] [])|refine Zcp ?_ ?_|(refine Zb9 ?_;first|rfl|(simp only[noRef,noRefs,Qag,Zad,Zac,Zah,Qab,Qai,Qaf,Qal,Qao,Qau,Qah,Qan,Qaa,Qap,Qaj,Qak,Qam,Qas];done))|exact Rn.x1 rfl rfl|exact Rn.x2 rfl rfl|exact Rn.x3 rfl rfl|exact Rn.x4 rfl rfl|exact Rn.x5 rfl|exact Rn.x6 rfl|exact Rn.x7 rfl|refine Zck rfl rfl ?_|refine Zcj rfl rfl rfl ?_ ?_|refine Zcl rfl rfl rfl ?_ ?_|refine Zcm rfl rfl ?_ ?_|refine Zcn rfl rfl ?_ ?_)
     exact Zcw fun x _=>Zb9 rfl
   ·have hv:s.1[i]?=none:=ZaA (by omega);have hqf:s=sAll a (lf l):=by rw[<-hq,show a.n+1-i=(a.n-i)+1 by omega];simp only[sQ,hv]
    have hil:i=s.1.length:=by omega
    have hmf:mks a i s.1=(restr a (lf l)).ms:=by rw[hil,hqf];rfl
    have hef:s.2=(restr a (lf l)).es:=by rw[hqf];rfl
    refine ZcF hlt ?_;refine⟨(),?_⟩;rw[hmf,hef,<-hqf];exact⟨[(60,.blk 60 0),(69,.blk 69 0),(83,.blk 83 0),(75,.blk 75 0),(76,.blk 76 0),(77,.blk 77 0)],rfl,au0,au10,au9⟩
  rintro _ _;have hra:(restr a (lf l)).al=a.al:=rfl;have hrn2:(restr a (lf l)).n=(sAll a (lf l)).1.length:=rfl;refine ZcE ?_;refine⟨.inr trivial,_,rfl,?_⟩;refine RnO.tup (Zcr (RnO.agg (Zcr (RnO.slm (g:=0) rfl rfl rfl (Qb0 _) (by simp[ints,hra])) (Zcr (RnO.flat rfl) (Zcr (RnO.slm (g:=0) rfl rfl rfl (Qb0 _) (by simp[ints])) (Zcr (RnO.slm (g:=0) rfl rfl rfl (QrS _) (QbH _)) RnOL.nil))))) (Zcr (RnO.slm (g:=0) rfl rfl rfl (Qb0 _) (by simp[ints])) RnOL.nil))
 ·rw[Zai]at hl0;have e:sAll a (lf l)=([],[]):=by unfold sAll;rw[hl0,Bool.and_false,if_neg (by decide)];unfold sQ;rfl
  refine ZcF (ZcK h0' h0n hh0 hl0) ?_;refine⟨.inr trivial,_,rfl,?_⟩;have hr:restr a (lf l)=⟨a.al,0,[],[]⟩:=by unfold restr;rw[e];rfl
  rw[hr,e];exact RnO.tup (Zcr (RnO.agg (Zcr (RnO.slm (g:=0) rfl rfl rfl (Qb0 _) (by simp[ints])) (Zcr (RnO.flat rfl) (Zcr RnO.nil (Zcr RnO.nil RnOL.nil))))) (Zcr RnO.nil RnOL.nil))
end Go.AM.SE
