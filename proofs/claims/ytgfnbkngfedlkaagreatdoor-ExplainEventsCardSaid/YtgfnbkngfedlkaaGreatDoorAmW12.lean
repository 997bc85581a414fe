/- Lemmas on the way to ExplainEventsCardSaid. Conditions: none of ours. -/
import Derived.Test.YtgfnbkngfedlkaaGreatDoorAmW11
set_option linter.unusedSectionVars false
set_option maxHeartbeats 32000000
set_option maxRecDepth 100000
set_option linter.unusedVariables false
set_option linter.unusedSimpArgs false
namespace Go.AM.SE
open Go.Proofs Go.AM.SD
theorem _root_.Go.AM.ZcZ{p q:Prop}(k:q)(h:p=q:=by conv=>lhs;simp(disch:=first|omega|exact PairsOK.mk rfl|(simp only[lenW]<;>omega))only[wW,wV,simprocAttr]):p:=h▸k
theorem _root_.Go.AM.Zc0{p q A:Prop}(a:A)(k:q)(h:A->p=q:=by intro a;conv=>lhs;simp(disch:=first|omega|exact PairsOK.mk rfl|(simp only[lenW]<;>omega))only[a,wW,wV,simprocAttr]):p:=h a▸k
def keysR(es:List Ed):List Nat:=es.foldl (fun l e=>if l.contains e.2.2 then l else l++[e.2.2]) []
theorem Qpt{es:List Ed}{i:Nat}{e:Ed}(h:es[i]?=some e):keysR (es.take (i+1))=if(keysR (es.take i)).contains e.2.2 then keysR (es.take i)else keysR (es.take i)++[e.2.2]:=by unfold keysR;rw[ZaZ,h,Option.toList,Za4];rfl
theorem QeV:∀{es:List Ed}{x:Nat},x∈keysR es↔∃e∈es,e.2.2=x:=by
 have key:∀(es:List Ed)(l:List Nat)(x:Nat),x∈es.foldl (fun l e=>if l.contains e.2.2 then l else l++[e.2.2]) l↔x∈l\/∃e∈es,e.2.2=x:=by intro es;induction es with|nil=>intro l x;simp|cons e es c=>
  intro l x;rw[ZaP,c];by_cases h:l.contains e.2.2=true
  ·rw[if_pos h];have d:e.2.2∈l:=by simpa using h
   constructor
   ·rintro(h1|⟨b,h1,a⟩);·exact .inl h1
    exact .inr ⟨b,by simp[h1],a⟩
   rintro(h1|⟨b,h1,a⟩);·exact .inl h1
   rcases Zau.1 h1 with rfl|h1;·exact .inl (a▸d)
   exact .inr ⟨b,h1,a⟩
  rw[if_neg h];constructor
  ·rintro(h1|⟨b,h1,a⟩)
   ·rcases ZaE.1 h1 with h1|h1;·exact .inl h1
    exact .inr ⟨e,by simp,(by simpa using h1:x=e.2.2).symm⟩
   exact .inr ⟨b,by simp[h1],a⟩
  rintro(h1|⟨b,h1,a⟩);·exact .inl (by simp[h1])
  rcases Zau.1 h1 with rfl|h1;·exact .inl (by simp[a])
  exact .inr ⟨b,h1,a⟩
 intro es x;have:=key es [] x;unfold keysR;rw[this];simp
theorem QnP(es:List Ed):(keysR es).Nodup:=by
 have key:∀(es:List Ed)(l:List Nat),l.Nodup->(es.foldl (fun l e=>if l.contains e.2.2 then l else l++[e.2.2]) l).Nodup:=by intro es;induction es with|nil=>intro l h;exact h|cons e es g=>
  intro l h;rw[ZaP];refine g _ ?_;split;·exact h
  rename_i h1;rw[Zca];refine⟨h,by simp,fun a f b c=>?_⟩;rw[Zbd.1 c];intro d;subst d;exact h1 (by simpa using f)
 exact key es [] List.nodup_nil
theorem QbT{es:List Ed}{i:Nat}{e:Ed}(h:es[i]?=some e)(v:Nat):preds (es.take (i+1)) v=preds (es.take i) v++if e.2.2=v then[e.1]else[]:=by unfold preds;rw[ZaZ,h,Option.toList,Zbi,ZaK];congr 1;by_cases h1:e.2.2=v<;>simp[h1]
theorem Qd4{es:List Ed}{v:Nat}(h:v∉keysR es):preds es v=[]:=by unfold preds;rw[List.map_eq_nil_iff,List.filter_eq_nil_iff];intro e he h1;exact h (QeV.2 ⟨e,he,by simpa using h1⟩)
theorem QkQ(es:List Ed)(v:Nat):(preds es v).length<=es.length:=by unfold preds;rw[Zaz];exact ZaI _ _
abbrev pblk(a:Aut)(u:List Nat):List AV:=[sliN a.al,.int .i64 (a.n:Int),sliN a.ms,egsN a.es,sliN u,.map 71 0,.sl 72 0 0 a.n 1]
abbrev backF(es:List Ed):Nat->AV:=fun k=>sliN (preds es k)
abbrev startL(a:Aut)(f u:List Nat):HL:=[(70,.cells 0 (pblk a u)),(71,.map 0 (mapF .i64 (backF a.es) (keysR a.es))),(72,.cells 0 (bls (left0 a.n f)))]
abbrev rowF(es:List Ed):Nat->List AV:=fun k=>ints (nz (preds es k))
abbrev ptrF(es:List Ed):Nat->AV:=fun k=>.sl (300+k) 0 0 (preds es k).length 1
theorem Qpu{n i x:Nat}{f:List Nat}(h:f[i]?=some x):left0 n (f.take (i+1))=(left0 n (f.take i)).set x false:=by unfold left0 offs;rw[ZaZ,h,Option.toList,Za4];rfl
theorem QkR{n:Nat}{f:List Nat}:(left0 n f).length=n:=by unfold left0;rw[Qio];simp
theorem reps(n:Nat):(List.replicate n [AV.bool false]).flatten=bls (List.replicate n false):=by induction n with|zero=>rfl|succ n a=>rw[Zbr,ZbK,a];rfl
theorem Qsc{n i:Nat}(h:i<n):(List.replicate i true++List.replicate (n-i) false).set i true=List.replicate (i+1) true++List.replicate (n-(i+1)) false:=by rw[List.set_append_right _ _ (by simp),ZbT,Nat.sub_self,show n-i=(n-(i+1))+1 by omega,Zbr,Zb5,List.replicate_succ',ZaV];rfl
theorem start34(a:Aut)(f u:List Nat)(B:∀e∈a.es,e.1<a.n/\e.2.2<a.n)(hf:∀x∈f,x<a.n)(Z:a.n<=4096)(S:a.es.length<=1000000)(V:f.length<=1000000):HSpec Tryz.prog 227 [aV a,sliN f,sliN u] .e (.ptr 70 0 0) (hp (startL a f u)):=by
 refine HSpec.Qb0 74 ok227 rfl ?_;have K:(a.n:Int)<=140737488355328:=by omega
 unfold s227;refine Zc0 (Zc1 K @reps) ?_;refine Qaq 100 (fun i:Nat=>[(1,sliN f),(3,.ptr 60 0 0),(7,.ptr 70 0 0),(25,.int .i64 a.n),(26,.int .i64 i)]) (fun i=>[(60,.cells 0 [sliN a.al,.int .i64 (a.n:Int),sliN a.ms,egsN a.es]),(70,.cells 0 (pblk a u)),(71,.map 0 []),(72,.cells 0 (bls (List.replicate i true++List.replicate (a.n-i) false)))]) (fun i=>i<=a.n) (fun i=>a.n-i) 0 0 120 (fun _:Unit=>[(1,sliN f),(3,.ptr 60 0 0),(7,.ptr 70 0 0)]) (fun _=>[(60,.cells 0 [sliN a.al,.int .i64 (a.n:Int),sliN a.ms,egsN a.es]),(70,.cells 0 (pblk a u)),(71,.map 0 []),(72,.cells 0 (bls (left0 a.n (f.take 0))))]) (fun _=>True) ?_ (Zah _) ?_ ?_;·exact⟨[(60,.blk 74 0),(70,.blk 83 0),(71,.blk 78 0),(72,.blk 81 0)],rfl,au0,au1,au2⟩
 ·rintro i hi;by_cases m:i<a.n
  ·have h1:i+1<=i+(a.n-i):=by omega
   refine Zc0 (Zc3 m h1 @QjN (Qsc m)) ?_;exact⟨i+1,by omega,by omega,⟨[(60,.blk 60 0),(70,.blk 70 0),(71,.blk 71 0),(72,.blk 72 0)],rfl,au0,au1,au2⟩⟩
  have e:i=a.n:=by omega
  subst e;have C:List.replicate a.n true++List.replicate (a.n-a.n) false=left0 a.n (f.take 0):=by simp[left0,offs]
  refine Zc0 m ?_;refine⟨(),?_⟩;rw[C];exact⟨[(60,.blk 60 0),(70,.blk 70 0),(71,.blk 71 0),(72,.blk 72 0)],rfl,au0,au1,au2⟩
 rintro _ _;refine ZcZ ?_;refine Qaq 140 (fun i:Nat=>[(3,.ptr 60 0 0),(7,.ptr 70 0 0),(36,sliN f),(37,.int .i64 f.length),(38,.int .i64 i)]) (fun i=>[(60,.cells 0 [sliN a.al,.int .i64 (a.n:Int),sliN a.ms,egsN a.es]),(70,.cells 0 (pblk a u)),(71,.map 0 []),(72,.cells 0 (bls (left0 a.n (f.take i))))]) (fun i=>i<=f.length) (fun i=>f.length-i) 0 2 160 (fun _:Unit=>[(3,.ptr 60 0 0),(7,.ptr 70 0 0)]) (fun _=>[(60,.cells 0 [sliN a.al,.int .i64 (a.n:Int),sliN a.ms,egsN a.es]),(70,.cells 0 (pblk a u)),(71,.map 0 []),(72,.cells 0 (bls (left0 a.n f)))]) (fun _=>True) ?_ (Zah _) ?_ ?_;·exact⟨[(60,.blk 60 0),(70,.blk 70 0),(71,.blk 71 0),(72,.blk 72 0)],rfl,au0,au1,au2⟩
 ·rintro i hi;by_cases m:i<f.length
  ·obtain⟨x,l⟩:=Qap m;have o:=hf x (Zae l);have J:x+1<=(left0 a.n (f.take i)).length:=by rw[QkR];exact o
   simp(disch:=first|omega|exact PairsOK.mk rfl|(simp only[lenW]<;>omega))only[m,Qaz l,o,J,QjN,<-Qpu l,wW,wV,simprocAttr];exact⟨i+1,by omega,by omega,⟨[(60,.blk 60 0),(70,.blk 70 0),(71,.blk 71 0),(72,.blk 72 0)],rfl,au0,au1,au2⟩⟩
  have e:i=f.length:=by omega
  subst e;refine Zc0 m ?_;refine⟨(),?_⟩;exact⟨[(60,.blk 60 0),(70,.blk 70 0),(71,.blk 71 0),(72,.blk 72 0)],rfl,au0,au1,au2⟩
 rintro _ _;refine ZcZ ?_;have hrn:∀k∈List.range a.n,k<1000000:=fun k d=>by have:=Zat.1 d;omega
 refine Qaq 170 (fun i:Nat=>[(7,.ptr 70 0 0),(50,egsN a.es),(51,.int .i64 a.es.length),(52,.int .i64 i)]) (fun i=>(70,.cells 0 (pblk a u))::(71,.map 0 (mapF .i64 (ptrF (a.es.take i)) (keysR (a.es.take i))))::(72,.cells 0 (bls (left0 a.n f)))::rowsL (rowF (a.es.take i)) (List.range a.n)) (fun i=>i<=a.es.length) (fun i=>a.es.length-i) 0 4 200 (fun _:Unit=>[(7,.ptr 70 0 0)]) (fun _=>startL a f u) (fun _=>True) ?_ (Zah _) ?_ ?_
 ·refine⟨(70,.blk 70 0)::(71,.blk 71 0)::(72,.blk 72 0)::psL (fun _=>.nil) (List.range a.n),QfQ Zbb hrn (fun _ _ _ _ _ b g P Q h=>by cases h) (fun _ _ b g h=>by cases h) (by decide) (by decide) (by decide),Zcx,?_,au2⟩;repeat'(first|exact ZcA|(refine Zcr ?_;first|rfl|(simp only[noRef,noRefs,Qag,Zad,Zac,Zai,Qad,Qaj,Qaf,Qak,Qah,Qan,Qae,Qar,Qai];done))|exact ZcM rfl|exact ZcG|exact(True.intro:RnM _ _ _ [] [])|refine ZcH ?_ ?_|(refine Zcq ?_;first|rfl|(simp only[noRef,noRefs,Qag,Zad,Zac,Zai,Qad,Qaj,Qaf,Qak,Qah,Qan,Qae,Qar,Qai];done))|exact Rn.x1 rfl rfl|exact Rn.x2 rfl rfl|exact Rn.x3 rfl rfl|exact Rn.x4 rfl rfl|exact Rn.x5 rfl|exact Rn.x6 rfl|exact Rn.x7 rfl|refine ZcC rfl rfl ?_|refine ZcB rfl rfl rfl ?_ ?_|refine ZcD rfl rfl rfl ?_ ?_|refine ZcE rfl rfl ?_ ?_|refine ZcF rfl rfl ?_ ?_)
  refine Qdw fun k d=>?_;exact ZcC rfl (Qb1 d) ZcA
 ·rintro i hi;by_cases m:i<a.es.length
  ·obtain⟨e,he⟩:=Qap m;obtain⟨R,N⟩:=B e (Zae he);have v:=Qpt he;have L:=QnP (a.es.take i);have X:(preds (a.es.take i) e.2.2).length<=1000000:=by have:=QkQ (a.es.take i) e.2.2;rw[Zav]at this;omega
   have p:=Qcw (f:=rowF (a.es.take i)) Zbb hrn (Zat.2 N);have s:∀b,b<300->(hp (rowsL (rowF (a.es.take i)) (List.range a.n))).get b=none:=fun b q=>QfO hrn fun k d=>by omega
   refine Zc0 (Zc2 m (QaJ he) s) ?_;refine Qbr [(57,[70]),(59,[71]),(63,[70]),(65,[71]),(68,[300+e.2.2])] rfl ?_ ?_;·exact Qd3 (a:=[71]) (b:=[190]) rfl rfl (fun x l=>by simp only[Zau,ZbQ,or_false]at l⊢;omega) (Qd3 (a:=[70]) (b:=[191,300+e.2.2,190]) rfl rfl (fun x l=>by simp only[Zau,ZbQ,or_false]at l⊢;omega) (Qd3 (a:=[173]) (b:=[191,300+e.2.2,190]) rfl rfl (fun x l=>by simp only[Zau,ZbQ,or_false]at l⊢;omega) QkP))
   refine Zc0 s ?_;refine QdI ?_;refine Zc0 s ?_;by_cases d:e.2.2∈keysR (a.es.take i)
   ·refine wK_in d ?_;refine Zc0 (Zc1 p s) ?_;refine QbJ ?_;refine Zc0 (Zc1 p s) ?_;refine Qup L d (by decide) ?_;refine Zc0 (Zc1 p s) ?_;refine⟨⟨⟨_,rfl,fun b q=>q⟩,⟨_,rfl,fun b q=>q⟩,⟨_,rfl,fun b q=>q⟩,⟨_,rfl,fun b q=>q⟩,⟨_,rfl,fun b q=>q⟩,trivial⟩,i+1,by omega,by omega,?_⟩;rw[if_pos (by simpa using d)]at v;have y:∀x∈keysR (a.es.take (i+1)),x<a.n:=fun x l=>by obtain⟨I,A,rfl⟩:=QeV.1 l;exact(B I (ZaQ A)).2
    generalize w:psL (fun k=>if k∈keysR (a.es.take (i+1))then(if k=e.2.2 then .blk (300+e.2.2) 1 else .blk (300+k) 0:Src)else .nil) (List.range a.n)=PS;have t:∀k:Nat,k<a.n->k≠e.2.2->(hp (rowsL (rowF (a.es.take i)) (List.range a.n))).get (300+k)=some (.cells 0 (rowF (a.es.take i) k)):=fun k d _=>Qcw Zbb hrn (Zat.2 d);refine⟨(70,.blk 70 0)::(71,.blk 71 0)::(72,.blk 72 0)::PS,?_,Zcx,?_,?_⟩
    ·subst w;refine QfQ Zbb hrn (fun k d j Y M b g P Q h1 z=>?_) (fun k d b g h1=>?_) (by decide) (by decide) (by decide)
     ·split at h1
      ·split at z;·split at h1<;>split at z<;>cases h1<;>cases z<;>omega
       cases z
      cases h1
     split at h1;·split at h1<;>cases h1<;>omega
     cases h1
    ·subst w;refine ZcB rfl rfl (by simp(disch:=omega)only[QaA,QaG,QaS];rfl) ?_ (ZcD rfl rfl (by simp(disch:=omega)only[QaA,QaG,QaS];rfl) ?_ (ZcB rfl rfl (by simp(disch:=omega)only[QaA,QaG,QaS]) (Zcr (Qah _)) ?_));·repeat'(first|exact ZcA|(refine Zcr ?_;first|rfl|(simp only[noRef,noRefs,Qag,Zad,Zac,Zai,Qad,Qaj,Qaf,Qak,Qah,Qan,Qae,Qar,Qai];done))|exact ZcM rfl|exact ZcG|exact(True.intro:RnM _ _ _ [] [])|refine ZcH ?_ ?_|(refine Zcq ?_;first|rfl|(simp only[noRef,noRefs,Qag,Zad,Zac,Zai,Qad,Qaj,Qaf,Qak,Qah,Qan,Qae,Qar,Qai];done))|exact Rn.x1 rfl rfl|exact Rn.x2 rfl rfl|exact Rn.x3 rfl rfl|exact Rn.x4 rfl rfl|exact Rn.x5 rfl|exact Rn.x6 rfl|exact Rn.x7 rfl|refine ZcC rfl rfl ?_|refine ZcB rfl rfl rfl ?_ ?_|refine ZcD rfl rfl rfl ?_ ?_|refine ZcE rfl rfl ?_ ?_|refine ZcF rfl rfl ?_ ?_)
     ·rw[v];refine ZcP fun x l=>?_;have E:x∈keysR (a.es.take (i+1)):=by rw[v];exact l
      have o:=y x E;unfold updF ptrF;split;·rename_i c;subst c;(rw[QbT he,if_pos rfl,Zaf];exact Rn.x1 rfl (by rw[Qb1 (Zat.2 o)];simp[l]))
      rename_i c;rw[QbT he,if_neg (fun C=>c C.symm),Zap];exact Rn.x1 rfl (by rw[Qb1 (Zat.2 o)];simp[l,c])
     refine Qdw fun k d=>?_;have G:=Zat.1 d;by_cases r:k∈keysR (a.es.take (i+1))
     ·by_cases c:k=e.2.2;·subst c;refine ZcB rfl (b:=300+e.2.2) (g:=1) (ds:=rowF (a.es.take i) e.2.2++[.int .i64 (e.1:Int)]) (by rw[Qb1 d];simp[r]) (by simp(disch:=omega)only[QaA,QaG,QaS]) (RnL.eq ?_ (Qad _)) ZcA;unfold SE.rowF;rw[QbT he,if_pos rfl,QaF,Qay];rfl
      refine ZcB rfl (b:=300+k) (g:=0) (ds:=SE.rowF (a.es.take i) k) (by rw[Qb1 d];simp[r,c]) (by simp(disch:=omega)only[QaA,QaG,QaS,t k G c]) (RnL.eq ?_ (Qad _)) ZcA;unfold SE.rowF;rw[QbT he,if_neg (fun C=>c C.symm),Zap]
     have hp:=Qd4 r;have:SE.rowF (a.es.take (i+1)) k=[]:=by unfold SE.rowF;rw[hp];rfl
     rw[this];exact ZcC rfl (by rw[Qb1 d];simp[r]) ZcA
    exact au2
   refine QqC d ?_;refine Zc0 (Zc3 p s @QgO @QmJ) ?_;refine QbJ ?_;refine Zc0 (Zc1 p s) ?_;refine QcH d (by decide) ?_;refine Zc0 (Zc1 p s) ?_;refine⟨⟨⟨_,rfl,fun b q=>q⟩,⟨_,rfl,fun b q=>q⟩,⟨_,rfl,fun b q=>q⟩,⟨_,rfl,fun b q=>q⟩,⟨[],rfl,fun b q=>by cases q⟩,trivial⟩,i+1,by omega,by omega,?_⟩;rw[if_neg (by simpa using d)]at v;have y:∀x∈keysR (a.es.take (i+1)),x<a.n:=fun x l=>by obtain⟨I,A,rfl⟩:=QeV.1 l;exact(B I (ZaQ A)).2
   have H:=Qd4 d;generalize w:psL (fun k=>if k∈keysR (a.es.take (i+1))then(if k=e.2.2 then .blk 191 0 else .blk (300+k) 0:Src)else .nil) (List.range a.n)=PS;have t:∀k:Nat,k<a.n->k≠e.2.2->(hp (rowsL (rowF (a.es.take i)) (List.range a.n))).get (300+k)=some (.cells 0 (rowF (a.es.take i) k)):=fun k d _=>Qcw Zbb hrn (Zat.2 d);refine⟨(70,.blk 70 0)::(71,.blk 71 0)::(72,.blk 72 0)::PS,?_,Zcx,?_,?_⟩
   ·subst w;refine QfQ Zbb hrn (fun k d j Y M b g P Q h1 z=>?_) (fun k d b g h1=>?_) (by decide) (by decide) (by decide)
    ·split at h1
     ·split at z;·split at h1<;>split at z<;>cases h1<;>cases z<;>omega
      cases z
     cases h1
    split at h1;·split at h1<;>cases h1<;>omega
    cases h1
   ·subst w;refine ZcB rfl rfl (by simp(disch:=omega)only[QaA,QaG,QaS];rfl) ?_ (ZcD rfl rfl (by simp(disch:=omega)only[QaA,QaG,QaS];rfl) ?_ (ZcB rfl rfl (by simp(disch:=omega)only[QaA,QaG,QaS]) (Zcr (Qah _)) ?_));·repeat'(first|exact ZcA|(refine Zcr ?_;first|rfl|(simp only[noRef,noRefs,Qag,Zad,Zac,Zai,Qad,Qaj,Qaf,Qak,Qah,Qan,Qae,Qar,Qai];done))|exact ZcM rfl|exact ZcG|exact(True.intro:RnM _ _ _ [] [])|refine ZcH ?_ ?_|(refine Zcq ?_;first|rfl|(simp only[noRef,noRefs,Qag,Zad,Zac,Zai,Qad,Qaj,Qaf,Qak,Qah,Qan,Qae,Qar,Qai];done))|exact Rn.x1 rfl rfl|exact Rn.x2 rfl rfl|exact Rn.x3 rfl rfl|exact Rn.x4 rfl rfl|exact Rn.x5 rfl|exact Rn.x6 rfl|exact Rn.x7 rfl|refine ZcC rfl rfl ?_|refine ZcB rfl rfl rfl ?_ ?_|refine ZcD rfl rfl rfl ?_ ?_|refine ZcE rfl rfl ?_ ?_|refine ZcF rfl rfl ?_ ?_)
    ·rw[v];refine ZcP fun x l=>?_;have E:x∈keysR (a.es.take (i+1)):=by rw[v];exact l
     have o:=y x E;unfold updF ptrF;split;·rename_i c;subst c;(rw[QbT he,if_pos rfl,H];exact Rn.x1 rfl (by rw[Qb1 (Zat.2 o)];simp[l]))
     rename_i c;rw[QbT he,if_neg (fun C=>c C.symm),Zap];exact Rn.x1 rfl (by rw[Qb1 (Zat.2 o)];simp[l,c])
    refine Qdw fun k d=>?_;have G:=Zat.1 d;by_cases r:k∈keysR (a.es.take (i+1))
    ·by_cases c:k=e.2.2;·subst c;refine ZcB rfl (b:=191) (g:=0) (ds:=[.int .i64 (e.1:Int)]) (by rw[Qb1 d];simp[r]) (by simp(disch:=omega)only[QaA,QaG,QaS]) (RnL.eq ?_ (Qad _)) ZcA;unfold SE.rowF;rw[QbT he,if_pos rfl,QaF,Qay];(rw[H];rfl)
     refine ZcB rfl (b:=300+k) (g:=0) (ds:=SE.rowF (a.es.take i) k) (by rw[Qb1 d];simp[r,c]) (by simp(disch:=omega)only[QaA,QaG,QaS,t k G c]) (RnL.eq ?_ (Qad _)) ZcA;unfold SE.rowF;rw[QbT he,if_neg (fun C=>c C.symm),Zap]
    have hp:=Qd4 r;have:SE.rowF (a.es.take (i+1)) k=[]:=by unfold SE.rowF;rw[hp];rfl
    rw[this];exact ZcC rfl (by rw[Qb1 d];simp[r]) ZcA
   exact au2
  have e:i=a.es.length:=by omega
  subst e;have y:∀x∈keysR a.es,x<a.n:=fun x l=>by obtain⟨I,A,rfl⟩:=QeV.1 l;exact(B I A).2
  refine Zc0 m ?_;refine⟨(),[(70,.blk 70 0),(71,.blk 71 0),(72,.blk 72 0)],rfl,Zcx,?_,au2⟩;refine ZcB rfl rfl (by simp(disch:=omega)only[QaA,QaG,QaS];rfl) ?_ (ZcD rfl rfl (by simp(disch:=omega)only[QaA,QaG,QaS];rfl) ?_ (ZcB rfl rfl (by simp(disch:=omega)only[QaA,QaG,QaS]) (Zcr (Qah _)) ZcA));·repeat'(first|exact ZcA|(refine Zcr ?_;first|rfl|(simp only[noRef,noRefs,Qag,Zad,Zac,Zai,Qad,Qaj,Qaf,Qak,Qah,Qan,Qae,Qar,Qai];done))|exact ZcM rfl|exact ZcG|exact(True.intro:RnM _ _ _ [] [])|refine ZcH ?_ ?_|(refine Zcq ?_;first|rfl|(simp only[noRef,noRefs,Qag,Zad,Zac,Zai,Qad,Qaj,Qaf,Qak,Qah,Qan,Qae,Qar,Qai];done))|exact Rn.x1 rfl rfl|exact Rn.x2 rfl rfl|exact Rn.x3 rfl rfl|exact Rn.x4 rfl rfl|exact Rn.x5 rfl|exact Rn.x6 rfl|exact Rn.x7 rfl|refine ZcC rfl rfl ?_|refine ZcB rfl rfl rfl ?_ ?_|refine ZcD rfl rfl rfl ?_ ?_|refine ZcE rfl rfl ?_ ?_|refine ZcF rfl rfl ?_ ?_)
  refine ZcP fun x l=>?_;have o:=y x l;have T:=Qcw (f:=SE.rowF a.es) Zbb hrn (Zat.2 o);have h1:Nat.beq (300+x) 70=false:=by rw[ZaA];simp;try omega
  have z:Nat.beq (300+x) 71=false:=by rw[ZaA];simp;try omega
  have U:Nat.beq (300+x) 72=false:=by rw[ZaA];simp;try omega
  exact ZcI (by simp(disch:=omega)only[QaA,QaG,QaS,T]) (by simp[srcNew,h1,z,U]) (by simp) rfl (by rw[QcO,Zaz,Zcj]) (Zcr (Qad _))
 rintro _ _;refine ZcZ ?_;refine⟨.inr trivial,_,rfl,[(70,.blk 70 0),(71,.blk 71 0),(72,.blk 72 0)],rfl,Zcx,?_,au2⟩;refine ZcB rfl rfl rfl ?_ (ZcD rfl rfl rfl (ZcP fun x _=>Zcq (Qae _)) (ZcB rfl rfl rfl (Zcr (Qah _)) ZcA));repeat'(first|exact ZcA|(refine Zcr ?_;first|rfl|(simp only[noRef,noRefs,Qag,Zad,Zac,Zai,Qad,Qaj,Qaf,Qak,Qah,Qan,Qae,Qar,Qai];done))|exact ZcM rfl|exact ZcG|exact(True.intro:RnM _ _ _ [] [])|refine ZcH ?_ ?_|(refine Zcq ?_;first|rfl|(simp only[noRef,noRefs,Qag,Zad,Zac,Zai,Qad,Qaj,Qaf,Qak,Qah,Qan,Qae,Qar,Qai];done))|exact Rn.x1 rfl rfl|exact Rn.x2 rfl rfl|exact Rn.x3 rfl rfl|exact Rn.x4 rfl rfl|exact Rn.x5 rfl|exact Rn.x6 rfl|exact Rn.x7 rfl|refine ZcC rfl rfl ?_|refine ZcB rfl rfl rfl ?_ ?_|refine ZcD rfl rfl rfl ?_ ?_|refine ZcE rfl rfl ?_ ?_|refine ZcF rfl rfl ?_ ?_)
abbrev pv(a:Aut)(u:List Nat)(l:LB):AV:=.fptr [sliN a.al,.int .i64 (a.n:Int),sliN a.ms,egsN a.es,sliN u,fmapF .i64 (backF a.es) (keysR a.es),.fsl (bls l) a.n 1]
theorem QdJ{f:Nat->AV}(h:∀x,noRef (f x)=true)(l:List Nat):noRefs (l.map f)=true:=by induction l with|nil=>rfl|cons x l a=>simp only[ZaJ,noRefs,h,a];rfl
theorem Qal(k:IntKind)(l:List Nat):noRefs (l.map fun x:Nat=>AV.int k (x:Int))=true:=QdJ (fun _=>rfl) l
theorem Qam(es:List Ed)(l:List Nat):noRefs (l.map (backF es))=true:=QdJ (fun x=>Qae _) l
theorem QqH{n:Nat}{mk:List Nat}{left:Nat->Bool}{i x:Nat}(h:mk[i]?=some x):bMks n (mk.take (i+1)) left=bMk left (bMks n (mk.take i) left) x:=by unfold bMks;rw[ZaZ,h,Option.toList,Za4];rfl
theorem Qsd(n:Nat)(mk:List Nat)(left:Nat->Bool):(bMks n mk left).1.length=n:=by
 have key:∀(mk:List Nat)(s:QS),(mk.foldl (bMk left) s).1.length=s.1.length:=by intro mk;induction mk with|nil=>intro s;rfl|cons x mk a=>intro s;rw[ZaP,a];unfold bMk;split<;>simp
 unfold bMks;rw[key];simp
theorem QkS{left:Nat->Bool}{v:Nat}{s:QS}{ys:List Nat}{i y:Nat}(h:ys[i]?=some y):(ys.take (i+1)).foldl (bEd left v) s=bEd left v ((ys.take i).foldl (bEd left v) s) y:=by rw[ZaZ,h,Option.toList,Za4];rfl
theorem QmK(n:Nat)(x:Int):(List.replicate n [AV.int .i64 x]).flatten=ints (List.replicate n x):=by induction n with|zero=>rfl|succ n a=>rw[Zbr,ZbK,a];rfl
theorem QkT{n i:Nat}(h:i<n):(List.replicate i (-1:Int)++List.replicate (n-i) 0).set i (-1)=List.replicate (i+1) (-1)++List.replicate (n-(i+1)) 0:=by rw[List.set_append_right _ _ (by simp),ZbT,Nat.sub_self,show n-i=(n-(i+1))+1 by omega,Zbr,Zb5,List.replicate_succ',ZaV];rfl
theorem Qcx{l:List Int}{i:Nat}{x:Int}:(ints l).set i (.int .i64 x)=ints (l.set i x):=by simp[ints,List.map_set]
def Bd(s:QS):Prop:=∀x,s.1.getD x 0<=s.2.length
theorem Qur{left:Nat->Bool}{v y:Nat}{s:QS}(h:Bd s):Bd (bEd left v s y):=by
 unfold bEd;split
 ·intro x;have h1:=h x;have a:=h v;show(s.1.set y (s.1.getD v 0+1)).getD x 0<=((s.2++[y]).length:Int);rw[Zaf,Zbk];rw[Zak,List.getElem?_set];rw[Zak]at h1;split
  ·split;·simp only[Zb2];omega
   simp only[Option.getD_none];omega
  omega
 exact h
theorem Qus{left:Nat->Bool}{x:Nat}{s:QS}(h:Bd s):Bd (bMk left s x):=by
 unfold bMk;split
 ·intro z;have h1:=h z;show(s.1.set x 0).getD z 0<=((s.2++[x]).length:Int);rw[Zaf,Zbk];rw[Zak,List.getElem?_set];rw[Zak]at h1;split
  ·split;·simp only[Zb2];omega
   simp only[Option.getD_none];omega
  omega
 exact h
theorem Qfi{left:Nat->Bool}{v:Nat}:∀(ys:List Nat)(s:QS),Bd s->Bd (ys.foldl (bEd left v) s)|[],s,h=>h|y::ys,s,h=>Qfi ys _ (Qur h)
theorem Qti{n:Nat}{left:Nat->Bool}(mk:List Nat):Bd (bMks n mk left):=by
 have key:∀(mk:List Nat)(s:QS),Bd s->Bd (mk.foldl (bMk left) s):=by intro mk;induction mk with|nil=>intro s h;exact h|cons x mk a=>intro s h;exact a _ (Qus h)
 refine key mk _ fun x=>?_;simp only[Zak,List.getElem?_replicate];split<;>simp
theorem Qut(n:Nat)(left:Nat->Bool)(mk:List Nat):(bMks n mk left).2.length<=mk.length:=by
 have key:∀(mk:List Nat)(s:QS),(mk.foldl (bMk left) s).2.length<=s.2.length+mk.length:=by intro mk;induction mk with|nil=>intro s;simp|cons x mk a=>intro s;rw[ZaP];refine Zaw (a _) ?_;unfold bMk;split<;>simp<;>omega
 have:=key mk (List.replicate n (-1),[]);unfold bMks;simpa using this
theorem QbN{l:List Int}{i:Nat}{x:Int}(h:l[i]?=some x):(ints l)[i]?=some (.int .i64 x):=by simp[ints,h]
theorem Qbb{l:List Int}{i:Nat}(h:i<l.length):(ints l)[i]?=some (.int .i64 (l.getD i 0)):=by simp[ints,h]
theorem _root_.Go.AM.au3{p:Prop}(h:p:=by repeat'(first|exact ZcA|(refine Zcr ?_;first|rfl|(simp only[noRef,noRefs,Qag,Zad,Zac,Zai,Qad,Qaj,Qaf,Qak,Qah,Qan,Qae,Qar,Qai,Qal,Qam];done))|exact ZcM rfl|exact ZcG|exact(True.intro:RnM _ _ _ [] [])|refine ZcH ?_ ?_|(refine Zcq ?_;first|rfl|(simp only[noRef,noRefs,Qag,Zad,Zac,Zai,Qad,Qaj,Qaf,Qak,Qah,Qan,Qae,Qar,Qai,Qal,Qam];done))|exact Rn.x1 rfl rfl|exact Rn.x2 rfl rfl|exact Rn.x3 rfl rfl|exact Rn.x4 rfl rfl|exact Rn.x5 rfl|exact Rn.x6 rfl|exact Rn.x7 rfl|refine ZcC rfl rfl ?_|refine ZcB rfl rfl rfl ?_ ?_|refine ZcD rfl rfl rfl ?_ ?_|refine ZcE rfl rfl ?_ ?_|refine ZcF rfl rfl ?_ ?_)):p:=h
theorem _root_.Go.AM.au4{p:Prop}(h:p:=by repeat(first|exact Zcy|(refine Zcz ?_ ?_;·(first|exact Rn.any|exact Rn.x1 rfl rfl|exact Rn.x2 rfl rfl|exact Rn.x3 rfl rfl|exact Rn.x4 rfl rfl|exact Rn.x5 rfl|exact Rn.x6 rfl|exact Rn.x7 rfl|(refine Rn.slot ?_ ?_;(first|rfl|(rw[ZaS];rfl));(first|rfl|(simp only[noRef,noRefs,Qag,Zad,Zac,Zai,Qad,Qaj,Qaf,Qak,Qah,Qan,Qae,Qar,Qai,Qal,Qam];done)))|(refine Rn.fn ?_ ?_<;>(repeat'(first|exact ZcG|refine ZcH ?_ ?_|exact Zcq rfl|exact Rn.x6 rfl|exact Rn.x2 rfl rfl|exact Rn.x5 rfl|exact Rn.x1 rfl rfl))))))):p:=h
theorem dist53(a:Aut)(u:List Nat)(l:LB)(w:InN a.n a.es a.ms)(hnd:a.ms.Nodup)(hl:l.length=a.n)(hn:a.n<=4096)(hel:a.es.length<=1000000)(hml:a.ms.length<=1000000):HSpec Tryz.prog 231 [pv a u l] .e (.sl 80 0 0 a.n 1) (hp [(80,.cells 0 (ints (pDist a.n a.es a.ms (lf l))))]):=by
 refine HSpec.Qb0 100 ok231 rfl ?_;have hn':(a.n:Int)<=140737488355328:=by omega
 have hn8:(8:Int)*a.n<=140737488355328:=by omega
 unfold s231;refine Zc0 (Zc2 hn' hn8 @QmK) ?_;refine Qaq 100 (fun i:Nat=>[(0,pv a u l),(3,.sl 80 0 0 a.n 1),(18,.int .i64 a.n),(19,.int .i64 i)]) (fun i=>[(80,.cells 0 (ints (List.replicate i (-1)++List.replicate (a.n-i) 0)))]) (fun i=>i<=a.n) (fun i=>a.n-i) 0 0 120 (fun _:Unit=>[(0,pv a u l),(3,.sl 80 0 0 a.n 1)]) (fun _=>[(80,.cells 0 (ints (List.replicate a.n (-1))))]) (fun _=>True) ?_ (Zah _) ?_ ?_;·exact⟨[(80,.blk 106 0)],rfl,au0,au3,au4⟩
 ·rintro i hi;by_cases c:i<a.n
  ·have h1:i+1<=i+(a.n-i):=by omega
   refine Zc0 (Zc3 c h1 @Qcx (QkT c)) ?_;exact⟨i+1,by omega,by omega,⟨[(80,.blk 80 0)],rfl,au0,au3,au4⟩⟩
  have e:i=a.n:=by omega
  subst e;have e2:List.replicate a.n (-1:Int)++List.replicate (a.n-a.n) 0=List.replicate a.n (-1):=by simp
  refine Zc0 c ?_;refine⟨(),?_⟩;rw[e2];exact⟨[(80,.blk 80 0)],rfl,au0,au3,au4⟩
 rintro _ _;refine ZcZ ?_;refine Qaq 140 (fun i:Nat=>[(0,pv a u l),(3,.sl 80 0 0 a.n 1),(5,.sl 81 0 0 (bMks a.n (a.ms.take i) (lf l)).2.length 1),(30,sliN a.ms),(31,.int .i64 a.ms.length),(32,.int .i64 i)]) (fun i=>[(80,.cells 0 (ints (bMks a.n (a.ms.take i) (lf l)).1)),(81,.cells 0 (ints (nz (bMks a.n (a.ms.take i) (lf l)).2)))]) (fun i=>i<=a.ms.length) (fun i=>a.ms.length-i) 0 2 160 (fun _:Unit=>[(0,pv a u l),(3,.sl 80 0 0 a.n 1),(5,.sl 81 0 0 (bMks a.n a.ms (lf l)).2.length 1)]) (fun _=>[(80,.cells 0 (ints (bMks a.n a.ms (lf l)).1)),(81,.cells 0 (ints (nz (bMks a.n a.ms (lf l)).2)))]) (fun _=>True) ?_ (Zah _) ?_ ?_;·exact⟨[(80,.blk 80 0),(81,.nil)],rfl,au0,au3,au4⟩
 ·rintro i hi;by_cases c:i<a.ms.length
  ·obtain⟨x,T⟩:=Qap c;have L:=w.2 x (Zae T);have S:=QqH (n:=a.n) (left:=lf l) T;have K:=Qut a.n (lf l) (a.ms.take i);rw[Zav]at K;have hlen:=Qsd a.n (a.ms.take i) (lf l);generalize bMks a.n (a.ms.take i) (lf l)=s at*;have h1:x+1<=s.1.length:=by omega
   have N:x<l.length:=by omega
   by_cases g:lf l x=true;·rw[bMk,if_pos g]at S;refine Zc0 (Zc6 c (Qaz T) L (Qa0 N) g @Qcx h1) ?_;refine⟨i+1,by omega,by omega,?_⟩;rw[S,QaF,Qay,Zaf];exact⟨[(80,.blk 80 0),(81,.blk 81 1)],rfl,au0,au3,au4⟩
   rw[bMk,if_neg g]at S;rw[Zam]at g;refine Zc0 (Zc4 c (Qaz T) L (Qa0 N) g) ?_;refine⟨i+1,by omega,by omega,?_⟩;rw[S];exact⟨[(80,.blk 80 0),(81,.blk 81 0)],rfl,au0,au3,au4⟩
  have e:i=a.ms.length:=by omega
  subst e;refine Zc0 c ?_;refine⟨(),?_⟩;exact⟨[(80,.blk 80 0),(81,.blk 81 0)],rfl,au0,au3,au4⟩
 rintro _ _;refine ZcZ ?_;have hb0:=Qef (left:=lf l) w hnd;have hd0:=Qti (n:=a.n) (left:=lf l) a.ms;have R:(bQ a.es (lf l) (a.n+1) 0 (bMks a.n a.ms (lf l))).1=pDist a.n a.es a.ms (lf l):=rfl;generalize bMks a.n a.ms (lf l)=X at*;refine Qaq 180 (fun t:Nat×QS=>[(0,pv a u l),(3,.sl 80 0 0 a.n 1),(5,.sl 81 0 0 t.2.2.length 1),(8,.int .i64 t.1)]) (fun t=>[(80,.cells 0 (ints t.2.1)),(81,.cells 0 (ints (nz t.2.2)))]) (fun t=>t.1<=a.n/\BH a.n a.es a.ms (lf l) t.1 t.2/\Bd t.2/\bQ a.es (lf l) (a.n+1-t.1) t.1 t.2=bQ a.es (lf l) (a.n+1) 0 X) (fun t=>a.n+1-t.1) (0,X) 4 200 (fun _:Unit=>[(3,.sl 80 0 0 a.n 1)]) (fun _=>[(80,.cells 0 (ints (pDist a.n a.es a.ms (lf l))))]) (fun _=>True) ?_ ⟨Zah _,hb0,hd0,rfl⟩ ?_ ?_;·exact⟨[(80,.blk 80 0),(81,.blk 81 0)],rfl,au0,au3,au4⟩
 ·rintro⟨i,s⟩⟨hi,k,r,K⟩;dsimp only at hi k r K⊢;have hsl:=k.bi.cnt;have hlen:=k.bi.len;by_cases c:i<s.2.length
  ·obtain⟨v,A⟩:=Qap c;have B:=((k.bi.inl v).1 (Zae A)).1;have C:i<a.n:=by omega
   have Q:bQ a.es (lf l) (a.n+1-(i+1)) (i+1) (bRow a.es (lf l) v s)=bQ a.es (lf l) (a.n+1) 0 X:=by rw[<-K,show a.n+1-i=(a.n+1-(i+1))+1 by omega];simp only[bQ,A]
   have E:=k.step w A;have G:=fun ys(V:∀y∈ys,∃e∈a.es,e.1=y/\e.2.2=v)=>BI.row (left:=lf l) (mk:=a.ms) w (v:=v) (i:=i) ys s V k.bi A (k.near v A) k.done;have hpl:=QkQ a.es v;refine Zc0 (Zc2 c (Qaz A) (QbN (nz_at A))) ?_;have P:∀y∈preds a.es v,y<a.n:=fun y h=>by obtain⟨e,he,h1,z⟩:=QdP.1 h;have:=(w.1 e he).1;omega
   by_cases Y:v∈keysR a.es
   ·refine QnO Y ?_;refine ZcZ ?_;refine Qaq 220 (fun j:Nat=>[(65,sliN (preds a.es v)),(66,.int .i64 (preds a.es v).length),(0,pv a u l),(3,.sl 80 0 0 a.n 1),(5,.sl 81 0 0 (((preds a.es v).take j).foldl (bEd (lf l) v) s).2.length 1),(8,.int .i64 i),(67,.int .i64 j)]) (fun j=>[(80,.cells 0 (ints (((preds a.es v).take j).foldl (bEd (lf l) v) s).1)),(81,.cells 0 (ints (nz (((preds a.es v).take j).foldl (bEd (lf l) v) s).2)))]) (fun j=>j<=(preds a.es v).length) (fun j=>(preds a.es v).length-j) 0 6 240 (fun _:Unit=>[(0,pv a u l),(3,.sl 80 0 0 a.n 1),(5,.sl 81 0 0 (bRow a.es (lf l) v s).2.length 1),(8,.int .i64 i)]) (fun _=>[(80,.cells 0 (ints (bRow a.es (lf l) v s).1)),(81,.cells 0 (ints (nz (bRow a.es (lf l) v s).2)))]) (fun _=>True) ?_ (Zah _) ?_ ?_;·exact⟨[(80,.blk 80 0),(81,.blk 81 0)],rfl,au0,au3,au4⟩
    ·rintro j hj;by_cases d:j<(preds a.es v).length
     ·obtain⟨y,h⟩:=Qap d;have o:=P y (Zae h);obtain⟨k1,k2,_,_,_,_⟩:=G ((preds a.es v).take j) (fun y h=>QdP.1 (ZaQ h));have p:=Qfi (left:=lf l) (v:=v) ((preds a.es v).take j) s r;have b:=QkS (left:=lf l) (v:=v) (s:=s) h;generalize((preds a.es v).take j).foldl (bEd (lf l) v) s=t at*;have hcn:=k1.cnt;have hln:=k1.len;have H:i<t.2.length:=(Zag.1 k2).1;have m:y<l.length:=by omega
      have I:y+1<=t.1.length:=by omega
      have q:y<t.1.length:=by omega
      have J:v<t.1.length:=by omega
      have hv1:=k1.neg v B;have U:=p v;by_cases g:lf l y=true
      ·by_cases z:t.1.getD y 0<0
       ·have f:bEd (lf l) v t y=(t.1.set y (t.1.getD v 0+1),t.2++[y]):=by unfold bEd;rw[if_pos (by rw[g,decide_eq_true z];rfl)]
        rw[f]at b;refine Zc0 (Zdc d (Qaz h) o (Qa0 m) g (Qbb q) z H (QbN (nz_at k2)) B (Qbb J) I @Qcx) ?_;refine⟨j+1,by omega,by omega,?_⟩;rw[b,QaF,Qay,Zaf];exact⟨[(80,.blk 80 0),(81,.blk 81 1)],rfl,au0,au3,au4⟩
       have f:bEd (lf l) v t y=t:=by unfold bEd;rw[if_neg (by rw[g,decide_eq_false z];decide)]
       rw[f]at b;refine Zc0 (Zc6 d (Qaz h) o (Qa0 m) g (Qbb q) z) ?_;refine⟨j+1,by omega,by omega,?_⟩;rw[b];exact⟨[(80,.blk 80 0),(81,.blk 81 0)],rfl,au0,au3,au4⟩
      have f:bEd (lf l) v t y=t:=by unfold bEd;rw[if_neg (by simp[g])]
      rw[f]at b;rw[Zam]at g;refine Zc0 (Zc4 d (Qaz h) o (Qa0 m) g) ?_;refine⟨j+1,by omega,by omega,?_⟩;rw[b];exact⟨[(80,.blk 80 0),(81,.blk 81 0)],rfl,au0,au3,au4⟩
     have e:j=(preds a.es v).length:=by omega
     subst e;refine Zc0 d ?_;refine⟨(),?_⟩;exact⟨[(80,.blk 80 0),(81,.blk 81 0)],rfl,au0,au3,au4⟩
    rintro _ _;refine ZcZ ?_;exact⟨(i+1,bRow a.es (lf l) v s),by dsimp only;omega,⟨C,E,Qfi _ _ r,Q⟩,⟨[(80,.blk 80 0),(81,.blk 81 0)],rfl,au0,au3,au4⟩⟩
   refine QmE Y ?_;have M:=Qd4 Y;refine ZcZ ?_;refine Qaq 220 (fun j:Nat=>[(65,sliN (preds a.es v)),(66,.int .i64 (preds a.es v).length),(0,pv a u l),(3,.sl 80 0 0 a.n 1),(5,.sl 81 0 0 (((preds a.es v).take j).foldl (bEd (lf l) v) s).2.length 1),(8,.int .i64 i),(67,.int .i64 j)]) (fun j=>[(80,.cells 0 (ints (((preds a.es v).take j).foldl (bEd (lf l) v) s).1)),(81,.cells 0 (ints (nz (((preds a.es v).take j).foldl (bEd (lf l) v) s).2)))]) (fun j=>j<=(preds a.es v).length) (fun j=>(preds a.es v).length-j) 0 6 240 (fun _:Unit=>[(0,pv a u l),(3,.sl 80 0 0 a.n 1),(5,.sl 81 0 0 (bRow a.es (lf l) v s).2.length 1),(8,.int .i64 i)]) (fun _=>[(80,.cells 0 (ints (bRow a.es (lf l) v s).1)),(81,.cells 0 (ints (nz (bRow a.es (lf l) v s).2)))]) (fun _=>True) ?_ (Zah _) ?_ ?_;·exact⟨[(80,.blk 80 0),(81,.blk 81 0)],rfl,Zcx,au3,Zcz (by rw[M];exact Rn.nilK) (Zcz (by rw[M];exact Zcq rfl) au4)⟩
   ·rintro j hj;by_cases d:j<(preds a.es v).length
    ·obtain⟨y,h⟩:=Qap d;have o:=P y (Zae h);obtain⟨k1,k2,_,_,_,_⟩:=G ((preds a.es v).take j) (fun y h=>QdP.1 (ZaQ h));have p:=Qfi (left:=lf l) (v:=v) ((preds a.es v).take j) s r;have b:=QkS (left:=lf l) (v:=v) (s:=s) h;generalize((preds a.es v).take j).foldl (bEd (lf l) v) s=t at*;have hcn:=k1.cnt;have hln:=k1.len;have H:i<t.2.length:=(Zag.1 k2).1;have m:y<l.length:=by omega
     have I:y+1<=t.1.length:=by omega
     have q:y<t.1.length:=by omega
     have J:v<t.1.length:=by omega
     have hv1:=k1.neg v B;have U:=p v;by_cases g:lf l y=true
     ·by_cases z:t.1.getD y 0<0
      ·have f:bEd (lf l) v t y=(t.1.set y (t.1.getD v 0+1),t.2++[y]):=by unfold bEd;rw[if_pos (by rw[g,decide_eq_true z];rfl)]
       rw[f]at b;refine Zc0 (Zdc d (Qaz h) o (Qa0 m) g (Qbb q) z H (QbN (nz_at k2)) B (Qbb J) I @Qcx) ?_;refine⟨j+1,by omega,by omega,?_⟩;rw[b,QaF,Qay,Zaf];exact⟨[(80,.blk 80 0),(81,.blk 81 1)],rfl,au0,au3,au4⟩
      have f:bEd (lf l) v t y=t:=by unfold bEd;rw[if_neg (by rw[g,decide_eq_false z];decide)]
      rw[f]at b;refine Zc0 (Zc6 d (Qaz h) o (Qa0 m) g (Qbb q) z) ?_;refine⟨j+1,by omega,by omega,?_⟩;rw[b];exact⟨[(80,.blk 80 0),(81,.blk 81 0)],rfl,au0,au3,au4⟩
     have f:bEd (lf l) v t y=t:=by unfold bEd;rw[if_neg (by simp[g])]
     rw[f]at b;rw[Zam]at g;refine Zc0 (Zc4 d (Qaz h) o (Qa0 m) g) ?_;refine⟨j+1,by omega,by omega,?_⟩;rw[b];exact⟨[(80,.blk 80 0),(81,.blk 81 0)],rfl,au0,au3,au4⟩
    have e:j=(preds a.es v).length:=by omega
    subst e;refine Zc0 d ?_;refine⟨(),?_⟩;exact⟨[(80,.blk 80 0),(81,.blk 81 0)],rfl,au0,au3,au4⟩
   rintro _ _;refine ZcZ ?_;exact⟨(i+1,bRow a.es (lf l) v s),by dsimp only;omega,⟨C,E,Qfi _ _ r,Q⟩,⟨[(80,.blk 80 0),(81,.blk 81 0)],rfl,au0,au3,au4⟩⟩
  have A:s.2[i]?=none:=ZaD (by omega);have Z:s.1=pDist a.n a.es a.ms (lf l):=by rw[<-R,<-K,show a.n+1-i=(a.n-i)+1 by omega];simp only[bQ,A]
  refine Zc0 c ?_;refine⟨(),?_⟩;rw[Z];exact⟨[(80,.blk 80 0)],rfl,au0,au3,au4⟩
 rintro _ _;refine ZcZ ?_;exact⟨.inr trivial,_,rfl,⟨[(80,.blk 80 0)],rfl,au0,au3,au4⟩⟩
def bkC(rank:Int)(x:Nat):List AV:=[.int .i64 (x:Int),.int .i64 rank,.int .i64 3,.int .i64 (-1)]
theorem Qax(rank:Int)(l:List Nat):noRefs (l.flatMap (bkC rank))=true:=Qa1 (fun x=>rfl) l
def lsC(rank:Int)(p:Nat×Nat):List AV:=[.int .i64 (p.1:Int),.int .i64 rank,.int .i64 2,.int .i64 (p.2:Int)]
theorem Qao(rank:Int)(l:List (Nat×Nat)):noRefs (l.flatMap (lsC rank))=true:=Qa1 (fun x=>rfl) l
theorem ls_rm(rank:Int)(l:List (Nat×Nat)):l.flatMap (lsC rank)=(lostF rank l).flatMap rmC:=by unfold lostF;rw[List.flatMap_map];rfl
theorem QqI(rank:Int)(l:List (Nat×Nat)):(l.flatMap (lsC rank)).length=l.length*4:=Qa9 (f:=lsC rank) (k:=4) (fun _=>rfl) l
theorem QqJ{rank:Int}{l:List (Nat×Nat)}{i:Nat}{p:Nat×Nat}(h:l[i]?=some p):(l.flatMap (lsC rank))[i*4]?=some (.int .i64 (p.1:Int)):=by
 have:=Qa7 (f:=lsC rank) (k:=4) (fun _=>rfl) h;have a:((l.flatMap (lsC rank)).drop (i*4))[0]?=some (.int .i64 (p.1:Int)):=by rw[this];rfl
 simpa using a
theorem Qpv{es:List Ed}{left:Nat->Bool}{unc:List Nat}{i:Nat}{e:Ed}(h:es[i]?=some e):pLost (es.take (i+1)) left unc=pLs left unc (pLost (es.take i) left unc) e:=by unfold pLost;rw[ZaZ,h,Option.toList,Za4];rfl
theorem QqK(es:List Ed)(left:Nat->Bool)(unc:List Nat):(pLost es left unc).length<=es.length:=by
 have key:∀(es:List Ed)(o:List (Nat×Nat)),(es.foldl (pLs left unc) o).length<=o.length+es.length:=by intro es;induction es with|nil=>intro o;simp|cons e es a=>intro o;rw[ZaP];refine Zaw (a _) ?_;unfold pLs;(repeat' split)<;>(try simp)<;>(try omega)
 have:=key es [];unfold pLost;simpa using this
theorem _root_.Go.AM.au5{p:Prop}(h:p:=by repeat'(first|exact ZcA|(refine Zcr ?_;first|rfl|(simp only[noRef,noRefs,Qag,Zad,Zac,Zai,Qad,Qaj,Qaf,Qak,Qao,Qax,Qah,Qan,Qae,Qar,Qai,Qal,Qam];done))|exact ZcM rfl|exact ZcG|exact(True.intro:RnM _ _ _ [] [])|refine ZcH ?_ ?_|(refine Zcq ?_;first|rfl|(simp only[noRef,noRefs,Qag,Zad,Zac,Zai,Qad,Qaj,Qaf,Qak,Qao,Qax,Qah,Qan,Qae,Qar,Qai,Qal,Qam];done))|exact Rn.x1 rfl rfl|exact Rn.x2 rfl rfl|exact Rn.x3 rfl rfl|exact Rn.x4 rfl rfl|exact Rn.x5 rfl|exact Rn.x6 rfl|exact Rn.x7 rfl|refine ZcC rfl rfl ?_|refine ZcB rfl rfl rfl ?_ ?_|refine ZcD rfl rfl rfl ?_ ?_|refine ZcE rfl rfl ?_ ?_|refine ZcF rfl rfl ?_ ?_)):p:=h
theorem _root_.Go.AM.au6{p:Prop}(h:p:=by repeat(first|exact Zcy|(refine Zcz ?_ ?_;·(first|exact Rn.any|exact Rn.x1 rfl rfl|exact Rn.x2 rfl rfl|exact Rn.x3 rfl rfl|exact Rn.x4 rfl rfl|exact Rn.x5 rfl|exact Rn.x6 rfl|exact Rn.x7 rfl|(refine Rn.slot ?_ ?_;(first|rfl|(rw[ZaS];rfl));(first|rfl|(simp only[noRef,noRefs,Qag,Zad,Zac,Zai,Qad,Qaj,Qaf,Qak,Qao,Qax,Qah,Qan,Qae,Qar,Qai,Qal,Qam];done)))|(refine Rn.fn ?_ ?_<;>(repeat'(first|exact ZcG|refine ZcH ?_ ?_|exact Zcq rfl|exact Rn.x6 rfl|exact Rn.x2 rfl rfl|exact Rn.x5 rfl|exact Rn.x1 rfl rfl))))))):p:=h
theorem lost47(a:Aut)(u:List Nat)(l:LB)(rank:Int)(hes:∀e∈a.es,e.1<a.n/\e.2.2<a.n)(hl:l.length=a.n)(hel:a.es.length<=1000000)(hul:u.length<=1000000):HSpec Tryz.prog 270 [pv a u l,.int .i64 rank] .e (.sl 80 0 0 (lostF rank (pLost a.es (lf l) u)).length 4) (hp [(80,.cells 0 ((lostF rank (pLost a.es (lf l) u)).flatMap rmC))]):=by
 rw[<-ls_rm,show(lostF rank (pLost a.es (lf l) u)).length=(pLost a.es (lf l) u).length by unfold lostF;rw[Zaz]];refine HSpec.Qb0 100 ok270 rfl ?_;unfold s270;refine ZcZ ?_;refine Qaq 100 (fun i:Nat=>[(0,pv a u l),(1,.int .i64 rank),(5,.sl 80 0 0 (pLost (a.es.take i) (lf l) u).length 4),(13,egsN a.es),(14,.int .i64 a.es.length),(15,.int .i64 i)]) (fun i=>[(80,.cells 0 ((pLost (a.es.take i) (lf l) u).flatMap (lsC rank)))]) (fun i=>i<=a.es.length) (fun i=>a.es.length-i) 0 0 120 (fun _:Unit=>[(5,.sl 80 0 0 (pLost a.es (lf l) u).length 4)]) (fun _=>[(80,.cells 0 ((pLost a.es (lf l) u).flatMap (lsC rank)))]) (fun _=>True) ?_ (Zah _) ?_ ?_;·exact⟨[(80,.nil)],rfl,au0,au5,au6⟩
 ·rintro i hi;by_cases hlt:i<a.es.length
  ·obtain⟨e,he⟩:=Qap hlt;obtain⟨hfr,hto⟩:=hes e (Zae he);have hst:=Qpv (left:=lf l) (unc:=u) he;have hol:=QqK (a.es.take i) (lf l) u;rw[Zav]at hol;generalize pLost (a.es.take i) (lf l) u=o at*;have hfl:e.1<l.length:=by omega
   have htl:e.2.2<l.length:=by omega
   by_cases h1:lf l e.1=true
   ·by_cases h2:lf l e.2.2=true
    ·have :bad (lf l) u e=false:=by simp[bad,h2]
     rw[pLs,if_neg (by simp[this])]at hst;refine Zc0 (Zc7 hlt (QaJ he) hfr hto (Qa0 hfl) (Qa0 htl) h1 h2) ?_;refine⟨i+1,by omega,by omega,?_⟩;rw[hst];exact⟨[(80,.blk 80 0)],rfl,au0,au5,au6⟩
    ·rw[Zam]at h2;by_cases h3:u.contains e.2.1=true
     ·have hb:bad (lf l) u e=true:=by simp only[bad,h1,h2,h3];rfl
      rw[pLs,if_pos hb]at hst;refine Zc0 (Zc7 hlt (QaJ he) hfr hto (Qa0 hfl) (Qa0 htl) h1 h2) ?_;have hc:=contains62 (nz u) e.2.1 (by simp;omega);rw[Qbn,Qfh,h3]at hc;refine cp hc ?_;by_cases h4:o.length=0
      ·have ho:o=[]:=Zbj h4;have hlast:o.getLast?=none:=by rw[ho];rfl
       rw[hlast,if_neg (by simp)]at hst;have h6:¬(0:Int)<(o.length:Int):=by omega
       have hll:=QqI rank o;refine Zc0 (Zc1 h6 hll) ?_;refine⟨i+1,by omega,by omega,?_⟩;rw[hst,Zaq,Zaf];exact⟨[(80,.blk 80 1)],rfl,au0,au5,au6⟩
      ·obtain⟨p,hp⟩:=Qap (l:=o) (i:=o.length-1) (by omega);have hlast:o.getLast?=some p:=by rw[List.getLast?_eq_getElem?];exact hp
       rw[hlast]at hst;have h5:(o.length:Int)-1=((o.length-1:Nat):Int):=by omega
       have h6:(0:Int)<(o.length:Int):=by omega
       have h7:((o.length-1:Nat):Int)<(o.length:Int):=by omega
       by_cases h8:p.1=e.1;·rw[if_pos (by simpa using h8)]at hst;simp(disch:=first|omega|exact PairsOK.mk rfl|(simp only[lenW]<;>omega))only[h5,h6,h7,QqJ hp,h8,wW,wV,simprocAttr];refine⟨i+1,by omega,by omega,?_⟩;rw[hst];exact⟨[(80,.blk 80 0)],rfl,au0,au5,au6⟩
       ·rw[if_neg (by simpa using h8)]at hst;have hll:=QqI rank o;simp(disch:=first|omega|exact PairsOK.mk rfl|(simp only[lenW]<;>omega))only[h5,h6,h7,QqJ hp,h8,hll,wW,wV,simprocAttr];refine⟨i+1,by omega,by omega,?_⟩;rw[hst,Zaq,Zaf];exact⟨[(80,.blk 80 1)],rfl,au0,au5,au6⟩
     ·rw[Zam]at h3;have:bad (lf l) u e=false:=by simp only[bad,h1,h2,h3];rfl
      rw[pLs,if_neg (by simp[this])]at hst;refine Zc0 (Zc7 hlt (QaJ he) hfr hto (Qa0 hfl) (Qa0 htl) h1 h2) ?_;have hc:=contains62 (nz u) e.2.1 (by simp;omega);rw[Qbn,Qfh,h3]at hc;refine cp hc ?_;refine ZcZ ?_;refine⟨i+1,by omega,by omega,?_⟩;rw[hst];exact⟨[(80,.blk 80 0)],rfl,au0,au5,au6⟩
   ·rw[Zam]at h1;have:bad (lf l) u e=false:=by simp[bad,h1]
    rw[pLs,if_neg (by simp[this])]at hst;refine Zc0 (Zc6 hlt (QaJ he) hfr hto (Qa0 hfl) (Qa0 htl) h1) ?_;refine⟨i+1,by omega,by omega,?_⟩;rw[hst];exact⟨[(80,.blk 80 0)],rfl,au0,au5,au6⟩
  ·have e:i=a.es.length:=by omega
   subst e;refine Zc0 hlt ?_;refine⟨(),?_⟩;exact⟨[(80,.blk 80 0)],rfl,au0,au5,au6⟩
 rintro _ _;refine ZcZ ?_;exact⟨.inr trivial,_,rfl,⟨[(80,.blk 80 0)],rfl,au0,au5,au6⟩⟩
def blkP(left:Nat->Bool)(d:List Int)(n:Nat):List Nat:=(List.range n).filter fun i=>left i&&decide (d.getD i 0<0)
theorem Quu(rank:Int)(l:List Nat):(l.flatMap (bkC rank)).length=l.length*4:=Qa9 (f:=bkC rank) (k:=4) (fun _=>rfl) l
theorem QoF(left:Nat->Bool)(rank:Int)(d:List Int):blkF left rank d=(blkP left d d.length).map fun x=>⟨x,rank,3,-1⟩:=by unfold blkF blkP;generalize List.range d.length=r;induction r with|nil=>rfl|cons x r a=>
 rw[Zbw,Zbv];by_cases h:(left x&&decide (d.getD x 0<0))=true;·rw[if_pos h,if_pos h,ZaJ,<-a]
 rw[if_neg h,if_neg h,<-a]
theorem bk_rm(left:Nat->Bool)(rank:Int)(d:List Int):(blkP left d d.length).flatMap (bkC rank)=(blkF left rank d).flatMap rmC:=by rw[QoF,List.flatMap_map];rfl
theorem Qse(left:Nat->Bool)(d:List Int)(n:Nat):(blkP left d n).length<=n:=by unfold blkP;exact Zaw (ZaI _ _) (by simp)
theorem QqL{left:Nat->Bool}{d:List Int}{i:Nat}:blkP left d (i+1)=blkP left d i++if left i&&decide (d.getD i 0<0)then[i]else[]:=by
 unfold blkP;rw[ZaO,Zbi];congr 1;by_cases h:(left i&&decide (d.getD i 0<0))=true;·rw[if_pos h,Zbv,if_pos h];rfl
 rw[if_neg h,Zbv,if_neg h];rfl
theorem QkU{n:Nat}{es:List Ed}{mk:List Nat}{left:Nat->Bool}(a:InN n es mk)(b:mk.Nodup):(pDist n es mk left).length=n:=(QgF a (n+1) 0 _ (Qef a b) (by omega)).1
theorem blocked48(a:Aut)(u:List Nat)(l:LB)(rank:Int)(k:InN a.n a.es a.ms)(h:a.ms.Nodup)(v:l.length=a.n)(x:a.n<=4096)(s:a.es.length<=1000000)(p:a.ms.length<=1000000):HSpec Tryz.prog 271 [pv a u l,.int .i64 rank] .e (.sl 81 0 0 (blkF (lf l) rank (pDist a.n a.es a.ms (lf l))).length 4) (hp [(81,.cells 0 ((blkF (lf l) rank (pDist a.n a.es a.ms (lf l))).flatMap rmC))]):=by
 have q:=QkU (left:=lf l) k h;have t:=dist53 a u l k h v x s p;generalize pDist a.n a.es a.ms (lf l)=d at*;rw[<-bk_rm,QoF,Zaz,q];refine HSpec.Qb0 100 ok271 rfl ?_;unfold s271;refine ZcZ ?_;refine ch (HSpec.of_O (b:=80) (by(try simp only[noRefs,Qal,Qam,Qad,Qaj,Qaf,Qak,Qao,Qax,Qah,noRef,Zad,Zac])<;>rfl) t (by repeat(first|exact Fresh.e|exact Fresh.le (by assumption) (by omega)|refine Fresh.set ?_ (by omega) (by omega))) rfl) ?_;refine ZcZ ?_;refine Qaq 110 (fun i:Nat=>[(0,pv a u l),(1,.int .i64 rank),(5,.sl 81 0 0 (blkP (lf l) d i).length 4),(9,.sl 80 0 0 a.n 1),(10,.int .i64 a.n),(11,.int .i64 i)]) (fun i=>[(80,.cells 0 (ints d)),(81,.cells 0 ((blkP (lf l) d i).flatMap (bkC rank)))]) (fun i=>i<=a.n) (fun i=>a.n-i) 0 0 120 (fun _:Unit=>[(5,.sl 81 0 0 (blkP (lf l) d a.n).length 4)]) (fun _=>[(81,.cells 0 ((blkP (lf l) d a.n).flatMap (bkC rank)))]) (fun _=>True) ?_ (Zah _) ?_ ?_;·exact⟨[(80,.blk 80 0),(81,.nil)],rfl,au0,au5,au6⟩
 ·rintro i hi;by_cases c:i<a.n
  ·have b:=QqL (left:=lf l) (d:=d) (i:=i);have w:=Qse (lf l) d i;generalize blkP (lf l) d i=o at*;have f:i<l.length:=by omega
   have g:i<d.length:=by omega
   have r:=Quu rank o;by_cases h1:lf l i=true
   ·by_cases m:d.getD i 0<0;·rw[if_pos (by rw[h1,decide_eq_true m];rfl)]at b;refine Zc0 (Zc5 c (Qbb g) (Qa0 f) h1 m r) ?_;refine⟨i+1,by omega,by omega,?_⟩;rw[b,Zaq,Zaf];exact⟨[(80,.blk 80 0),(81,.blk 81 1)],rfl,au0,au5,au6⟩
    rw[if_neg (by rw[h1,decide_eq_false m];decide),Zap]at b;refine Zc0 (Zc4 c (Qbb g) (Qa0 f) h1 m) ?_;refine⟨i+1,by omega,by omega,?_⟩;rw[b];exact⟨[(80,.blk 80 0),(81,.blk 81 0)],rfl,au0,au5,au6⟩
   rw[if_neg (by simp[h1]),Zap]at b;rw[Zam]at h1;refine Zc0 (Zc3 c (Qbb g) (Qa0 f) h1) ?_;refine⟨i+1,by omega,by omega,?_⟩;rw[b];exact⟨[(80,.blk 80 0),(81,.blk 81 0)],rfl,au0,au5,au6⟩
  have e:i=a.n:=by omega
  subst e;refine Zc0 c ?_;refine⟨(),?_⟩;exact⟨[(81,.blk 81 0)],rfl,au0,au5,au6⟩
 rintro _ _;refine ZcZ ?_;exact⟨.inr trivial,_,rfl,⟨[(81,.blk 81 0)],rfl,au0,au5,au6⟩⟩
theorem QgP(l:List Rm):(l.flatMap rmC).length=l.length*4:=Qa9 (f:=rmC) (k:=4) (fun _=>rfl) l
theorem Qtj(l:List Rm):flatVs (l.flatMap rmC)=true:=by induction l with|nil=>rfl|cons x l a=>rw[Zay];simp only[rmC,Za0,ZaX,flatVs,flatV,Zai];exact a
theorem Qcy(l:List Int):flatVs (ints l)=true:=by induction l with|nil=>rfl|cons x l a=>simp only[ints,ZaJ,flatVs,flatV,Zai];exact a
theorem FrzTo.all{h:Heap}{b g len sz:Nat}{cs:List AV}(c:h.get b=some (.cells g cs))(a:cs.length=len*sz):FrzTo h (.sl b g 0 len sz) (.fsl cs len sz):=by refine FrzTo.sl c (by omega) ?_;rw[Zbm,<-a,Zar];exact Zcw _
theorem frzP{h:Heap}{a:Aut}{u:List Nat}{l:LB}(d:h.get 70=some (.cells 0 (pblk a u)))(c:h.get 71=some (.map 0 (mapF .i64 (backF a.es) (keysR a.es))))(b:h.get 72=some (.cells 0 (bls l)))(f:l.length=a.n):FrzTo h (.ptr 70 0 0) (pv a u l):=by refine ZcK d ?_;rw[Zbm];exact ZcO (Zcv _) (ZcO (Zcv _) (ZcO (Zcv _) (ZcO (Zcv _) (ZcO (Zcv _) (ZcO (FrzTo.mapF c fun x _=>Zcv _) (ZcO (FrzTo.all b (by rw[QjM,f,Zcj])) ZcN))))))
theorem next35(a:Aut)(u:List Nat)(l:LB)(rank:Int)(all:Bool)(d:InN a.n a.es a.ms)(g:a.ms.Nodup)(i:l.length=a.n)(m:a.n<=4096)(b:a.es.length<=1000000)(h:a.ms.length<=1000000)(f:u.length<=1000000):HSpec Tryz.prog 228 [pv a u l,.int .i64 rank,.bool all] .e (.sl 82 0 0 (pNext a.n a.es a.ms (lf l) u rank all).length 4) (hp [(82,.cells 0 ((pNext a.n a.es a.ms (lf l) u rank all).flatMap rmC))]):=by
 have h1:=lost47 a u l rank (fun e he=>d.1 e he) i b f;have k:=blocked48 a u l rank d g i m b h;have hlen:(lostF rank (pLost a.es (lf l) u)).length=(pLost a.es (lf l) u).length:=by unfold lostF;rw[Zaz]
 unfold pNext;refine HSpec.Qb0 100 ok228 rfl ?_;unfold s228;refine ZcZ ?_;refine ch (HSpec.of_O (b:=80) (by(try simp only[noRefs,Qal,Qam,Qad,Qaj,Qaf,Qak,Qao,Qah,noRef,Zad,Zac])<;>rfl) h1 (by repeat(first|exact Fresh.e|exact Fresh.le (by assumption) (by omega)|refine Fresh.set ?_ (by omega) (by omega))) rfl) ?_;rw[hlen];by_cases c:0<(pLost a.es (lf l) u).length;·rw[if_pos (by simp[c])];rw[hlen];generalize pLost a.es (lf l) u=o at*;refine Zc0 c ?_;exact⟨.inr trivial,_,rfl,⟨[(82,.blk 80 0)],rfl,au0,au5,au6⟩⟩
 cases all with|false=>rw[if_pos (by simp)];rw[hlen];generalize pLost a.es (lf l) u=o at*;refine Zc0 c ?_;exact⟨.inr trivial,_,rfl,⟨[(82,.blk 80 0)],rfl,au0,au5,au6⟩⟩|true=>rw[if_neg (by simp[c])];generalize pLost a.es (lf l) u=o at*;refine Zc0 c ?_;refine ch (HSpec.of_O (b:=81) (by(try simp only[noRefs,Qal,Qam,Qad,Qaj,Qaf,Qak,Qao,Qah,noRef,Zad,Zac])<;>rfl) k (by repeat(first|exact Fresh.e|exact Fresh.le (by assumption) (by omega)|refine Fresh.set ?_ (by omega) (by omega))) rfl) ?_;generalize blkF (lf l) rank (pDist a.n a.es a.ms (lf l))=q at*;refine ZcZ ?_;exact⟨.inr trivial,_,rfl,⟨[(82,.blk 81 0)],rfl,au0,au5,au6⟩⟩
theorem WfA.auOk{a:Aut}(h:WfA a)(c:a.es.length<=1000000):AuOk (au a):=by
 have g:a.al.length<=32:=QaQ 32 a.al (by rw[ZaN];exact h.al.imp fun h=>by omega) h.al5;have d:a.ms.length<=a.n:=QaQ a.n a.ms h.nd h.msn;have f:=h.n5;refine{len:=?_,all:=?_,fr:=?_,to:=?_,ev:=?_,up:=?_,alS:=SetOk.nz (n:=32) (fun x b=>by have:=h.al5 x b;omega) h.al,msS:=SetOk.nz h.msn h.ms,mslen:=?_,n0:=?_,nm:=?_};·show(a.es.map eg).length<=_;simp;omega
 ·show(nz a.al).length<=_;simp;omega
 ·intro e he;obtain⟨x,b,rfl⟩:=Zan.1 he;have:=h.esn x b;show(0:Int)<=x.1/\(x.1:Int)<a.n;omega
 ·intro e he;obtain⟨x,b,rfl⟩:=Zan.1 he;have:=h.esn x b;show(0:Int)<=x.2.2/\(x.2.2:Int)<a.n;omega
 ·intro e he;obtain⟨x,b,rfl⟩:=Zan.1 he;exact Zan.2 ⟨x.2.1,h.ev x b,rfl⟩
 ·show(a.es.map eg).Pairwise _;rw[ZbB];refine h.es.imp fun h=>?_;show(_:Int)<_\/(_:Int)=_/\(_:Int)<_;simp only[eg];omega
 ·show(nz a.ms).length<=_;simp;omega
 ·show(0:Int)<=(a.n:Int);omega
 show(a.n:Int)<=4096;omega
structure QOk(a:Aut)(f u:List Nat):Prop where
 fS:f.Pairwise (·<·)fn:∀x∈f,x<a.n
 uS:u.Pairwise (·<·)un:∀x∈u,x<32
theorem Qby{l:List Nat}{n:Nat}(h:l.Pairwise (·<·))(a:∀x∈l,x<n):l.length<=n:=QaQ n l (by rw[ZaN];exact h.imp fun h=>by omega) a
theorem WfA.elK{a:Aut}{k:Nat}(h:WfA a)(g:∀x∈a.al,x<k):a.es.length<=a.n*k:=by
 have f:∀e∈a.es,e.2.1<k:=fun e he=>g _ (h.ev e he);have i:(a.es.map fun e=>e.1*k+e.2.1).Pairwise (·<·):=by
  rw[ZbB];refine h.es.imp_of_mem fun{x y}b l d=>?_;have h1:=f x b;rcases d with c|⟨c,m⟩;·have :=Zba k (show x.1+1<=y.1 from c);rw[Zbo]at this;omega
  rw[c];omega
 have:=Qby i (n:=a.n*k) fun x b=>by obtain⟨e,he,rfl⟩:=Zan.1 b;have h1:=f e he;have:=Zba k (show e.1+1<=a.n from(h.esn e he).1);rw[Zbo]at this;show e.1*k+e.2.1<_;omega
 rwa[Zaz]at this
theorem WfA.el1{a:Aut}(h:WfA a):a.es.length<=131072:=by have h1:=WfA.elK h h.al5;have b:=Zba 32 h.n5;omega
end Go.AM.SE
namespace Go.AM.SD
def stR(l:List Rm)(k:Nat):Nat:=(l.getD k (rm0 0)).st
def sw(l:List Rm)(j:Nat):List Rm:=(l.set (j+1) (l.getD j (rm0 0))).set j (l.getD (j+1) (rm0 0))
def insJ:Nat->List Rm->List Rm|0,l=>l|j+1,l=>if stR l (j+1)<stR l j then insJ j (sw l j)else l
def isort(l:List Rm):Nat->List Rm|0=>l|i+1=>insJ (i+1) (isort l i)
theorem QmL{l:List Rm}{j:Nat}:(sw l j).length=l.length:=by simp[sw]
theorem QmM:∀(j:Nat)(l:List Rm),(insJ j l).length=l.length
 |0,l=>rfl|j+1,l=>by
  simp only[insJ];split;·rw[QmM j,QmL]
  rfl
theorem Qcz(l:List Rm):∀i,(isort l i).length=l.length|0=>rfl|i+1=>by rw[isort,QmM,Qcz l i]
theorem Qjc{l:List Rm}{j k:Nat}(b:j+1<l.length):stR (sw l j) k=if k=j then stR l (j+1)else if k=j+1 then stR l j else stR l k:=by
 unfold stR sw;simp only[Zak,List.getElem?_set,List.length_set];by_cases h1:k=j;·subst h1;rw[if_pos rfl,if_pos rfl,if_pos (by omega)];rfl
 rw[if_neg (fun e=>h1 e.symm),if_neg h1];by_cases a:k=j+1;·subst a;rw[if_pos rfl,if_pos rfl,if_pos b];rfl
 rw[if_neg (fun e=>a e.symm),if_neg a]
theorem Qtk{l:List Rm}{j:Nat}(a:j+1<l.length):(sw l j).Perm l:=by
 have h1:l.getD j (rm0 0)=l[j]:=by simp[show j<l.length by omega]
 have b:l.getD (j+1) (rm0 0)=l[j+1]:=by simp[a]
 unfold sw;rw[h1,b];exact List.set_set_perm (i:=j+1) (j:=j) a (by omega)
theorem QkV:∀(j:Nat)(l:List Rm),j<l.length->(insJ j l).Perm l
 |0,l,_=>List.Perm.refl _|j+1,l,h=>by
  simp only[insJ];split;·exact(QkV j (sw l j) (by rw[QmL];omega)).trans (Qtk h)
  exact List.Perm.refl _
theorem Qjd(l:List Rm):∀i,i<l.length\/i=0->(isort l i).Perm l|0,_=>List.Perm.refl _|i+1,h=>by rw[isort];exact(QkV (i+1) _ (by rw[Qcz];omega)).trans (Qjd l i (by omega))
def SrtTo(l:List Rm)(i:Nat):Prop:=∀p q,p<q->q<=i->stR l p<=stR l q
theorem QmN:∀(j i:Nat)(l:List Rm),j<=i->i<l.length->(∀p q,p<q->q<=i->p≠j->q≠j->stR l p<=stR l q)->(∀q,j<q->q<=i->stR l j<=stR l q)->SrtTo (insJ j l) i
 |0,i,l,m,hi,h1,f=>fun p q a b=>by
  rw[insJ];by_cases e:p=0;·subst e;exact f q a b
  exact h1 p q a b e (by omega)|j+1,i,l,m,hi,h1,f=>by
  rw[insJ];split
  ·rename_i o;refine QmN j i (sw l j) (by omega) (by rw[QmL];exact hi) (fun p q a b hp h=>?_) (fun q b g=>?_)
   ·rw[Qjc (by omega),Qjc (by omega),if_neg hp,if_neg h];by_cases d:p=j+1;·subst d;rw[if_pos rfl,if_neg (by omega)];exact h1 j q (by omega) b (by omega) (by omega)
    rw[if_neg d];by_cases c:q=j+1;·subst c;rw[if_pos rfl];exact h1 p j (by omega) (by omega) d (by omega)
    rw[if_neg c];exact h1 p q a b d c
   rw[Qjc (by omega),Qjc (by omega),if_pos rfl,if_neg (by omega)];by_cases e:q=j+1;·subst e;rw[if_pos rfl];omega
   rw[if_neg e];exact f q (by omega) g
  rename_i k;intro p q a b;by_cases d:q=j+1
  ·subst d;by_cases c:p=j;·subst c;omega
   have :=h1 p j (by omega) (by omega) (by omega) (by omega);omega
  by_cases c:p=j+1;·subst c;exact f q a b
  exact h1 p q a b c d
theorem QkW(l:List Rm):∀i,i<l.length->SrtTo (isort l i) i|0,_=>fun p q a c=>by omega|i+1,h=>by have d:=QkW l i (by omega);rw[isort];refine QmN (i+1) (i+1) _ (ZaM _) (by rw[Qcz];exact h) (fun p q a c hp b=>d p q a (by omega)) (fun q c b=>by omega)
theorem Qpw{l:List Rm}(h:0<l.length):(isort l (l.length-1)).Pairwise fun a b=>a.st<=b.st:=by rw[Zbe];intro i j hi d c;rw[Qcz]at hi d;have:=QkW l (l.length-1) (by omega) i j c (by omega);unfold stR at this;rw[Zak,Zak,Zal (by rw[Qcz];exact hi),Zal (by rw[Qcz];exact d)]at this;exact this
def srtR(l:List Rm):List Rm:=isort l (l.length-1)
theorem QgQ(l:List Rm):(srtR l).Perm l:=by unfold srtR;cases l with|nil=>exact List.Perm.refl _|cons a l=>exact Qjd _ _ (by simp)
theorem QqM(l:List Rm):(srtR l).Pairwise fun a b=>a.st<=b.st:=by unfold srtR;cases l with|nil=>exact List.Pairwise.nil|cons a l=>exact Qpw (by simp)
theorem Qsf(l:List Rm):(srtR l).length=l.length:=Qcz l _
end Go.AM.SD
namespace Go.AM
variable{P:Program}
end Go.AM
namespace Go.AM
variable{P:Program}
theorem HSpec.empty{f sz:Nat}{d:List AV}{h h':Heap}{v:AV}(h1:HSpec P f (.nilsl::d) h v h')(g:HSpec P f (.nsl::d) h v h'):HSpec P f (.fsl [] 0 sz::d) h v h':=by
 obtain⟨hc,h1⟩:=h1;obtain⟨_,g⟩:=g;refine⟨hc,fun c w b H l=>?_⟩;simp only[VRels]at l;obtain⟨u,us,e,k,i⟩:=l;simp only[VRel]at k;rcases k with⟨⟨a,rfl⟩,_⟩|⟨m,off,cap,C,_,_,rfl,_⟩;·cases a with|none=>exact h1 c w b H (by rw[e];simp only[VRels];exact⟨_,_,rfl,by simp[VRel],i⟩)|some a=>exact g c w b H (by rw[e];simp only[VRels];exact⟨_,_,rfl,by simp[VRel],i⟩)
 exact g c w b H (by rw[e];simp only[VRels];exact⟨_,_,rfl,by simp[VRel],i⟩)
end Go.AM
namespace Go.AM
theorem Qje{x:Src}:∀{A B:List (Nat×Src)},srcNew x A=true->srcNew x B=true->srcNew x (A++B)=true|[],B,_,h=>h|(j,t)::A,B,h1,a=>by simp only[srcNew,Zaa]at h1;rw[Za0];simp only[srcNew,Zaa];exact⟨h1.1,Qje h1.2 a⟩
theorem QfR{s:Nat->Src}{f:Nat->List AV}{ks:List Nat}(m:okPs 0 (psL s ks) (rowsL f ks)=true):∀{A:List (Nat×Src)}{L:HL},okPs 0 A L=true->(∀p∈A,p.1<300)->(∀p∈A,∀b g,p.2=.blk b g->∀k∈ks,∀a i,s k=.blk a i->b≠a)->okPs 0 (A++psL s ks) (L++rowsL f ks)=true
 |[],[],_,_,_=>m|[],_::_,h,_,_=>by simp[okPs]at h|_::_,[],h,_,_=>by simp[okPs]at h|(b,t)::A,(a,x)::L,h,o,l=>by
  simp only[okPs,Zaa,Zbq]at h;obtain⟨⟨⟨⟨h1,y⟩,c⟩,w⟩,v⟩:=h;rw[Za0,Za0];simp only[okPs,Zaa,Zbq];refine⟨⟨⟨⟨h1,y⟩,?_⟩,?_⟩,QfR m v (fun p hp=>o p (by simp[hp])) (fun p hp=>l p (by simp[hp]))⟩
  ·rcases c with c|⟨c,q⟩;·exact .inl c
   refine .inr ⟨c,Qje q ?_⟩;cases e:t with|nil=>exact QfP|blk k g=>exact Qco fun j u a i r=>l (b,t) (by simp) k g e j u a i r
  rw[Zb8,w,Zai,ZaH];intro p hp;have q:=QeU hp;have z:=o (b,t) (by simp);have d:Nat.beq p.1 b=false:=by
   rw[ZaA];intro d;have:p.1=b:=by simpa using d
   omega
  simp[d]
theorem Qfj{s:Nat->Src}{ks:List Nat}{k:Nat}(a:k∈ks):∀{A:List (Nat×Src)},(∀p∈A,p.1<300)->ow 0 (A++psL s ks) (300+k)=some (s k):=by
 have key:∀{A:List (Nat×Src)},(∀p∈A,p.1<300)->lkS (A++psL s ks) (300+k)=some (s k):=by intro A;induction A with|nil=>intro _;exact Qir a|cons p A b=>intro h;obtain⟨j,t⟩:=p;have:=h (j,t) (by simp);dsimp only at this;rw[Za0];simp only[lkS];rw[if_neg (by omega)];exact b fun p hp=>h p (by simp[hp])
 grind[ow]
theorem Qfk{m:Nat}{π:Nat->Option Src}{h:Heap}{f g:Nat->AV}:∀{ks:List Nat},(∀k∈ks,Rn m π h (f k) (g k))->RnL m π h (ks.map f) (ks.map g)|[],_=>trivial|j::ks,a=>⟨a j (by simp),Qfk fun k h=>a k (by simp[h])⟩
theorem RnO.agg{h:Heap}{xs ys:List AV}(d:RnOL h xs ys):RnO h (.agg xs) (.agg ys):=fun _ c w v H a=>by simp only[VRel]at a⊢;obtain⟨b,rfl,a⟩:=a;exact⟨b,rfl,d.rels H a⟩
theorem RnO.nil{h:Heap}{sz:Nat}:RnO h (.fsl [] 0 sz) .nilsl:=fun _ c w v H a=>by simp_all[VRel]
theorem Qpx{k:IntKind}{f g:Nat->AV}{l:List Nat}(h:∀x∈l,f x=g x):mapF k f l=mapF k g l:=by simp_all[mapF]
theorem QqN{f:Nat->AV}{n i:Nat}{v:AV}(h:i<n):((List.range n).map f).set i v=(List.range n).map (updF f i v):=by
 apply ZbA;intro j;rw[List.getElem?_set];by_cases e:i=j;·subst e;rw[if_pos rfl,if_pos (by simpa using h)];simp[updF,h]
 grind[updF]
theorem QkX{f:Nat->AV}{n i:Nat}(h:i<n):((List.range n).map f)[i]?=some (f i):=by simp[h]
end Go.AM
namespace Go.AM.SE
open Go.Proofs Go.AM.SD
theorem Qpy:aEq (.nil 2) false .nilsl .nilsl=some (.bool true):=rfl
theorem Qpz:aEq (.nil 2) false .nsl .nilsl=some (.bool false):=rfl
theorem QnQ{P:Program}{N:NM}{n:Nat}{d:Option Nat}{dead:List Nat}{r:List SOper}{T:Tmps}{h:Heap}{Q:QC}{fs:List Fr}{sz bytes b2 c b a:Nat}:wM P N (aAppend .dyn n sz bytes (.sl b2 c b a sz) .nsl) d r dead fs n T h Q=wA P N (srcB (h.get b2) c b a sz) (some []) c a 0 sz bytes b2 d r dead fs n T h Q:=Qe5
theorem QqO:HSpec Tryz.prog 41 [.nilsl] .e (.sl 83 0 0 0 1) (hp [(83,.cells 0 [])]):=by refine HSpec.Qb0 100 ok41 rfl ?_;unfold s41;refine Zc0 @Qpy ?_;exact⟨.inr trivial,_,rfl,⟨[(83,.nil)],rfl,au0,au5,au6⟩⟩
theorem QqP:HSpec Tryz.prog 41 [.nsl] .e (.sl 83 0 0 0 1) (hp [(83,.cells 0 [])]):=by refine HSpec.Qb0 100 ok41 rfl ?_;unfold s41;refine Zc0 (Zc1 @Qpz @QnQ) ?_;exact⟨.inr trivial,_,rfl,⟨[(83,.blk 103 1)],rfl,au0,au5,au6⟩⟩
theorem clone56(l:List Nat)(c:l.length<=1000000):HSpec Tryz.prog 41 [sliN l] .e (.sl 83 0 0 l.length 1) (hp [(83,.cells 0 (ints (nz l)))]):=by cases l with|nil=>exact HSpec.empty QqO QqP|cons x l=>
 refine HSpec.Qb0 100 ok41 rfl ?_;have b:aEq (.nil 2) false (sliN (x::l)) .nilsl=some (.bool false):=rfl;have a:(ints (nz (x::l))).all AV.one=true:=by simp[ints,AV.one]
 generalize x::l=q at*;unfold s41;refine Zc0 (Zc1 b a) ?_;exact⟨.inr trivial,_,rfl,⟨[(83,.blk 103 1)],rfl,au0,au5,au6⟩⟩
abbrev frzE(es:List Ed)(left:Nat->Bool):Nat->AV:=fun k=>egsN (sOut es left k)
abbrev rowE(es:List Ed)(left:Nat->Bool):Nat->List AV:=fun k=>(sOut es left k).flatMap edC
abbrev ptrE(es:List Ed)(left:Nat->Bool):Nat->AV:=fun k=>.sl (300+k) 0 0 (sOut es left k).length 3
theorem Qat(es:List Ed)(left:Nat->Bool)(l:List Nat):noRefs (l.map (frzE es left))=true:=QdJ (fun x=>Qai _) l
theorem QbO(l:List Ed):(l.flatMap edC).length=l.length*3:=Qa9 (f:=edC) (k:=3) (fun _=>rfl) l
theorem Qtl(l:List Ed):flatVs (l.flatMap edC)=true:=by induction l with|nil=>rfl|cons x l a=>rw[Zay];simp only[edC,Za0,ZaX,flatVs,flatV,Zai];exact a
theorem QqQ{es:List Ed}{left:Nat->Bool}{i:Nat}{e:Ed}(h:es[i]?=some e)(v:Nat):sOut (es.take (i+1)) left v=sOut (es.take i) left v++if e.1=v/\left e.2.2=true then[e]else[]:=by unfold sOut;rw[ZaZ,h,Option.toList,Zbi];congr 1;by_cases h1:e.1=v<;>by_cases a:left e.2.2=true<;>simp[h1,a]
theorem QeH(es:List Ed)(left:Nat->Bool)(v:Nat):(sOut es left v).length<=es.length:=by unfold sOut;exact ZaI _ _
theorem repN(n:Nat):(List.replicate n [AV.nilsl]).flatten=(List.range n).map fun _=>AV.nilsl:=by rw[List.map_const',Zb0];induction n with|zero=>rfl|succ n a=>rw[Zbr,ZbK,a];rfl
theorem Qsg{es:List Ed}{left:Nat->Bool}{n i:Nat}(h:i<n):((List.range n).map (frzE es left))[i]?=some (egsN (sOut es left i)):=QkX h
abbrev numF(o:List Nat):Nat->AV:=fun x=>.int .i64 (idx o x:Nat)
def mks(a:Aut)(i:Nat)(o:List Nat):List Nat:=(List.range i).filter fun j=>a.ms.contains (o.getD j 0)
theorem QjO{a:Aut}{i:Nat}{o:List Nat}:(mks a i o).length<=i:=by unfold mks;exact Zaw (ZaI _ _) (by simp)
theorem QoG{a:Aut}{i:Nat}{o t:List Nat}(h:i<=o.length):mks a i (o++t)=mks a i o:=by unfold mks;refine ZbF fun j b=>?_;have:=Zat.1 b;rw[Zak,Zak,ZaT (by omega)]
theorem Qis{a:Aut}{i v:Nat}{o:List Nat}(h:o[i]?=some v):mks a (i+1) o=mks a i o++if a.ms.contains v then[i]else[]:=by
 unfold mks;rw[ZaO,Zbi];congr 1;have:o.getD i 0=v:=by rw[Zak,h];rfl
 rw[Zbv,this];rfl
theorem QgR{i:Nat}{s:OE}{es:List Ed}{j:Nat}{e:Ed}(h:es[j]?=some e):(es.take (j+1)).foldl (sEd i) s=sEd i ((es.take j).foldl (sEd i) s) e:=by rw[ZaZ,h,Option.toList,Za4];rfl
theorem QcP{i:Nat}:∀(es:List Ed)(s:OE),(es.foldl (sEd i) s).2.length=s.2.length+es.length|[],s=>by simp|e::es,s=>by rw[ZaP,QcP es];unfold sEd;split<;>simp<;>omega
abbrev ablk(a:Aut):List AV:=[.sl 83 0 0 a.al.length 1,.int .i64 0,.nilsl,.nilsl]
theorem _root_.Go.AM.au7{p:Prop}(h:p:=by repeat(first|exact Zcy|(refine Zcz ?_ ?_;·(first|exact Rn.any|exact Rn.x1 rfl rfl|exact Rn.x2 rfl rfl|exact Rn.x3 rfl rfl|exact Rn.x4 rfl rfl|exact Rn.x5 rfl|exact Rn.x6 rfl|exact Rn.x7 rfl|(refine Rn.slot ?_ ?_;(first|rfl|(rw[ZaS];rfl));(first|rfl|(simp only[noRef,noRefs,Qag,Zad,Zac,Zai,Qad,Qaj,Qaf,Qak,Qao,Qax,Qah,Qan,Qae,Qar,Qai,Qal,Qam,Qat];done)))|(refine Rn.fn ?_ ?_<;>(repeat'(first|exact ZcG|refine ZcH ?_ ?_|exact Zcq rfl|exact Rn.x6 rfl|exact Rn.x2 rfl rfl|exact Rn.x5 rfl|exact Rn.x1 rfl rfl))))))):p:=h
theorem _root_.Go.AM.au8{p:Prop}(h:p:=by repeat'(first|exact ZcA|(refine Zcr ?_;first|rfl|(simp only[noRef,noRefs,Qag,Zad,Zac,Zai,Qad,Qaj,Qaf,Qak,Qao,Qax,Qah,Qan,Qae,Qar,Qai,Qal,Qam,Qat];done))|exact ZcM rfl|exact ZcG|exact(True.intro:RnM _ _ _ [] [])|refine ZcH ?_ ?_|(refine Zcq ?_;first|rfl|(simp only[noRef,noRefs,Qag,Zad,Zac,Zai,Qad,Qaj,Qaf,Qak,Qao,Qax,Qah,Qan,Qae,Qar,Qai,Qal,Qam,Qat];done))|exact Rn.x1 rfl rfl|exact Rn.x2 rfl rfl|exact Rn.x3 rfl rfl|exact Rn.x4 rfl rfl|exact Rn.x5 rfl|exact Rn.x6 rfl|exact Rn.x7 rfl|refine ZcC rfl rfl ?_|refine ZcB rfl rfl rfl ?_ ?_|refine ZcD rfl rfl rfl ?_ ?_|refine ZcE rfl rfl ?_ ?_|refine ZcF rfl rfl ?_ ?_)):p:=h
theorem super54(a:Aut)(u:List Nat)(l:LB)(hw:WfA a)(hl:l.length=a.n)(hel:a.es.length<=1000000)(hul:u.length<=1000000):FSpec Tryz.prog 232 [pv a u l] (.tup [aV (restr a (lf l)),sliN (sAll a (lf l)).1]):=by
 have hn5:=hw.n5;have hal:a.al.length<=32:=QaQ 32 a.al (by rw[ZaN];exact hw.al.imp fun h=>by omega) hw.al5;have hms:a.ms.length<=a.n:=QaQ a.n a.ms hw.nd hw.msn;refine FSpec.of_wS 60 ok232 rfl (by(try simp only[noRefs,Qal,Qam,Qad,Qaj,Qaf,Qak,Qao,Qah,noRef,Zad,Zac])<;>rfl) (by simp only[noRef,noRefs,Qad,Qaf];rfl) ?_;unfold s232;refine ZcZ ?_;refine ch (HSpec.of_O (b:=83) (by(try simp only[noRefs,Qal,Qam,Qad,Qaj,Qaf,Qak,Qao,Qah,noRef,Zad,Zac])<;>rfl) (clone56 a.al (by omega)) (by repeat(first|exact Fresh.e|exact Fresh.le (by assumption) (by omega)|refine Fresh.set ?_ (by omega) (by omega))) rfl) ?_;by_cases h0:a.n=0
 ·have e:sAll a (lf l)=([],[]):=by unfold sAll;rw[h0];rfl
  have h0':(a.n:Int)=0:=by omega
  refine Zc0 h0' ?_;refine⟨.inr trivial,_,rfl,?_⟩;have hr:restr a (lf l)=⟨a.al,0,[],[]⟩:=by unfold restr;rw[e];rfl
  rw[hr,e];exact RnO.tup (ZcJ (RnO.agg (ZcJ (RnO.slm (g:=0) rfl rfl rfl (Qcy _) (by simp[ints])) (ZcJ (RnO.flat rfl) (ZcJ RnO.nil (ZcJ RnO.nil RnOL.nil))))) (ZcJ RnO.nil RnOL.nil))
 have h0':¬(a.n:Int)=0:=by omega
 have h0n:(0:Int)<(a.n:Int):=by omega
 have h0l:0<l.length:=by omega
 have hh0:(bls l).head?=some (.bool (lf l 0)):=by have:=Qa0 h0l;simpa using this
 by_cases hl0:lf l 0=true
 ·have hn':(a.n:Int)<=140737488355328:=by omega
  have hn24:(24:Int)*(a.n:Int)<=140737488355328:=by omega
  refine Zc0 (Zc6 h0' h0n hh0 hl0 hn' hn24 @repN) ?_;have hrn:∀k∈List.range a.n,k<1000000:=fun k hk=>by have:=Zat.1 hk;omega
  refine Qaq 100 (fun i:Nat=>[(0,pv a u l),(2,.ptr 60 0 0),(4,.ptr 69 0 0),(5,.sl 78 0 0 a.n 1),(48,egsN a.es),(49,.int .i64 a.es.length),(50,.int .i64 i)]) (fun i=>[(60,.cells 0 [.nilsl,.int .i64 0,.nilsl,.nilsl]),(69,.cells 0 (ablk a)),(83,.cells 0 (ints (nz a.al))),(78,.cells 0 ((List.range a.n).map (ptrE (a.es.take i) (lf l))))]++rowsL (rowE (a.es.take i) (lf l)) (List.range a.n)) (fun i=>i<=a.es.length) (fun i=>a.es.length-i) 0 0 160 (fun _:Unit=>[(0,pv a u l),(2,.ptr 60 0 0),(4,.ptr 69 0 0),(5,.sl 78 0 0 a.n 1)]) (fun _=>[(60,.cells 0 [.nilsl,.int .i64 0,.nilsl,.nilsl]),(69,.cells 0 (ablk a)),(83,.cells 0 (ints (nz a.al))),(78,.cells 0 ((List.range a.n).map (frzE a.es (lf l))))]) (fun _=>True) ?_ (Zah _) ?_ ?_
  ·refine⟨[(60,.blk 60 0),(69,.blk 69 0),(83,.blk 83 0),(78,.blk 91 0)]++psL (fun _=>.nil) (List.range a.n),QfR (QdU Zbb hrn (fun _ _ _ _ _ b g b' g' h=>by cases h)) rfl (by decide) (fun _ _ _ _ _ _ _ b g h=>by cases h),Zcx,?_,au7⟩;refine ZcB rfl rfl rfl (Zcr rfl) (ZcB rfl rfl rfl ?_ (ZcB rfl rfl rfl (Zcr (Qad _)) (ZcB rfl rfl rfl (Qfk fun k hk=>Rn.x4 rfl (Qfj hk (A:=[(60,.blk 60 0),(69,.blk 69 0),(83,.blk 83 0),(78,.blk 91 0)]) (by decide))) ?_)));·repeat'(first|exact ZcA|(refine Zcr ?_;first|rfl|(simp only[noRef,noRefs,Qag,Zad,Zac,Zai,Qad,Qaj,Qaf,Qak,Qao,Qax,Qah,Qan,Qae,Qar,Qai,Qal,Qam,Qat];done))|exact ZcM rfl|exact ZcG|exact(True.intro:RnM _ _ _ [] [])|refine ZcH ?_ ?_|(refine Zcq ?_;first|rfl|(simp only[noRef,noRefs,Qag,Zad,Zac,Zai,Qad,Qaj,Qaf,Qak,Qao,Qax,Qah,Qan,Qae,Qar,Qai,Qal,Qam,Qat];done))|exact Rn.x1 rfl rfl|exact Rn.x2 rfl rfl|exact Rn.x3 rfl rfl|exact Rn.x4 rfl rfl|exact Rn.x5 rfl|exact Rn.x6 rfl|exact Rn.x7 rfl|refine ZcC rfl rfl ?_|refine ZcB rfl rfl rfl ?_ ?_|refine ZcD rfl rfl rfl ?_ ?_|refine ZcE rfl rfl ?_ ?_|refine ZcF rfl rfl ?_ ?_)
   ·exact Qdw fun k hk=>ZcC rfl (Qfj hk (A:=[(60,.blk 60 0),(69,.blk 69 0),(83,.blk 83 0),(78,.blk 91 0)]) (by decide)) ZcA
  ·rintro i hi;have hr0:∀b,b<300->(hp (rowsL (rowE (a.es.take i) (lf l)) (List.range a.n))).get b=none:=fun b hb=>QfO hrn fun k hk=>by omega
   by_cases hlt:i<a.es.length
   ·obtain⟨e,he⟩:=Qap hlt;obtain⟨hfr,hto⟩:=hw.esn e (Zae he);have hroom:∀k:Nat,k<a.n->(hp (rowsL (rowE (a.es.take i) (lf l)) (List.range a.n))).get (300+k)=some (.cells 0 (rowE (a.es.take i) (lf l) k)):=fun k hk=>Qcw Zbb hrn (Zat.2 hk);have hrow:=hroom e.1 hfr;have htl:e.2.2<l.length:=by omega
    have hstep:=QqQ (left:=lf l) he;have hpl:=QeH (a.es.take i) (lf l) e.1;rw[Zav]at hpl;have hel2:=QbO (sOut (a.es.take i) (lf l) e.1);by_cases h1:lf l e.2.2=true
    ·refine Zc0 (Zc7 @Za0 @ZaX hlt (QaJ he) hr0 hto (Qa0 htl) h1) ?_;refine Qbr [(69,[300+e.1])] rfl ?_ ?_;·exact Qd3 (a:=[103]) (b:=[123,300+e.1,122]) rfl rfl (fun x hx=>by simp only[Zau,ZbQ,or_false]at hx⊢;omega) QkP
     have hfr1:e.1+1<=a.n:=by omega
     simp(disch:=first|omega|exact PairsOK.mk rfl|(simp only[lenW]<;>omega))only[hr0,hfr,hrow,hel2,QkX hfr,QqN hfr,Zb0,hfr1,wW,wV,simprocAttr];refine⟨⟨⟨_,rfl,fun b hb=>hb⟩,trivial⟩,i+1,by omega,by omega,?_⟩;have hsb:∀k b g,(fun k=>if k=e.1 then Src.blk (300+e.1) 1 else Src.blk (300+k) 0) k=.blk b g->b=300+k:=by
      intro k b g h2;dsimp only at h2;split at h2<;>cases h2;·rename_i h3;rw[h3]
      ·rfl
     refine⟨[(60,.blk 60 0),(69,.blk 69 0),(83,.blk 83 0),(78,.blk 78 0)]++psL (fun k=>if k=e.1 then Src.blk (300+e.1) 1 else Src.blk (300+k) 0) (List.range a.n),QfR (A:=[(60,.blk 60 0),(69,.blk 69 0),(83,.blk 83 0),(78,.blk 78 0)]) (L:=[(60,_),(69,_),(83,_),(78,_)]) (QdU Zbb hrn (fun k hk j hj hkj b g b' g' h1 h2=>?_)) rfl (by decide) (fun p hp b g hb k hk b' g' h1=>?_),Zcx,?_,au7⟩;·have :=hsb k b g h1;have:=hsb j b' g' h2;omega
     ·have h2:=hsb k b' g' h1;simp only[Zau,ZbQ,or_false]at hp;rcases hp with rfl|rfl|rfl|rfl<;>cases hb<;>omega
     refine ZcB rfl rfl gg (Zcr rfl) (ZcB rfl rfl gg ?_ (ZcB rfl rfl gg (Zcr (Qad _)) (ZcB rfl rfl gg (Qfk fun k hk=>?_) (Qdw fun k hk=>?_))));·repeat'(first|exact ZcA|(refine Zcr ?_;first|rfl|(simp only[noRef,noRefs,Qag,Zad,Zac,Zai,Qad,Qaj,Qaf,Qak,Qao,Qax,Qah,Qan,Qae,Qar,Qai,Qal,Qam,Qat];done))|exact ZcM rfl|exact ZcG|exact(True.intro:RnM _ _ _ [] [])|refine ZcH ?_ ?_|(refine Zcq ?_;first|rfl|(simp only[noRef,noRefs,Qag,Zad,Zac,Zai,Qad,Qaj,Qaf,Qak,Qao,Qax,Qah,Qan,Qae,Qar,Qai,Qal,Qam,Qat];done))|exact Rn.x1 rfl rfl|exact Rn.x2 rfl rfl|exact Rn.x3 rfl rfl|exact Rn.x4 rfl rfl|exact Rn.x5 rfl|exact Rn.x6 rfl|exact Rn.x7 rfl|refine ZcC rfl rfl ?_|refine ZcB rfl rfl rfl ?_ ?_|refine ZcD rfl rfl rfl ?_ ?_|refine ZcE rfl rfl ?_ ?_|refine ZcF rfl rfl ?_ ?_)
     ·have hw2:=Qfj (s:=fun k=>if k=e.1 then Src.blk (300+e.1) 1 else Src.blk (300+k) 0) hk (A:=[(60,.blk 60 0),(69,.blk 69 0),(83,.blk 83 0),(78,.blk 78 0)]) (by decide);unfold updF ptrE;rw[hstep];by_cases h2:k=e.1;·subst h2;rw[if_pos rfl,if_pos ⟨rfl,h1⟩,Zaf];exact Rn.x1 rfl (by rw[hw2];simp)
      ·rw[if_neg h2,if_neg (fun h3=>h2 h3.1.symm),Zap];exact Rn.x1 rfl (by rw[hw2];simp[h2])
     ·have hw2:=Qfj (s:=fun k=>if k=e.1 then Src.blk (300+e.1) 1 else Src.blk (300+k) 0) hk (A:=[(60,.blk 60 0),(69,.blk 69 0),(83,.blk 83 0),(78,.blk 78 0)]) (by decide);have hkn:=Zat.1 hk;by_cases h2:k=e.1;·subst h2;refine ZcB rfl (b:=300+e.1) (g:=1) (by rw[hw2];simp) gg (RnL.eq ?_ (Qaf _)) ZcA;unfold SE.rowE;rw[hstep,if_pos ⟨rfl,h1⟩,Zaq];rfl
      ·refine ZcB rfl (b:=300+k) (g:=0) (ds:=SE.rowE (a.es.take i) (lf l) k) (by rw[hw2];simp[h2]) (by first|(simp(disch:=omega)only[QaA,QaG,QaS,hroom k hkn];done)|(simp(disch:=omega)only[QaA,QaG,QaS,hroom k hkn];rfl)) (RnL.eq ?_ (Qaf _)) ZcA;unfold SE.rowE;rw[hstep,if_neg (fun h3=>h2 h3.1.symm),Zap]
    ·rw[Zam]at h1;refine Zc0 (Zc7 @Za0 @ZaX hlt (QaJ he) hr0 hto (Qa0 htl) h1) ?_;refine⟨i+1,by omega,by omega,?_⟩;have hsb:∀k b g,(fun k=>Src.blk (300+k) 0) k=.blk b g->b=300+k:=by intro k b g h2;cases h2;rfl
     have hno:∀k,sOut (a.es.take (i+1)) (lf l) k=sOut (a.es.take i) (lf l) k:=fun k=>by rw[hstep,if_neg (by rw[h1];simp),Zap]
     refine⟨[(60,.blk 60 0),(69,.blk 69 0),(83,.blk 83 0),(78,.blk 78 0)]++psL (fun k=>Src.blk (300+k) 0) (List.range a.n),QfR (A:=[(60,.blk 60 0),(69,.blk 69 0),(83,.blk 83 0),(78,.blk 78 0)]) (L:=[(60,_),(69,_),(83,_),(78,_)]) (QdU Zbb hrn (fun k hk j hj hkj b g b' g' h1 h2=>?_)) rfl (by decide) (fun p hp b g hb k hk b' g' h1=>?_),Zcx,?_,au7⟩;·have :=hsb k b g h1;have:=hsb j b' g' h2;omega
     ·have h2:=hsb k b' g' h1;simp only[Zau,ZbQ,or_false]at hp;rcases hp with rfl|rfl|rfl|rfl<;>cases hb<;>omega
     refine ZcB rfl rfl gg (Zcr rfl) (ZcB rfl rfl gg ?_ (ZcB rfl rfl gg (Zcr (Qad _)) (ZcB rfl rfl gg (Qfk fun k hk=>?_) (Qdw fun k hk=>?_))));·repeat'(first|exact ZcA|(refine Zcr ?_;first|rfl|(simp only[noRef,noRefs,Qag,Zad,Zac,Zai,Qad,Qaj,Qaf,Qak,Qao,Qax,Qah,Qan,Qae,Qar,Qai,Qal,Qam,Qat];done))|exact ZcM rfl|exact ZcG|exact(True.intro:RnM _ _ _ [] [])|refine ZcH ?_ ?_|(refine Zcq ?_;first|rfl|(simp only[noRef,noRefs,Qag,Zad,Zac,Zai,Qad,Qaj,Qaf,Qak,Qao,Qax,Qah,Qan,Qae,Qar,Qai,Qal,Qam,Qat];done))|exact Rn.x1 rfl rfl|exact Rn.x2 rfl rfl|exact Rn.x3 rfl rfl|exact Rn.x4 rfl rfl|exact Rn.x5 rfl|exact Rn.x6 rfl|exact Rn.x7 rfl|refine ZcC rfl rfl ?_|refine ZcB rfl rfl rfl ?_ ?_|refine ZcD rfl rfl rfl ?_ ?_|refine ZcE rfl rfl ?_ ?_|refine ZcF rfl rfl ?_ ?_)
     ·have hw2:=Qfj (s:=fun k=>Src.blk (300+k) 0) hk (A:=[(60,.blk 60 0),(69,.blk 69 0),(83,.blk 83 0),(78,.blk 78 0)]) (by decide);unfold ptrE;rw[hno];exact Rn.x1 rfl hw2
     ·have hw2:=Qfj (s:=fun k=>Src.blk (300+k) 0) hk (A:=[(60,.blk 60 0),(69,.blk 69 0),(83,.blk 83 0),(78,.blk 78 0)]) (by decide);have hkn:=Zat.1 hk;refine ZcB rfl (b:=300+k) (g:=0) (ds:=SE.rowE (a.es.take i) (lf l) k) hw2 (by first|(simp(disch:=omega)only[QaA,QaG,QaS,hroom k hkn];done)|(simp(disch:=omega)only[QaA,QaG,QaS,hroom k hkn];rfl)) (RnL.eq ?_ (Qaf _)) ZcA;unfold SE.rowE;rw[hno]
   ·have e:i=a.es.length:=by omega
    subst e;refine Zc0 (Zc2 @Za0 @ZaX hlt) ?_;refine⟨(),[(60,.blk 60 0),(69,.blk 69 0),(83,.blk 83 0),(78,.blk 78 0)],rfl,Zcx,?_,au7⟩;refine ZcB rfl rfl gg (Zcr rfl) (ZcB rfl rfl gg ?_ (ZcB rfl rfl gg (Zcr (Qad _)) (ZcB rfl rfl gg (Qfk fun k hk=>?_) ZcA)));·repeat'(first|exact ZcA|(refine Zcr ?_;first|rfl|(simp only[noRef,noRefs,Qag,Zad,Zac,Zai,Qad,Qaj,Qaf,Qak,Qao,Qax,Qah,Qan,Qae,Qar,Qai,Qal,Qam,Qat];done))|exact ZcM rfl|exact ZcG|exact(True.intro:RnM _ _ _ [] [])|refine ZcH ?_ ?_|(refine Zcq ?_;first|rfl|(simp only[noRef,noRefs,Qag,Zad,Zac,Zai,Qad,Qaj,Qaf,Qak,Qao,Qax,Qah,Qan,Qae,Qar,Qai,Qal,Qam,Qat];done))|exact Rn.x1 rfl rfl|exact Rn.x2 rfl rfl|exact Rn.x3 rfl rfl|exact Rn.x4 rfl rfl|exact Rn.x5 rfl|exact Rn.x6 rfl|exact Rn.x7 rfl|refine ZcC rfl rfl ?_|refine ZcB rfl rfl rfl ?_ ?_|refine ZcD rfl rfl rfl ?_ ?_|refine ZcE rfl rfl ?_ ?_|refine ZcF rfl rfl ?_ ?_)
    ·have hkn:=Zat.1 hk;have hr:=Qcw (f:=SE.rowE a.es (lf l)) Zbb hrn hk;have b1:Nat.beq (300+k) 60=false:=by rw[ZaA];simp;try omega
     have b2:Nat.beq (300+k) 69=false:=by rw[ZaA];simp;try omega
     have b3:Nat.beq (300+k) 83=false:=by rw[ZaA];simp;try omega
     have b4:Nat.beq (300+k) 78=false:=by rw[ZaA];simp;try omega
     exact ZcI (by first|(simp(disch:=omega)only[QaA,QaG,QaS,hr];done)|(simp(disch:=omega)only[QaA,QaG,QaS,hr];rfl)) (by simp[srcNew,b1,b2,b3,b4]) (by simp) rfl (QbO _) (Zcr (Qaf _))
  rintro _ _;refine ZcZ ?_;refine QbJ ?_;refine ZcZ ?_;refine QcH (x:=0) (f:=numF [0]) (l:=[]) (by simp) (by decide) ?_;refine ZcZ ?_;have hms0:mks a 0 [0]=[]:=rfl;have hsi:SI a.n a.es (lf l) 0 (([0],[]):OE):=by refine⟨⟨by simp,fun x hx=>by simp at hx;omega⟩,fun x hx=>by simp at hx;subst hx;exact hl0,Zah _,fun j v hj=>by omega,by simp⟩
  have hq0:sQ a.es (lf l) (a.n+1) 0 ([0],[])=sAll a (lf l):=by unfold sAll;rw[hl0,Zac,if_pos (by simp;omega)]
  refine Qaq 180 (fun t:Nat×OE=>[(0,pv a u l),(2,.ptr 60 0 0),(4,.ptr 69 0 0),(5,.sl 78 0 0 a.n 1),(8,.map 74 0),(9,.sl 75 0 0 t.2.1.length 1),(10,.int .i64 t.1)]) (fun t=>[(60,.cells 0 [.nilsl,.int .i64 0,.nilsl,.nilsl]),(69,.cells 0 [.sl 83 0 0 a.al.length 1,.int .i64 0,.sl 77 0 0 (mks a t.1 t.2.1).length 1,.sl 76 0 0 t.2.2.length 3]),(83,.cells 0 (ints (nz a.al))),(78,.cells 0 ((List.range a.n).map (frzE a.es (lf l)))),(74,.map 0 (mapF .i64 (numF t.2.1) t.2.1)),(75,.cells 0 (ints (nz t.2.1))),(76,.cells 0 (t.2.2.flatMap edC)),(77,.cells 0 (ints (nz (mks a t.1 t.2.1))))]) (fun t=>t.1<=a.n/\SI a.n a.es (lf l) t.1 t.2/\t.2.2.length<=t.1*1000000/\sQ a.es (lf l) (a.n+1-t.1) t.1 t.2=sAll a (lf l)) (fun t=>a.n+1-t.1) (0,([0],[])) 2 260 (fun _:Unit=>[(2,.ptr 60 0 0),(4,.ptr 69 0 0),(9,.sl 75 0 0 (sAll a (lf l)).1.length 1)]) (fun _=>[(60,.cells 0 [.nilsl,.int .i64 0,.nilsl,.nilsl]),(69,.cells 0 [.sl 83 0 0 a.al.length 1,.int .i64 0,.sl 77 0 0 (restr a (lf l)).ms.length 1,.sl 76 0 0 (restr a (lf l)).es.length 3]),(83,.cells 0 (ints (nz a.al))),(75,.cells 0 (ints (nz (sAll a (lf l)).1))),(76,.cells 0 ((restr a (lf l)).es.flatMap edC)),(77,.cells 0 (ints (nz (restr a (lf l)).ms)))]) (fun _=>True) ?_ ⟨Zah _,hsi,Zah _,hq0⟩ ?_ ?_
  ·dsimp only;rw[hms0];refine⟨[(60,.blk 60 0),(69,.blk 69 0),(83,.blk 83 0),(78,.blk 78 0),(74,.blk 160 0),(75,.blk 164 0),(76,.nil),(77,.nil)],rfl,Zcx,?_,au7⟩;repeat'(first|exact ZcA|(refine Zcr ?_;first|rfl|(simp only[noRef,noRefs,Qag,Zad,Zac,Zai,Qad,Qaj,Qaf,Qak,Qao,Qax,Qah,Qan,Qae,Qar,Qai,Qal,Qam,Qat];done))|exact ZcM rfl|exact ZcG|exact(True.intro:RnM _ _ _ [] [])|refine ZcH ?_ ?_|(refine Zcq ?_;first|rfl|(simp only[noRef,noRefs,Qag,Zad,Zac,Zai,Qad,Qaj,Qaf,Qak,Qao,Qax,Qah,Qan,Qae,Qar,Qai,Qal,Qam,Qat];done))|exact Rn.x1 rfl rfl|exact Rn.x2 rfl rfl|exact Rn.x3 rfl rfl|exact Rn.x4 rfl rfl|exact Rn.x5 rfl|exact Rn.x6 rfl|exact Rn.x7 rfl|refine ZcC rfl rfl ?_|refine ZcB rfl rfl rfl ?_ ?_|refine ZcD rfl rfl rfl ?_ ?_|refine ZcE rfl rfl ?_ ?_|refine ZcF rfl rfl ?_ ?_)
   refine ZcP (l:=[0]) fun x hx=>?_;have:x=0:=by simpa using hx
   subst this;exact Zcq rfl
  ·rintro⟨i,s⟩⟨hi,hsi,hsl,hq⟩;dsimp only at hi hsi hsl hq⊢;have hfl:=hsi.fi.len;have hile:=hsi.le;by_cases hlt:i<s.1.length
   ·obtain⟨v,hv⟩:=Qap hlt;have hvn:=hsi.fi.lt v (Zae hv);have hin':i<a.n:=by omega
    have hsi':=hsi.step hw.esn hv;have hq':sQ a.es (lf l) (a.n+1-(i+1)) (i+1) (sRow a.es (lf l) i v s)=sAll a (lf l):=by rw[<-hq,show a.n+1-i=(a.n+1-(i+1))+1 by omega];simp only[sQ,hv]
    have hol:=QeH a.es (lf l) v;have hrow:=fun j=>Qdq (n:=a.n) (left:=lf l) i ((sOut a.es (lf l) v).take j) s (fun e he=>⟨(hw.esn e (Qa2.1 (ZaQ he)).1).2,(Qa2.1 (ZaQ he)).2.2⟩) hsi.fi hsi.lft;have hmsl:=@QjO a i s.1;have hmsk:∀j,mks a i (((sOut a.es (lf l) v).take j).foldl (sEd i) s).1=mks a i s.1:=fun j=>by obtain⟨_,_,⟨t,ht⟩,_⟩:=hrow j;rw[ht,QoG hile]
    generalize hmm:mks a i s.1=M at*;simp(disch:=first|omega|exact PairsOK.mk rfl|(simp only[lenW]<;>omega))only[hlt,QbN (nz_at hv),hvn,Qsg hvn,wW,wV,simprocAttr];refine Qaq 300 (fun j:Nat=>[(90,egsN (sOut a.es (lf l) v)),(91,.int .i64 (sOut a.es (lf l) v).length),(0,pv a u l),(2,.ptr 60 0 0),(4,.ptr 69 0 0),(5,.sl 78 0 0 a.n 1),(8,.map 74 0),(9,.sl 75 0 0 (((sOut a.es (lf l) v).take j).foldl (sEd i) s).1.length 1),(10,.int .i64 i),(92,.int .i64 j)]) (fun j=>[(60,.cells 0 [.nilsl,.int .i64 0,.nilsl,.nilsl]),(69,.cells 0 [.sl 83 0 0 a.al.length 1,.int .i64 0,.sl 77 0 0 M.length 1,.sl 76 0 0 (((sOut a.es (lf l) v).take j).foldl (sEd i) s).2.length 3]),(83,.cells 0 (ints (nz a.al))),(78,.cells 0 ((List.range a.n).map (frzE a.es (lf l)))),(74,.map 0 (mapF .i64 (numF (((sOut a.es (lf l) v).take j).foldl (sEd i) s).1) (((sOut a.es (lf l) v).take j).foldl (sEd i) s).1)),(75,.cells 0 (ints (nz (((sOut a.es (lf l) v).take j).foldl (sEd i) s).1))),(76,.cells 0 ((((sOut a.es (lf l) v).take j).foldl (sEd i) s).2.flatMap edC)),(77,.cells 0 (ints (nz M)))]) (fun j=>j<=(sOut a.es (lf l) v).length) (fun j=>(sOut a.es (lf l) v).length-j) 0 4 400 (fun _:Unit=>[(0,pv a u l),(2,.ptr 60 0 0),(4,.ptr 69 0 0),(5,.sl 78 0 0 a.n 1),(8,.map 74 0),(9,.sl 75 0 0 (sRow a.es (lf l) i v s).1.length 1),(10,.int .i64 i)]) (fun _=>[(60,.cells 0 [.nilsl,.int .i64 0,.nilsl,.nilsl]),(69,.cells 0 [.sl 83 0 0 a.al.length 1,.int .i64 0,.sl 77 0 0 M.length 1,.sl 76 0 0 (sRow a.es (lf l) i v s).2.length 3]),(83,.cells 0 (ints (nz a.al))),(78,.cells 0 ((List.range a.n).map (frzE a.es (lf l)))),(74,.map 0 (mapF .i64 (numF (sRow a.es (lf l) i v s).1) (sRow a.es (lf l) i v s).1)),(75,.cells 0 (ints (nz (sRow a.es (lf l) i v s).1))),(76,.cells 0 ((sRow a.es (lf l) i v s).2.flatMap edC)),(77,.cells 0 (ints (nz M)))]) (fun _=>True) ?_ (Zah _) ?_ ?_
    ·refine⟨[(60,.blk 60 0),(69,.blk 69 0),(83,.blk 83 0),(78,.blk 78 0),(74,.blk 74 0),(75,.blk 75 0),(76,.blk 76 0),(77,.blk 77 0)],rfl,au0,?_,au7⟩;repeat'(first|exact ZcA|(refine Zcr ?_;first|rfl|(simp only[noRef,noRefs,Qag,Zad,Zac,Zai,Qad,Qaj,Qaf,Qak,Qao,Qax,Qah,Qan,Qae,Qar,Qai,Qal,Qam,Qat];done))|exact ZcM rfl|exact ZcG|exact(True.intro:RnM _ _ _ [] [])|refine ZcH ?_ ?_|(refine Zcq ?_;first|rfl|(simp only[noRef,noRefs,Qag,Zad,Zac,Zai,Qad,Qaj,Qaf,Qak,Qao,Qax,Qah,Qan,Qae,Qar,Qai,Qal,Qam,Qat];done))|exact Rn.x1 rfl rfl|exact Rn.x2 rfl rfl|exact Rn.x3 rfl rfl|exact Rn.x4 rfl rfl|exact Rn.x5 rfl|exact Rn.x6 rfl|exact Rn.x7 rfl|refine ZcC rfl rfl ?_|refine ZcB rfl rfl rfl ?_ ?_|refine ZcD rfl rfl rfl ?_ ?_|refine ZcE rfl rfl ?_ ?_|refine ZcF rfl rfl ?_ ?_)
     exact ZcP fun x _=>Zcq rfl
    ·rintro j hj;by_cases hjl:j<(sOut a.es (lf l) v).length
     ·obtain⟨e,he⟩:=Qap hjl;have hem:=Qa2.1 (Zae he);have hto:=(hw.esn e hem.1).2;obtain⟨k1,_,_,_,_⟩:=hrow j;have hfi:=k1.len;have hnd:=k1.nd;have hstep:=QgR (i:=i) (s:=s) he;have hsl2:=QcP (i:=i) ((sOut a.es (lf l) v).take j) s;rw[Zav]at hsl2;generalize((sOut a.es (lf l) v).take j).foldl (sEd i) s=t at*;have hel2:=QbO t.2;by_cases hc:e.2.2∈t.1
      ·have h2:sEd i t e=(t.1,t.2++[(i,e.2.1,idx t.1 e.2.2)]):=if_pos (by simpa using hc);rw[h2]at hstep;refine Zc0 (Zc1 hjl (QaJ he)) ?_;refine QdI ?_;refine ZcZ ?_;refine wK_in hc ?_;refine Zc0 hel2 ?_;refine⟨j+1,by omega,by omega,?_⟩;rw[hstep,Zaq,Zaf];refine⟨[(60,.blk 60 0),(69,.blk 69 0),(83,.blk 83 0),(78,.blk 78 0),(74,.blk 74 0),(75,.blk 75 0),(76,.blk 76 1),(77,.blk 77 0)],rfl,au0,?_,au7⟩;repeat'(first|exact ZcA|(refine Zcr ?_;first|rfl|(simp only[noRef,noRefs,Qag,Zad,Zac,Zai,Qad,Qaj,Qaf,Qak,Qao,Qax,Qah,Qan,Qae,Qar,Qai,Qal,Qam,Qat];done))|exact ZcM rfl|exact ZcG|exact(True.intro:RnM _ _ _ [] [])|refine ZcH ?_ ?_|(refine Zcq ?_;first|rfl|(simp only[noRef,noRefs,Qag,Zad,Zac,Zai,Qad,Qaj,Qaf,Qak,Qao,Qax,Qah,Qan,Qae,Qar,Qai,Qal,Qam,Qat];done))|exact Rn.x1 rfl rfl|exact Rn.x2 rfl rfl|exact Rn.x3 rfl rfl|exact Rn.x4 rfl rfl|exact Rn.x5 rfl|exact Rn.x6 rfl|exact Rn.x7 rfl|refine ZcC rfl rfl ?_|refine ZcB rfl rfl rfl ?_ ?_|refine ZcD rfl rfl rfl ?_ ?_|refine ZcE rfl rfl ?_ ?_|refine ZcF rfl rfl ?_ ?_)
       exact ZcP fun x _=>Zcq rfl
      ·have h2:sEd i t e=(t.1++[e.2.2],t.2++[(i,e.2.1,t.1.length)]):=if_neg (by simpa using hc);rw[h2]at hstep;refine Zc0 (Zc1 hjl (QaJ he)) ?_;refine QdI ?_;refine ZcZ ?_;refine QqC hc ?_;refine Zc0 hel2 ?_;refine QbJ ?_;refine ZcZ ?_;refine QcH hc (by decide) ?_;have hm:mapF .i64 (updF (numF t.1) e.2.2 (.int .i64 (t.1.length:Int))) (t.1++[e.2.2])=mapF .i64 (numF (t.1++[e.2.2])) (t.1++[e.2.2]):=by
        refine Qpx fun x hx=>?_;unfold updF numF;split;·rename_i hx2;subst hx2;rw[Qeg hc]
        ·rename_i hx2;have:x∈t.1:=by
          rcases ZaE.1 hx with h3|h3;·exact h3
          ·exact absurd (by simpa using h3) hx2
         rw[Qdp this]
       refine Zc0 (Zc1 hm hel2) ?_;refine⟨j+1,by omega,by omega,?_⟩;rw[hstep,Zaq,Zaf];dsimp only;rw[Zaf,QaF,Qay];refine⟨[(60,.blk 60 0),(69,.blk 69 0),(83,.blk 83 0),(78,.blk 78 0),(74,.blk 74 0),(75,.blk 75 1),(76,.blk 76 1),(77,.blk 77 0)],rfl,au0,?_,au7⟩;repeat'(first|exact ZcA|(refine Zcr ?_;first|rfl|(simp only[noRef,noRefs,Qag,Zad,Zac,Zai,Qad,Qaj,Qaf,Qak,Qao,Qax,Qah,Qan,Qae,Qar,Qai,Qal,Qam,Qat];done))|exact ZcM rfl|exact ZcG|exact(True.intro:RnM _ _ _ [] [])|refine ZcH ?_ ?_|(refine Zcq ?_;first|rfl|(simp only[noRef,noRefs,Qag,Zad,Zac,Zai,Qad,Qaj,Qaf,Qak,Qao,Qax,Qah,Qan,Qae,Qar,Qai,Qal,Qam,Qat];done))|exact Rn.x1 rfl rfl|exact Rn.x2 rfl rfl|exact Rn.x3 rfl rfl|exact Rn.x4 rfl rfl|exact Rn.x5 rfl|exact Rn.x6 rfl|exact Rn.x7 rfl|refine ZcC rfl rfl ?_|refine ZcB rfl rfl rfl ?_ ?_|refine ZcD rfl rfl rfl ?_ ?_|refine ZcE rfl rfl ?_ ?_|refine ZcF rfl rfl ?_ ?_)
       exact ZcP fun x _=>Zcq rfl
     ·have e:j=(sOut a.es (lf l) v).length:=by omega
      subst e;refine Zc0 hjl ?_;refine⟨(),?_⟩;refine⟨[(60,.blk 60 0),(69,.blk 69 0),(83,.blk 83 0),(78,.blk 78 0),(74,.blk 74 0),(75,.blk 75 0),(76,.blk 76 0),(77,.blk 77 0)],rfl,au0,?_,au7⟩;repeat'(first|exact ZcA|(refine Zcr ?_;first|rfl|(simp only[noRef,noRefs,Qag,Zad,Zac,Zai,Qad,Qaj,Qaf,Qak,Qao,Qax,Qah,Qan,Qae,Qar,Qai,Qal,Qam,Qat];done))|exact ZcM rfl|exact ZcG|exact(True.intro:RnM _ _ _ [] [])|refine ZcH ?_ ?_|(refine Zcq ?_;first|rfl|(simp only[noRef,noRefs,Qag,Zad,Zac,Zai,Qad,Qaj,Qaf,Qak,Qao,Qax,Qah,Qan,Qae,Qar,Qai,Qal,Qam,Qat];done))|exact Rn.x1 rfl rfl|exact Rn.x2 rfl rfl|exact Rn.x3 rfl rfl|exact Rn.x4 rfl rfl|exact Rn.x5 rfl|exact Rn.x6 rfl|exact Rn.x7 rfl|refine ZcC rfl rfl ?_|refine ZcB rfl rfl rfl ?_ ?_|refine ZcD rfl rfl rfl ?_ ?_|refine ZcE rfl rfl ?_ ?_|refine ZcF rfl rfl ?_ ?_)
      exact ZcP fun x _=>Zcq rfl
    rintro _ _;have hfull:=hmsk (sOut a.es (lf l) v).length;rw[Zar]at hfull;have hfull:mks a i (sRow a.es (lf l) i v s).1=M:=hfull;have hv':(sRow a.es (lf l) i v s).1[i]?=some v:=by obtain⟨_,_,⟨t,ht⟩,_⟩:=hrow (sOut a.es (lf l) v).length;rw[Zar]at ht;have ht:(sRow a.es (lf l) i v s).1=s.1++t:=ht;rw[ht,ZaT hlt];exact hv
    have hmn:=Qis (a:=a) hv';rw[hfull]at hmn;have hsl3:(sRow a.es (lf l) i v s).2.length=s.2.length+(sOut a.es (lf l) v).length:=QcP _ _;have hfi':=hsi'.fi.len;have hii:i<(sRow a.es (lf l) i v s).1.length:=(Zag.1 hv').1;generalize hrr:sRow a.es (lf l) i v s=R at*;have hc:=contains62 (nz a.ms) v (by simp;omega);rw[Qbn,Qfh]at hc;by_cases hmv:a.ms.contains v=true
    ·rw[if_pos hmv]at hmn;rw[hmv]at hc;refine Zc0 (Zc1 hii (QbN (nz_at hv'))) ?_;refine cp hc ?_;refine ZcZ ?_;refine⟨(i+1,R),by dsimp only;omega,⟨hin',hsi',by dsimp only;omega,hq'⟩,?_⟩;dsimp only;rw[hmn,Zaf,QaF,Qay];refine⟨[(60,.blk 60 0),(69,.blk 69 0),(83,.blk 83 0),(78,.blk 78 0),(74,.blk 74 0),(75,.blk 75 0),(76,.blk 76 0),(77,.blk 77 1)],rfl,au0,?_,au7⟩;repeat'(first|exact ZcA|(refine Zcr ?_;first|rfl|(simp only[noRef,noRefs,Qag,Zad,Zac,Zai,Qad,Qaj,Qaf,Qak,Qao,Qax,Qah,Qan,Qae,Qar,Qai,Qal,Qam,Qat];done))|exact ZcM rfl|exact ZcG|exact(True.intro:RnM _ _ _ [] [])|refine ZcH ?_ ?_|(refine Zcq ?_;first|rfl|(simp only[noRef,noRefs,Qag,Zad,Zac,Zai,Qad,Qaj,Qaf,Qak,Qao,Qax,Qah,Qan,Qae,Qar,Qai,Qal,Qam,Qat];done))|exact Rn.x1 rfl rfl|exact Rn.x2 rfl rfl|exact Rn.x3 rfl rfl|exact Rn.x4 rfl rfl|exact Rn.x5 rfl|exact Rn.x6 rfl|exact Rn.x7 rfl|refine ZcC rfl rfl ?_|refine ZcB rfl rfl rfl ?_ ?_|refine ZcD rfl rfl rfl ?_ ?_|refine ZcE rfl rfl ?_ ?_|refine ZcF rfl rfl ?_ ?_)
     exact ZcP fun x _=>Zcq rfl
    ·rw[if_neg hmv,Zap]at hmn;rw[Zam]at hmv;rw[hmv]at hc;refine Zc0 (Zc1 hii (QbN (nz_at hv'))) ?_;refine cp hc ?_;refine ZcZ ?_;refine⟨(i+1,R),by dsimp only;omega,⟨hin',hsi',by dsimp only;omega,hq'⟩,?_⟩;dsimp only;rw[hmn];refine⟨[(60,.blk 60 0),(69,.blk 69 0),(83,.blk 83 0),(78,.blk 78 0),(74,.blk 74 0),(75,.blk 75 0),(76,.blk 76 0),(77,.blk 77 0)],rfl,au0,?_,au7⟩;repeat'(first|exact ZcA|(refine Zcr ?_;first|rfl|(simp only[noRef,noRefs,Qag,Zad,Zac,Zai,Qad,Qaj,Qaf,Qak,Qao,Qax,Qah,Qan,Qae,Qar,Qai,Qal,Qam,Qat];done))|exact ZcM rfl|exact ZcG|exact(True.intro:RnM _ _ _ [] [])|refine ZcH ?_ ?_|(refine Zcq ?_;first|rfl|(simp only[noRef,noRefs,Qag,Zad,Zac,Zai,Qad,Qaj,Qaf,Qak,Qao,Qax,Qah,Qan,Qae,Qar,Qai,Qal,Qam,Qat];done))|exact Rn.x1 rfl rfl|exact Rn.x2 rfl rfl|exact Rn.x3 rfl rfl|exact Rn.x4 rfl rfl|exact Rn.x5 rfl|exact Rn.x6 rfl|exact Rn.x7 rfl|refine ZcC rfl rfl ?_|refine ZcB rfl rfl rfl ?_ ?_|refine ZcD rfl rfl rfl ?_ ?_|refine ZcE rfl rfl ?_ ?_|refine ZcF rfl rfl ?_ ?_)
     exact ZcP fun x _=>Zcq rfl
   ·have hv:s.1[i]?=none:=ZaD (by omega);have hqf:s=sAll a (lf l):=by rw[<-hq,show a.n+1-i=(a.n-i)+1 by omega];simp only[sQ,hv]
    have hil:i=s.1.length:=by omega
    have hmf:mks a i s.1=(restr a (lf l)).ms:=by rw[hil,hqf];rfl
    have hef:s.2=(restr a (lf l)).es:=by rw[hqf];rfl
    refine Zc0 hlt ?_;refine⟨(),?_⟩;rw[hmf,hef,<-hqf];exact⟨[(60,.blk 60 0),(69,.blk 69 0),(83,.blk 83 0),(75,.blk 75 0),(76,.blk 76 0),(77,.blk 77 0)],rfl,au0,au8,au7⟩
  rintro _ _;have hra:(restr a (lf l)).al=a.al:=rfl;have hrn2:(restr a (lf l)).n=(sAll a (lf l)).1.length:=rfl;refine ZcZ ?_;refine⟨.inr trivial,_,rfl,?_⟩;refine RnO.tup (ZcJ (RnO.agg (ZcJ (RnO.slm (g:=0) rfl rfl rfl (Qcy _) (by simp[ints,hra])) (ZcJ (RnO.flat rfl) (ZcJ (RnO.slm (g:=0) rfl rfl rfl (Qcy _) (by simp[ints])) (ZcJ (RnO.slm (g:=0) rfl rfl rfl (Qtl _) (QbO _)) RnOL.nil))))) (ZcJ (RnO.slm (g:=0) rfl rfl rfl (Qcy _) (by simp[ints])) RnOL.nil))
 ·rw[Zam]at hl0;have e:sAll a (lf l)=([],[]):=by unfold sAll;rw[hl0,Bool.and_false,if_neg (by decide)];unfold sQ;rfl
  refine Zc0 (Zc3 h0' h0n hh0 hl0) ?_;refine⟨.inr trivial,_,rfl,?_⟩;have hr:restr a (lf l)=⟨a.al,0,[],[]⟩:=by unfold restr;rw[e];rfl
  rw[hr,e];exact RnO.tup (ZcJ (RnO.agg (ZcJ (RnO.slm (g:=0) rfl rfl rfl (Qcy _) (by simp[ints])) (ZcJ (RnO.flat rfl) (ZcJ RnO.nil (ZcJ RnO.nil RnOL.nil))))) (ZcJ RnO.nil RnOL.nil))
end Go.AM.SE
namespace Go.AM
variable{P:Program}
theorem HSpec.freeze{f b g len sz:Nat}{args ds:List AV}{h h1:Heap}(S:HSpec P f args h (.sl b g 0 len sz) h1)(M:h1.get b=some (.cells g ds))(hf:flatVs ds=true)(hl:len*sz<=ds.length)(X:Nat.blt b 1099511627775=true):HSpec P f args h (.fsl (ds.take (len*sz)) len sz) (h1.set b (.dead g)):=by
 have q:b<1099511627775:=by simp_all
 obtain⟨hc,hs⟩:=S;refine⟨hc,fun c w p H ha=>(hs c w p H ha).mono ?_⟩;rintro e I⟨cv,r,rfl,E,H',V⟩;have d:Live h1 b g:=⟨_,M,rfl,fun _=>by simp⟩;let c2:Ctx (okc P):={r with F:=fun k=>r.F k\/∃base,r.ρ b g=some (.loc k base),O:=fun k=>r.O k/\¬∃base,r.ρ b g=some (.loc k base)};have i:∀k,(h1.set b (.dead g)).get k=if k=b then some (.dead g)else h1.get k:=fun k=>by
  by_cases e:k=b;·subst e;rw[QaA q,if_pos rfl]
  simp_all[QaG]
 have G:∀k y,Live (h1.set b (.dead g)) k y->k≠b/\Live h1 k y:=by
  rintro k y⟨x,a,hg,Q⟩;rw[i]at a;split at a;·grind
  rename_i e;exact⟨e,x,a,hg,Q⟩
 have E2:Evo c w c2 I:=⟨E.os,E.tape,E.output,E.size,E.shape,E.keep,E.rho,fun k a=>.inl (E.frz k a),fun k a=>by
  rcases a with a|⟨base,a⟩;·exact E.frzNew k a
  rcases E.own k (H'.owned d a)with h|h;·simp_all
  omega,fun k a=>E.own k a.1,E.base⟩;refine⟨cv,c2,rfl,E2,⟨fun k a y=>?_,fun k x a y s=>?_,fun k x a=>?_,fun k y k' y' J base m l1 Y p1 p2=>H'.inj k y k' y' J base m (G _ _ l1).2 (G _ _ Y).2 p1 p2,fun k l K=>?_,fun k l=>?_,fun k K=>H'.inO k K.1⟩,?_⟩
 ·rw[i]at a;split at a;·cases a
  exact H'.fresh k a y
 ·rw[i]at a;split at a;·rename_i e;subst e;cases a;exact H'.later k _ M y s
  exact H'.later k x a y s
 ·rw[i]at a;split at a;·cases a;trivial
  rename_i e;refine Zcn (c:=r) (c':=c2) (w:=I) (w':=I) ⟨fun _ _ _ h=>h,fun _ h=>.inl h,fun _ _ _ h=>h,fun _ C _ U h=>⟨C,U,h,rfl⟩⟩ (fun J base Q hp=>?_) (H'.blk k x a);have B:Live h1 k x.gen:=⟨x,a,rfl,Q⟩;exact⟨⟨H'.owned B hp,fun⟨m,R⟩=>e (H'.inj _ _ _ _ _ _ _ B d hp R)⟩,rfl⟩
 ·rcases l with l|l;·exact H'.disj k l K.1
  grind
 ·rcases l with l|⟨base,l⟩;·exact H'.inF k l
  exact H'.inO k (H'.owned d l)
 simp only[VRel]at V;rcases V with⟨hp,rfl,_,rfl⟩|⟨J,base,o,cap,C,e,U,hp,rfl,hlc,Z,A⟩;·simp_all[VRel]
 obtain⟨C',e',fr',K,z,hfr,hbs,u⟩:=H'.here M hp;rw[Z]at z;cases z;have l:c2.F J:=.inr ⟨base,hp⟩;by_cases h0:cap=0
 ·have N:len=0:=by omega
  subst N;simp only[VRel];simp_all
 obtain⟨rfl,hbd⟩:=A.resolve_left h0;have L:=VPre.flat (c':=c2) (w':=I) hf u;have hp3:=VPre_take2 (len*sz) L;simp only[VRel];grind where VPre_take2{c:Ctx (okc P)}{w:World}:∀(n:Nat){xs:List AV}{t:List Value},VPre c w xs t->VPre c w (xs.take n) t|0,xs,t,h=>by simp[VPre]|n+1,[],t,h=>by simp[VPre]|n+1,x::xs,t,h=>by simp only[VPre]at h;obtain⟨v,T,rfl,h1,h2⟩:=h;simp only[Za7,VPre];exact⟨v,T,rfl,h1,VPre_take2 n h2⟩
end Go.AM
namespace Go.AM
variable{P:Program}
def OnlyD(D:Nat->Prop)(args:List AV):Prop:=∀(ok:Okc)(c c1:Ctx ok)(w:World)(a:List Value),(∀b g,D b->c1.ρ b g=c.ρ b g)->(∀k,c.F k->c1.F k)->VRels c w args a->VRels c1 w args a
theorem OnlyD.nil{D:Nat->Prop}:OnlyD D []:=fun _ c c1 w a _ _ h=>by grind[VRels]
theorem OnlyD.cons{D:Nat->Prop}{x:AV}{xs:List AV}(g:OnlyD D [x])(h:OnlyD D xs):OnlyD D (x::xs):=fun ok c c1 w m h1 d b=>by simp only[VRels]at b⊢;obtain⟨v,a,rfl,l,k⟩:=b;have:=g ok c c1 w [v] h1 d (by simp only[VRels];simp_all);simp only[VRels]at this;obtain⟨v2,i,e,f,_⟩:=this;cases e;exact⟨v,a,rfl,f,h _ c c1 w a h1 d k⟩
theorem OnlyD.same{D:Nat->Prop}{x:AV}(f:noRef x=true):OnlyD D [x]:=fun _ c c1 w i h1 h b=>by simp only[VRels]at b⊢;obtain⟨v,a,rfl,d,g⟩:=b;exact⟨v,a,rfl,Zco h _ _ f d,g⟩
theorem OnlyD.sl{D:Nat->Prop}{b g off len sz:Nat}(l:D b):OnlyD D [.sl b g off len sz]:=fun _ c c1 w h h1 k d=>by simp only[VRels]at d⊢;obtain⟨v,a,rfl,i,f⟩:=d;refine⟨v,a,rfl,?_,f⟩;simp_all[VRel]
theorem OnlyD.ptr{D:Nat->Prop}{b g off:Nat}(l:D b):OnlyD D [.ptr b g off]:=fun _ c c1 w h h1 k d=>by simp only[VRels]at d⊢;obtain⟨v,a,rfl,i,f⟩:=d;refine⟨v,a,rfl,?_,f⟩;simp_all[VRel]
theorem OnlyD.fn{D:Nat->Prop}{f:Nat}{xs ys:List AV}(l:OnlyD D xs)(k:OnlyD D ys):OnlyD D [.fn f xs ys]:=fun ok c c1 w q h1 g b=>by simp only[VRels]at b⊢;obtain⟨v,a,rfl,d,m⟩:=b;refine⟨v,a,rfl,?_,m⟩;simp only[VRel]at d⊢;obtain⟨o,p,rfl,h,i⟩:=d;exact⟨o,p,rfl,l ok c c1 w _ h1 g h,k ok c c1 w _ h1 g i⟩
theorem OnlyD.map{D:Nat->Prop}{b g:Nat}(l:D b):OnlyD D [.map b g]:=fun _ c c1 w h h1 k d=>by simp only[VRels]at d⊢;obtain⟨v,a,rfl,i,f⟩:=d;refine⟨v,a,rfl,?_,f⟩;simp_all[VRel]
def NoRefB:Blk->Prop|.cells _ cs=>noRefs cs=true|.map _ es=>∀e∈es,noRef e.1=true/\noRef e.2=true|.dead _=>True|_=>False
theorem VPre.noRef2{ok:Okc}{c c':Ctx ok}{w:World}(a:∀k,c.F k->c'.F k){xs:List AV}{vs:List Value}(b:noRefs xs=true)(h:VPre c w xs vs):VPre c' w xs vs:=VPre.noRef a _ _ b h
theorem MRel.noRef2{ok:Okc}{c c':Ctx ok}{w:World}(b:∀k,c.F k->c'.F k):∀{xs:List (AV×AV)}{es:List MapEntry}{clock:Nat},(∀e∈xs,noRef e.1=true/\noRef e.2=true)->MRel c w xs es clock->MRel c' w xs es clock|[],_,_,_,h=>h|(k,x)::r,es,clock,d,h=>by obtain⟨e,a,h1,m,l,i,f,g⟩:=h;obtain⟨q1,q2⟩:=d (k,x) (by simp);exact⟨e,a,h1,Zco b _ _ q1 m,Zco b _ _ q2 l,i,f,MRel.noRef2 b (fun e he=>d e (by simp[he])) g⟩
theorem NoRefB.rel{ok:Okc}{c c':Ctx ok}{w:World}{b:Nat}{x:Blk}(m:NoRefB x)(q:∀k,c.F k->c'.F k)(o:∀g,c'.ρ b g=c.ρ b g)(p:∀k g base,c.ρ b g=some (.loc k base)->(∀j,x≠.dead j)->x.gen=g->c.O k->c'.O k)(h:BRel c w b x):BRel c' w b x:=by cases x with|dead g=>trivial|map g es=>obtain⟨d,l,clock,h1,a,i,f⟩:=h;exact⟨d,l,clock,(o _).trans h1,p d g 0 h1 (fun _=>by simp) rfl a,i,MRel.noRef2 q m f.1,f.2⟩|loop=>exact m.elim|cells g cs=>
 rcases h with⟨h1,a⟩|⟨d,base,C,e,t,h1,a,i,f,r,s⟩;·exact .inl ⟨(o _).trans h1,a⟩
 exact .inr ⟨d,base,C,e,t,(o _).trans h1,p d g base h1 (fun _=>by simp) rfl a,i,f,r,VPre.noRef2 q m s⟩
theorem HSpec.frame{f:Nat}{args:List AV}{v:AV}{h h1 r h':Heap}(D:Nat->Prop)[DecidablePred D](hs:HSpec P f args h1 v r)(ha:OnlyD D args)(hv:OnlyD D [v])(e1:∀k,h1.get k=if D k then h.get k else none)(e2:∀k,¬D k->r.get k=none)(e3:∀k,h'.get k=if D k then r.get k else h.get k)(n1:∀k x,h1.get k=some x->NoRefB x)(n2:∀k x,r.get k=some x->NoRefB x):HSpec P f args h v h':=by
 obtain⟨hc,hs⟩:=hs;refine⟨hc,fun c w R H L=>?_⟩;let c1:Ctx (okc P):={ρ:=fun k y=>if D k then c.ρ k y else none,F:=c.F,O:=fun k=>∃b g base,D b/\Live h b g/\c.ρ b g=some (.loc k base),base:=c.base};have q:∀b y,D b->c1.ρ b y=c.ρ b y:=fun b y u=>if_pos u;have S:∀k,c1.O k->c.O k:=fun k⟨b,g,base,_,T,a⟩=>H.owned T a;have G:∀{k x},h1.get k=some x->D k/\h.get k=some x:=fun{k x}a=>by simp_all
 have Z:∀{k y},Live h1 k y->D k/\Live h k y:=fun{k y}⟨x,a,hx,d⟩=>⟨(G a).1,x,(G a).2,hx,d⟩;have H1:HRel c1 h1 w:=by
  refine⟨fun k a y=>?_,fun k x a y z=>?_,fun k x a=>?_,fun k y U Y m base l t s I C=>?_,fun k hF i=>H.disj k hF (S k i),H.inF,fun k i=>H.inO k (S k i)⟩
  ·rw[e1]at a;split at a;·rename_i d;rw[q _ _ d];exact H.fresh k a y
   grind
  ·obtain⟨d,a⟩:=G a;rw[q _ _ d];exact H.later k _ a y z
  ·obtain⟨d,X⟩:=G a;exact NoRefB.rel (c:=c) (c':=c1) (n1 k x a) (fun _ h=>h) (fun g=>q k g d) (fun m g base hp A K _=>⟨k,g,base,d,⟨x,X,K,A⟩,hp⟩) (H.blk k x X)
  obtain⟨d1,t⟩:=Z t;obtain⟨Q,s⟩:=Z s;rw[q _ _ d1]at I;rw[q _ _ Q]at C;exact H.inj _ _ _ _ _ _ _ t s I C
 refine(hs c1 w R H1 (ha _ c c1 w _ (fun b g u=>q b g u) (fun _ h=>h) L)).mono ?_;rintro e w'⟨cv,J,rfl,E,H',V⟩;let c2:Ctx (okc P):={ρ:=fun k y=>if D k then J.ρ k y else c.ρ k y,F:=J.F,O:=fun k=>J.O k\/(c.O k/\¬c1.O k),base:=c.base};have o:∀b y,D b->c2.ρ b y=J.ρ b y:=fun b y u=>if_pos u;have B:∀b y,¬D b->c2.ρ b y=c.ρ b y:=fun b y u=>if_neg u;have E2:Evo c w c2 w':=by
  refine⟨E.os,E.tape,E.output,E.size,E.shape,fun k a i=>E.keep k a fun h=>i (S k h),fun b y p hp=>?_,fun k a=>E.frz k a,fun k a=>?_,fun k a=>?_,rfl⟩
  ·by_cases d:D b;·rw[o _ _ d];exact E.rho b y p ((q _ _ d).trans hp)
   simp_all
  ·rcases E.frzNew k a with h|h|h;·exact .inl h
   ·simp_all
   omega
  rcases a with a|a
  ·rcases E.own k a with h|h;·simp_all
   exact .inr h
  simp_all
 have M:∀{k x},h'.get k=some x->(D k/\r.get k=some x)\/(¬D k/\h.get k=some x):=fun{k x}a=>by grind
 have N:∀{k y},Live h' k y->(D k/\Live r k y)\/(¬D k/\Live h k y):=fun{k y}⟨x,a,hx,d⟩=>by
  rcases M a with⟨q1,q2⟩|⟨q1,q2⟩;·exact .inl ⟨q1,x,q2,hx,d⟩
  exact .inr ⟨q1,x,q2,hx,d⟩
 have hout:∀{k y m base},¬D k->Live h k y->c.ρ k y=some (.loc m base)->¬c1.O m:=by rintro k y m base d T hp⟨b,g,l,u,hlb,hpb⟩;have:=H.inj _ _ _ _ _ _ _ T hlb hp hpb;simp_all
 have hcross:∀{k y U Y m base l},D k->Live r k y->J.ρ k y=some (.loc m base)->¬D U->Live h U Y->c.ρ U Y=some (.loc m l)->False:=by
  intro k y U Y m base l d t I hd' s C;rcases E.own m (H'.owned t I)with h|h;·grind
  have:=H.inO m (H.owned s C);omega
 refine⟨cv,c2,rfl,E2,⟨fun k a y=>?_,fun k x a y z=>?_,fun k x a=>?_,fun k y U Y m base l t s I C=>?_,fun k hF i=>?_,H'.inF,fun k i=>?_⟩,?_⟩
 ·rw[e3]at a;split at a;·rename_i d;rw[o _ _ d];exact H'.fresh k a y
  rename_i d;rw[B _ _ d];exact H.fresh k a y
 ·rcases M a with⟨d,a⟩|⟨d,a⟩;·rw[o _ _ d];exact H'.later k x a y z
  rw[B _ _ d];exact H.later k x a y z
 ·rcases M a with⟨d,a⟩|⟨d,a⟩;·exact NoRefB.rel (c:=J) (c':=c2) (n2 k x a) (fun _ h=>h) (fun g=>o k g d) (fun m g base hp A K i=>.inl i) (H'.blk k x a)
  refine Zcn (E2.ext H.disj) (fun m base A hp=>?_) (H.blk k x a);have T:Live h k x.gen:=⟨x,a,rfl,A⟩;have i:=H.owned T hp;have hn:=hout d T hp;exact⟨.inr ⟨i,hn⟩,E.keep m (H.inO m i) hn⟩
 ·rcases N t with⟨d1,t⟩|⟨d1,t⟩
  ·rw[o _ _ d1]at I;rcases N s with⟨Q,s⟩|⟨Q,s⟩;·rw[o _ _ Q]at C;exact H'.inj _ _ _ _ _ _ _ t s I C
   grind
  rw[B _ _ d1]at I;rcases N s with⟨Q,s⟩|⟨Q,s⟩;·grind
  rw[B _ _ Q]at C;exact H.inj _ _ _ _ _ _ _ t s I C
 ·rcases i with i|⟨i,hn⟩;·exact H'.disj k hF i
  rcases E.frzNew k hF with h|h|h;·exact H.disj k h i
  ·exact hn h
  have:=H.inO k i;omega
 ·rcases i with i|⟨i,_⟩;·exact H'.inO k i
  exact ZaU (H.inO k i) E.size
 have h5:VRels J w' [v] [cv]:=by simp only[VRels];simp_all
 have h6:=hv _ J c2 w' [cv] (fun b g u=>o b g u) (fun _ h=>h) h5;simp_all[VRels]
theorem Qb2{b:Nat}{x:Blk}(a:b<1099511627775)(k:Nat):(hp [(b,x)]).get k=if k=b then some x else none:=by
 simp only[hp];by_cases e:k=b;·subst e;rw[QaA a,if_pos rfl]
 simp_all[QaG,get_e]
theorem Qfl{b c:Nat}{x y:Blk}(a:b<1099511627775)(hc:c<1099511627775)(k:Nat):(hp [(b,x),(c,y)]).get k=if k=b then some x else if k=c then some y else none:=by
 rw[QaS];by_cases e:k=b;·subst e;rw[QaA a,if_pos rfl]
 simp_all[QaG,Qb2]
theorem HSpec.frameA{f b g i:Nat}{args xs ys:List AV}{v:AV}{h:Heap}(o:HSpec P f args (hp [(b,.cells g xs)]) v (hp [(b,.cells i ys)]))(q:OnlyD (fun k=>k=b) args)(l:OnlyD (fun k=>k=b) [v])(m:noRefs xs=true)(p:noRefs ys=true)(r:h.get b=some (.cells g xs))(d:Nat.blt b 1099511627775=true):HSpec P f args h v (h.set b (.cells i ys)):=by
 have a:b<1099511627775:=by simp_all
 refine HSpec.frame (fun k=>k=b) o q l (fun k=>?_) (fun k c=>?_) (fun k=>?_) (fun k x c=>?_) (fun k x c=>?_);·rw[Qb2 a];simp_all
 ·simp_all[Qb2]
 ·rw[Qb2 a];by_cases e:k=b;·subst e;rw[if_pos rfl,if_pos rfl,QaA a]
  simp_all[QaG]
 ·rw[Qb2 a]at c;split at c;·cases c;exact m
  cases c
 rw[Qb2 a]at c;split at c;·cases c;exact p
 cases c
theorem HSpec.frameM{f b g i:Nat}{args:List AV}{xs ys:List (AV×AV)}{v:AV}{h:Heap}(o:HSpec P f args (hp [(b,.map g xs)]) v (hp [(b,.map i ys)]))(q:OnlyD (fun k=>k=b) args)(l:OnlyD (fun k=>k=b) [v])(m:∀e∈xs,noRef e.1=true/\noRef e.2=true)(p:∀e∈ys,noRef e.1=true/\noRef e.2=true)(r:h.get b=some (.map g xs))(d:Nat.blt b 1099511627775=true):HSpec P f args h v (h.set b (.map i ys)):=by
 have a:b<1099511627775:=by simp_all
 refine HSpec.frame (fun k=>k=b) o q l (fun k=>?_) (fun k c=>?_) (fun k=>?_) (fun k x c=>?_) (fun k x c=>?_);·rw[Qb2 a];simp_all
 ·simp_all[Qb2]
 ·rw[Qb2 a];by_cases e:k=b;·subst e;rw[if_pos rfl,if_pos rfl,QaA a]
  simp_all[QaG]
 ·rw[Qb2 a]at c;split at c;·cases c;exact m
  cases c
 rw[Qb2 a]at c;split at c;·cases c;exact p
 cases c
theorem HSpec.frameB{f a l b g r:Nat}{args us xs ys:List AV}{v:AV}{h:Heap}(y:HSpec P f args (hp [(a,.cells l us),(b,.cells g xs)]) v (hp [(a,.cells l us),(b,.cells r ys)]))(u:OnlyD (fun k=>k=a\/k=b) args)(s:OnlyD (fun k=>k=a\/k=b) [v])(hu:noRefs us=true)(t:noRefs xs=true)(z:noRefs ys=true)(o:h.get a=some (.cells l us))(A:h.get b=some (.cells g xs))(p:a≠b)(m:Nat.blt a 1099511627775=true)(q:Nat.blt b 1099511627775=true):HSpec P f args h v (h.set b (.cells r ys)):=by
 have i:a<1099511627775:=by simp_all
 have d:b<1099511627775:=by simp_all
 refine HSpec.frame (fun k=>k=a\/k=b) y u s (fun k=>?_) (fun k c=>?_) (fun k=>?_) (fun k x c=>?_) (fun k x c=>?_);·rw[Qfl i d];grind
 ·simp_all[Qfl]
 ·rw[Qfl i d];by_cases e:k=a;·subst e;rw[if_pos rfl,if_pos (.inl rfl),QaG d p,o]
  rw[if_neg e];by_cases w:k=b;·subst w;rw[if_pos rfl,if_pos (.inr rfl),QaA d]
  simp_all[QaG]
 ·rw[Qfl i d]at c;split at c;·cases c;exact hu
  split at c;·cases c;exact t
  cases c
 rw[Qfl i d]at c;split at c;·cases c;exact hu
 split at c;·cases c;exact z
 cases c
theorem HSpec.QoH{f m:Nat}{sf:SFn}{args:List AV}{L0 L:HL}{v:AV}(n:Nat)(d:okFn P f sf=true)(o:Nat.ble args.length sf.n=true)(hm:(Nat.ble m 1099511627775&&L0.all fun p=>Nat.blt p.1 m)=true)(hw:wS P ⟨sf.n,m⟩ sf.body [] n (argT 0 args) (hp L0) fun e T k _=>(e=.normal\/e=.ret)/\∃vs,resV T k sf.res=some vs/\Rec m [(0,v)] L [(0,resOf vs)] k):HSpec P f args (hp L0) v (hp L):=by
 simp only[Zaa,Nat.ble_eq]at hm;refine HSpec.of_W2 d (Zas o) (fun b a=>?_) ((Zcs hw).mono ?_)
 ·have :∀M:HL,M.all (fun p=>Nat.blt p.1 m)=true->(hp M).get b=none:=by intro M;induction M with|nil=>intro _;exact get_e|cons q M h=>obtain⟨j,x⟩:=q;intro l;simp only[Zb9,Zaa,Nat.blt,Nat.ble_eq]at l;rw[QaS,QaG (by omega) (by omega)];exact h (by grind[Nat.blt])
  grind
 rintro e B⟨r,h1,vs,g,s,ho,c,a,i⟩;exact⟨h1,vs,_,g,Rec.maps ho a,Rec.heap ho a,Rec.dom ho c,i 0⟩
end Go.AM
