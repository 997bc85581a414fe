/- A part of the proof of SynthesisLoopsCardSaid: lemmas on the way (AmGb, AmGc, AmGd, AmGk, AmGl, AmCq, AmGe, AmGf, AmGn, AmGp, AmGq, AmGo, AmTo, AmTm, AmCzf, AmGg, AmGs, AmGr, AmGt, AmGu, AmGv, AmGw, AmTp, AmHc). Conditions: none of ours. -/
import Derived.Test.YtmoanlnleppcpaaGreatDoorProg
import Derived.KernelRfl
import Derived.Test.YtmoanlnleppcpaaGreatDoorAmV14
set_option linter.unusedSectionVars false
set_option maxHeartbeats 32000000
set_option maxRecDepth 100000
set_option linter.unusedVariables false
set_option linter.unusedSimpArgs false
namespace Go.AM.SO
open Go.Proofs Go.AM.SD Go.AM.SE
def auC(a:Aut):List AV:=[sliN a.al,.int .i64 (a.n:Int),sliN a.ms,egsN a.es]
abbrev auts(l:List Aut):AV:=.fsl (l.flatMap auC) l.length 4
theorem QaX(l:List Aut):noRefs (l.flatMap auC)=true:=Qa0 (fun x=>by simp only[auC,noRefs,noRef,Qab,Qaf];rfl) l
theorem Qa7(l:List Aut):noRef (auts l)=true:=by simp only[noRef];exact QaX l
theorem Qgi(l:List Aut):(l.flatMap auC).length=l.length*4:=Qbb (k:=4) (fun _=>rfl) l
theorem QdQ{l:List Aut}{i:Nat}{x:Aut}(h:l[i]?=some x):(l.flatMap auC).drop (i*4)=sliN x.al::.int .i64 (x.n:Int)::sliN x.ms::egsN x.es::(l.drop (i+1)).flatMap auC:=Qbf (f:=auC) (k:=4) (fun _=>rfl) h
theorem _root_.Go.AM.au20{p:Prop}(h:p:=by repeat(first|exact Zcg|(refine Zch ?_ ?_;·(first|exact Rn.any|exact Rn.x1 rfl rfl|exact Rn.x2 rfl rfl|exact Rn.x3 rfl rfl|exact Rn.x4 rfl rfl|exact Rn.x5 rfl|exact Rn.x6 rfl|exact Rn.x7 rfl|(refine Rn.slot ?_ ?_;(first|rfl|(rw[ZaO];rfl));(first|rfl|(simp only[noRef,noRefs,Qag,Zad,Zac,Zah,Qab,Qan,Qaa,Qaj];done)))|(refine Rn.fn ?_ ?_<;>(repeat'(first|exact Zco|refine Zcp ?_ ?_|exact Zb9 rfl|exact Rn.x6 rfl|exact Rn.x2 rfl rfl|exact Rn.x5 rfl|exact Rn.x1 rfl rfl))))))):p:=h
theorem _root_.Go.AM.au21{p:Prop}(h:p:=by repeat'(first|exact Zci|(refine Zca ?_;first|rfl|(simp only[noRef,noRefs,Qag,Zad,Zac,Zah,Qab,Qan,Qaa,Qaj];done))|exact Zct rfl|exact Zco|exact(True.intro:RnM _ _ _ [] [])|refine Zcp ?_ ?_|(refine Zb9 ?_;first|rfl|(simp only[noRef,noRefs,Qag,Zad,Zac,Zah,Qab,Qan,Qaa,Qaj];done))|exact Rn.x1 rfl rfl|exact Rn.x2 rfl rfl|exact Rn.x3 rfl rfl|exact Rn.x4 rfl rfl|exact Rn.x5 rfl|exact Rn.x6 rfl|exact Rn.x7 rfl|refine Zck rfl rfl ?_|refine Zcj rfl rfl rfl ?_ ?_|refine Zcl rfl rfl rfl ?_ ?_|refine Zcm rfl rfl ?_ ?_|refine Zcn rfl rfl ?_ ?_)):p:=h
theorem check95(l:List Aut)(h:∀a∈l,WfJ a)(m:l.length<=12):PSpec Tryz.prog 95 [auts l] (.int .i64 0):=by
 refine Zcc 64 TP.ok95 rfl (by rw[noRefs,Qa7];rfl) rfl ?_;have g1:¬(12:Int)<(l.length:Int):=by omega
 have c:=Qa7 l;unfold TP.s95;refine ZcF g1 ?_;refine Qat 100 (fun i:Nat=>[(9,auts l),(10,.int .i64 l.length),(11,.int .i64 i)]) (fun _=>[]) (fun i=>i<=l.length) (fun i=>l.length-i) 0 0 140 (fun _:Unit=>[]) (fun _=>[]) (fun _=>True) ?_ (Zaj _) ?_ ?_;·exact⟨[],rfl,Zcf,Zci,Zch (Zb9 c) au20⟩
 ·rintro i hi;by_cases b:i<l.length
  ·obtain⟨x,k⟩:=Qaq b;have d:=h x (Zae k);have f:=QdQ k;have g:4<=((l.flatMap auC).drop (i*4)).length:=by rw[f];simp
   have hc:=check112 x d.wf (by have:=WfA.el1 d.wf;omega);refine ZcF (ZcJ b f g) ?_;refine cp hc ?_;refine ZcE ?_;exact⟨i+1,by omega,by omega,[],rfl,Zcf,Zci,Zch (Zb9 c) au20⟩
  refine ZcF b ?_;exact⟨(),⟨[],rfl,au0,au21,au20⟩⟩
 rintro _ _;refine ZcE ?_;exact⟨.inr trivial,_,rfl,rfl⟩
theorem Qrd{l:List Aut}{i:Nat}{x:Aut}(h:l[i]?=some x):evA (l.take (i+1))=mrg (fun a b=>a||b) (evA (l.take i)) x.al:=by unfold evA;rw[take_succ' h,Za5];rfl
theorem QeO(l:List Aut):evA l=uUp (l.map fun a=>(0,a)):=by unfold evA uUp;rw[List.foldl_map];rfl
theorem Qit{l:List Aut}(h:∀a∈l,WfI a):(evA l).Pairwise (·<·):=by rw[QeO];refine Qfj fun x c=>?_;obtain⟨a,b,rfl⟩:=Zao.1 c;exact h a b
theorem Qsc{l:List Aut}(h:∀a∈l,WfI a):(evA l).length<=5:=by rw[QeO];refine QiY fun x c=>?_;obtain⟨a,b,rfl⟩:=Zao.1 c;exact h a b
theorem QnD{l:List Aut}(h:∀a∈l,WfJ a):(evA l).Pairwise (·<·)/\∀e,e∈evA l↔∃a∈l,e∈a.al:=by
 have:=Qgt (l:=l.map fun a=>(0,a)) (out:=[]) (by simp) (fun x c=>by obtain⟨a,b,rfl⟩:=Zao.1 c;exact(h a b).wf.al);rw[QeO];refine⟨this.1,fun e=>(this.2 e).trans ?_⟩;constructor
 ·rintro(h|⟨y,d,he⟩);·cases h
  obtain⟨a,b,rfl⟩:=Zao.1 d;exact⟨a,b,he⟩
 rintro⟨a,b,c⟩;exact .inr ⟨_,Zao.2 ⟨a,b,rfl⟩,c⟩
theorem QnE{l:List Aut}(h:∀a∈l,WfJ a):(evA l).length<=32:=by refine QaT 32 _ (by rw[ZaL];exact(QnD h).1.imp fun h=>by omega) fun x c=>?_;obtain⟨a,b,he⟩:=((QnD h).2 x).1 c;exact(h a b).wf.al5 x he
theorem events187(l:List Aut)(h:∀a∈l,WfJ a)(p:l.length<=12):PSpec Tryz.prog 187 [auts l] (sliN (evA l)):=by
 refine Zcb 64 TP.ok187 rfl (by rw[noRefs,Qa7];rfl) (Qaa _) ?_;have d:=Qa7 l;unfold TP.s187;refine ZcE ?_;refine Qat 100 (fun i:Nat=>[(3,sliN (evA (l.take i))),(6,auts l),(7,.int .i64 l.length),(8,.int .i64 i)]) (fun _=>[]) (fun i=>i<=l.length) (fun i=>l.length-i) 0 0 140 (fun _:Unit=>[(3,sliN (evA l))]) (fun _=>[]) (fun _=>True) ?_ (Zaj _) ?_ ?_;·exact⟨[],rfl,Zcf,Zci,Zch Rn.nilK (Zch (Zb9 d) au20)⟩
 ·rintro i hi;by_cases c:i<l.length
  ·obtain⟨x,g⟩:=Qaq c;have k:=h x (Zae g);have f:=QdQ g;have m:4<=((l.flatMap auC).drop (i*4)).length:=by rw[f];simp
   have b:(evA (l.take i)).length<=1000000:=by have:=QnE (l:=l.take i) fun y o=>h y (ZaU o);omega
   have n:=union84 (evA (l.take i)) x.al b (by have:=Qge k.wf;omega);rw[<-Qrd g]at n;refine ZcF (ZcJ c f m) ?_;refine cp n ?_;refine ZcE ?_;exact⟨i+1,by omega,by omega,[],rfl,Zcf,Zci,Zch (Zb9 (Qaa _)) (Zch (Zb9 d) au20)⟩
  have e:i=l.length:=by omega
  subst e;refine ZcF (ZcI c @Zau) ?_;exact⟨(),⟨[],rfl,au0,au21,au20⟩⟩
 rintro _ _;refine ZcE ?_;exact⟨.inr trivial,_,rfl,Zb9 (Qaa _)⟩
theorem has189(l:List Nat)(t:Nat)(b:l.Pairwise (·<·))(a:l.length<=1000000):PSpec Tryz.prog 189 [sliN l,.int .i64 (t:Int)] (.bool (l.contains t)):=by refine Zcc 64 TP.ok189 rfl (by(try simp only[noRefs,Qab,noRef,noRefs,Zad,Zac])<;>rfl) rfl ?_;have h:=find57 l t (b.imp fun h=>Nat.le_of_lt h) a;unfold TP.s189;refine ZcE ?_;refine cp h ?_;refine ZcE ?_;exact⟨.inr trivial,_,rfl,rfl⟩
end Go.AM.SO
namespace Go.AM.SO
open Go.Proofs Go.AM.SD Go.AM.SE
theorem _root_.Go.AM.ZcB{p q A:Prop}(a:A)(k:q)(h:A->p=q:=by intro a;conv=>lhs;simp(disch:=first|omega|exact PairsOK.mk rfl|(simp only[lenW]<;>omega))only[a,Zau,Qac,Qad,Qae,wW,wV,simprocAttr]):p:=h a▸k
theorem _root_.Go.AM.ZcG{p q:Prop}(k:q)(h:p=q:=by conv=>lhs;simp(disch:=first|omega|exact PairsOK.mk rfl|(simp only[lenW]<;>omega))only[Qac,Qad,Qae,wW,wV,simprocAttr]):p:=h▸k
theorem _root_.Go.AM.ZcH{p q A:Prop}(a:A)(k:q)(h:A->p=q:=by intro a;conv=>lhs;simp(disch:=first|omega|exact PairsOK.mk rfl|(simp only[lenW]<;>omega))only[a,Qac,Qad,Qae,wW,wV,simprocAttr]):p:=h a▸k
theorem Qav{α:Type}{f:α->AV}(h:∀x,noRef (f x)=true)(l:List α):noRefs (l.map f)=true:=by induction l with|nil=>rfl|cons x l a=>simp only[ZaK,noRefs,h,a];rfl
def pE(e:Ed):Nat×Nat:=(e.1,e.2.1)
def vE(es:List Ed)(p:Nat×Nat):AV:=.int .i64 (((stepA es p.1 p.2).getD 0:Nat):Int)
abbrev emV(a:Aut):AV:=fmapG kP (vE a.es) (a.es.map pE)
theorem Qcm(a:Aut):noRef (emV a)=true:=by rw[emV,fmapG,noRef,Qav (fun _=>rfl),Qav (fun _=>rfl)];rfl
theorem Qac{x y:List AV}:(AV.fmap x y).cells=[.fmap x y]:=rfl
theorem Qad{x y:List AV}:(AV.fmap x y).one=true:=rfl
theorem Qae{x y:List AV}:(AV.fmap x y).boxable=true:=rfl
abbrev macV(l:List Aut):AV:=.agg [auts l,sliN (evA l),.fsl (l.map emV) l.length 1]
theorem QcK(l:List Aut):noRef (macV l)=true:=by rw[macV,noRef,noRefs,noRefs,noRefs,Qa7,Qaa,noRef,Qav Qcm];rfl
theorem Qiu{e:Ed}{es:List Ed}{s v:Nat}:stepA (e::es) s v=if e.1=s/\e.2.1=v then some e.2.2 else stepA es s v:=by unfold stepA;rw[List.find?_cons];by_cases h1:e.1=s<;>by_cases a:e.2.1=v<;>simp[h1,a,beq_eq_false_iff_ne.2]
theorem QhG:∀{es:List Ed},es.Pairwise (fun x y=>x.1<y.1\/(x.1=y.1/\x.2.1<y.2.1))->∀{e:Ed},e∈es->stepA es e.1 e.2.1=some e.2.2
 |x::es,h,e,he=>by
  rw[Zav]at h;rw[Qiu];rcases Zaw.1 he with rfl|he;·rw[if_pos ⟨rfl,rfl⟩]
  have :=h.1 e he;rw[if_neg (by omega)];exact QhG h.2 he
theorem Qiv:∀{es:List Ed}{s v:Nat},(s,v)∉es.map pE->stepA es s v=none|[],s,v,_=>rfl|x::es,s,v,h=>by rw[ZaK,Zaw,not_or]at h;rw[Qiu,if_neg fun a=>h.1 (by unfold pE;rw[a.1,a.2])];exact Qiv h.2
theorem Qeq{es:List Ed}{s v t:Nat}(h:stepA es s v=some t):(s,v)∈es.map pE:=by refine Decidable.byContradiction fun a=>?_;rw[Qiv a]at h;cases h
theorem Qre{es:List Ed}(h:es.Pairwise (fun x y=>x.1<y.1\/(x.1=y.1/\x.2.1<y.2.1))){j:Nat}{e:Ed}(he:es[j]?=some e):(e.1,e.2.1)∉(es.take j).map pE:=by
 intro hm;obtain⟨y,d,b⟩:=Zao.1 hm;obtain⟨k,hk⟩:=List.mem_iff_getElem?.1 d;have a:k<j:=by
  rcases Zbu k j with h|h;·exact h
  rw[ZaA (by rw[Zas];omega)]at hk;cases hk
 rw[List.getElem?_take_of_lt a]at hk;obtain⟨c,g⟩:=Zam.1 hk;obtain⟨i,f⟩:=Zam.1 he;have:=Za7.1 h k j c i a;rw[g,f]at this;unfold pE at b;simp only[Zag]at b;omega
theorem QtA{es:List Ed}(h:es.Pairwise (fun x y=>x.1<y.1\/(x.1=y.1/\x.2.1<y.2.1))){e:Ed}(he:e∈es):updG (vE es) (e.1,e.2.1) (.int .i64 (e.2.2:Int))=vE es:=by
 funext p;unfold updG;split;·rename_i hp;subst hp;unfold vE;rw[QhG h he];rfl
 rfl
theorem _root_.Go.AM.au22{p:Prop}(h:p:=by repeat(first|exact Zcg|(refine Zch ?_ ?_;·(first|exact Rn.any|exact Rn.x1 rfl rfl|exact Rn.x2 rfl rfl|exact Rn.x3 rfl rfl|exact Rn.x4 rfl rfl|exact Rn.x5 rfl|exact Rn.x6 rfl|exact Rn.x7 rfl|(refine Rn.slot ?_ ?_;(first|rfl|(rw[ZaO];rfl));(first|rfl|(simp only[noRef,noRefs,Qag,Zad,Zac,Zah,Qab,Qan,Qaa,Qaj,QaX,Qaf];done)))|(refine Rn.fn ?_ ?_<;>(repeat'(first|exact Zco|refine Zcp ?_ ?_|exact Zb9 rfl|exact Rn.x6 rfl|exact Rn.x2 rfl rfl|exact Rn.x5 rfl|exact Rn.x1 rfl rfl))))))):p:=h
theorem open96(l:List Aut)(h:∀a∈l,WfJ a)(v:l.length<=12):PSpec Tryz.prog 96 [auts l] (macV l):=by
 refine Zcb 64 TP.ok96 rfl (by rw[noRefs,Qa7];rfl) (QcK l) ?_;have p:=events187 l h v;have b:=Qa7 l;have hlen:(l.map emV).length=l.length:=Zaz ..;unfold TP.s96;refine ZcG ?_;refine cp p ?_;refine ZcG ?_;refine Qat 120 (fun i:Nat=>[(2,.ptr 51 0 0),(3,.ptr 52 0 0),(13,auts l),(14,.int .i64 l.length),(15,.int .i64 i)]) (fun i=>[(51,.cells 0 [.nilsl,.nilsl,.nilsl]),(52,.cells 0 [auts l,sliN (evA l),.sl 76 0 0 i 1]),(76,.cells 0 ((l.take i).map emV))]) (fun i=>i<=l.length) (fun i=>l.length-i) 0 0 300 (fun _:Unit=>[(2,.ptr 51 0 0),(3,.ptr 52 0 0)]) (fun _=>[(51,.cells 0 [.nilsl,.nilsl,.nilsl]),(52,.cells 0 [auts l,sliN (evA l),.fsl (l.map emV) l.length 1])]) (fun _=>True) ⟨[(51,.blk 64 0),(52,.blk 69 0),(76,.nil)],rfl,au0,?_,au22⟩ (Zaj _) ?_ ?_;·exact Zcj rfl rfl gg (Zca rfl) (Zcj rfl rfl gg (Zcp (Zb9 b) (Zcp (Zb9 (Qaa _)) (Zcp (Rn.x4 rfl rfl) Zco))) (Zck rfl rfl Zci))
 ·rintro i hi;by_cases f:i<l.length
  ·obtain⟨x,t⟩:=Qaq f;have c:=h x (Zae t);have k:=QdQ t;have q:4<=((l.flatMap auC).drop (i*4)).length:=by rw[k];simp
   have m:=take_succ' t;have s:(l.take i).length=i:=by rw[Zas];omega
   have r:((l.take i).map emV).length=i:=by rw[Zaz,s]
   have y:=WfA.el1 c.wf;refine ZcH (ZcJ f k q) ?_;refine Qat 220 (fun j:Nat=>[(2,.ptr 51 0 0),(3,.ptr 52 0 0),(13,auts l),(14,.int .i64 l.length),(15,.int .i64 i),(6,.map 77 0),(21,egsN x.es),(22,.int .i64 x.es.length),(23,.int .i64 j)]) (fun j=>[(51,.cells 0 [.nilsl,.nilsl,.nilsl]),(52,.cells 0 [auts l,sliN (evA l),.sl 76 0 0 i 1]),(76,.cells 0 ((l.take i).map emV)),(77,.map 0 (mapG kP (vE x.es) ((x.es.take j).map pE)))]) (fun j=>j<=x.es.length) (fun j=>x.es.length-j) 0 2 280 (fun _:Unit=>[(2,.ptr 51 0 0),(3,.ptr 52 0 0),(13,auts l),(14,.int .i64 l.length),(15,.int .i64 i),(6,emV x)]) (fun _=>[(51,.cells 0 [.nilsl,.nilsl,.nilsl]),(52,.cells 0 [auts l,sliN (evA l),.sl 76 0 0 i 1]),(76,.cells 0 ((l.take i).map emV))]) (fun _=>True) ⟨[(51,.blk 51 0),(52,.blk 52 0),(76,.blk 76 0),(77,.blk 125 0)],rfl,au0,?_,au22⟩ (Zaj _) ?_ ?_;·exact Zcj rfl rfl gg (Zca rfl) (Zcj rfl rfl gg (Zcp (Zb9 b) (Zcp (Zb9 (Qaa _)) (Zcp (Rn.x1 rfl rfl) Zco))) (Zcj rfl rfl gg (Zca (Qav Qcm _)) (Zcl rfl rfl gg (Zcx fun _ _=>⟨rfl,rfl⟩) Zci)))
   ·rintro j z;by_cases d:j<x.es.length
    ·obtain⟨e,he⟩:=Qaq d;have g:=QaJ he;have n:3<=((x.es.flatMap edC).drop (j*3)).length:=by rw[g];simp
     have o:=Qre c.wf.es he;have u:=QtA c.wf.es (Zae he);refine ZcH (ZcJ d g n) ?_;refine Qck (c:=kP) (f:=vE x.es) (x:=(e.1,e.2.1)) (l:=(x.es.take j).map pE) (g:=0) gg QlZ o (by omega) ?_;rw[u];refine ZcG ?_;refine⟨j+1,by omega,by omega,?_⟩;rw[take_succ' he,ZaN];refine⟨[(51,.blk 51 0),(52,.blk 52 0),(76,.blk 76 0),(77,.blk 77 0)],rfl,au0,?_,au22⟩;exact Zcj rfl rfl gg (Zca rfl) (Zcj rfl rfl gg (Zcp (Zb9 b) (Zcp (Zb9 (Qaa _)) (Zcp (Rn.x1 rfl rfl) Zco))) (Zcj rfl rfl gg (Zca (Qav Qcm _)) (Zcl rfl rfl gg (Zcx fun _ _=>⟨rfl,rfl⟩) Zci)))
    have e:j=x.es.length:=by omega
    subst e;refine ZcB d ?_;refine⟨(),[(51,.blk 51 0),(52,.blk 52 0),(76,.blk 76 0)],rfl,Zcf,?_,?_⟩;·exact Zcj rfl rfl gg (Zca rfl) (Zcj rfl rfl gg (Zcp (Zb9 b) (Zcp (Zb9 (Qaa _)) (Zcp (Rn.x1 rfl rfl) Zco))) (Zcj rfl rfl gg (Zca (Qav Qcm _)) Zci))
    exact Zch (Rn.x2 rfl rfl) (Zch (Rn.x2 rfl rfl) (Zch (Zb9 b) (Zch (Zb9 rfl) (Zch (Zb9 rfl) (Zch (Rn.fzM (b:=77) (g:=0) gg rfl rfl fun _ _=>⟨rfl,rfl⟩) Zcg)))))
   rintro _ _;have w:=Qcm x;refine ZcH r ?_;refine⟨i+1,by omega,by omega,?_⟩;rw[m,ZaN];refine⟨[(51,.blk 51 0),(52,.blk 52 0),(76,.blk 76 1)],rfl,au0,?_,au22⟩;exact Zcj rfl rfl gg (Zca rfl) (Zcj rfl rfl gg (Zcp (Zb9 b) (Zcp (Zb9 (Qaa _)) (Zcp (Rn.x1 rfl rfl) Zco))) (Zcj rfl rfl gg (Zca (SU.Qaw (Qav Qcm _) (Qav Qcm [x]))) Zci))
  have e:i=l.length:=by omega
  subst e;refine ZcB f ?_;refine⟨(),?_⟩;refine⟨[(51,.blk 51 0),(52,.blk 52 0)],rfl,au0,?_,au22⟩;exact Zcj rfl rfl gg (Zca rfl) (Zcj rfl rfl gg (Zcp (Zb9 b) (Zcp (Zb9 (Qaa _)) (Zcp (Zcq rfl rfl rfl rfl (by simp) (Zca (Qav Qcm _))) Zco))) Zci)
 rintro _ _;refine ZcG ?_;refine⟨.inr trivial,_,rfl,?_⟩;exact Zb9 (QcK l)
end Go.AM.SO
namespace Go.AM.SO
open Go.Proofs Go.AM.SD Go.AM.SE
theorem QdH(l:List Aut):noRefs [auts l,sliN (evA l),.fsl (l.map emV) l.length 1]=true:=by have:=QcK l;rwa[macV,noRef]at this
theorem Qp5(n:Nat)(x:Int):(List.replicate n [AV.int .i64 x]).flatten=ints (List.replicate n x):=by induction n with|zero=>rfl|succ n a=>rw[Za6,Zbv,a];rfl
theorem QtB(n:Nat):nz (List.replicate n 0)=List.replicate n 0:=by simp[nz]
theorem initial97(l:List Aut)(h:∀a∈l,WfJ a)(p:0<l.length)(q:l.length<=12):PSpec Tryz.prog 97 [macV l] (.tup [sliN (List.replicate l.length 0),.bool true]):=by
 refine Zcb 64 TP.ok97 rfl (by rw[noRefs,QcK];rfl) (by rw[noRef,noRefs,Qaa];rfl) ?_;have o:=Qa7 l;have b:=QdH l;have k:(l.length:Int)<=140737488355328:=by omega
 have g:(8:Int)*l.length<=140737488355328:=by omega
 unfold TP.s97;refine ZcG ?_;refine Qat 100 (fun i:Nat=>[(1,.ptr 51 0 0),(7,auts l),(8,.int .i64 l.length),(9,.int .i64 i)]) (fun _=>[(51,.cells 0 [auts l,sliN (evA l),.fsl (l.map emV) l.length 1])]) (fun i=>i<=l.length) (fun i=>l.length-i) 0 0 140 (fun _:Unit=>[(1,.ptr 51 0 0)]) (fun _=>[(51,.cells 0 [auts l,sliN (evA l),.fsl (l.map emV) l.length 1])]) (fun _=>True) ⟨[(51,.blk 64 0)],rfl,au0,?_,au22⟩ (Zaj _) ?_ ?_;·exact Zcj rfl rfl gg (Zca b) Zci
 ·rintro i hi;by_cases c:i<l.length
  ·obtain⟨x,n⟩:=Qaq c;have m:=h x (Zae n);have d:=QdQ n;have f:4<=((l.flatMap auC).drop (i*4)).length:=by rw[d];simp
   have hp:¬(x.n:Int)=0:=by have:=m.pos;omega
   simp(disch:=first|omega|exact PairsOK.mk rfl|(simp only[lenW]<;>omega))only[c,d,f,hp,Qac,Qad,Qae,wW,wV,simprocAttr];refine⟨i+1,by omega,by omega,?_⟩;refine⟨[(51,.blk 51 0)],rfl,au0,?_,au22⟩;exact Zcj rfl rfl gg (Zca b) Zci
  refine ZcH c ?_;refine⟨(),?_⟩;refine⟨[(51,.blk 51 0)],rfl,au0,?_,au22⟩;exact Zcj rfl rfl gg (Zca b) Zci
 rintro _ _;refine ZcF (ZcM k g @Qp5 @Qac @Qad @Qae) ?_;refine⟨.inr trivial,_,rfl,?_⟩;refine Rn.tup (Zcp ?_ (Zca rfl));have e:sliN (List.replicate l.length 0)=.fsl (ints (List.replicate l.length 0)) l.length 1:=by rw[sliN,QtB,ZbG]
 rw[e];exact Rn.fz0 (b:=143) rfl (by simp[ints]) (Zca (Qab _))
theorem _root_.Go.AM.au23{p:Prop}(h:p:=by repeat'(first|exact Zci|(refine Zca ?_;first|rfl|(simp only[noRef,noRefs,Qag,Zad,Zac,Zah,Qab,Qan,Qaa,Qaj,QaX,Qaf];done))|exact Zct rfl|exact Zco|exact(True.intro:RnM _ _ _ [] [])|refine Zcp ?_ ?_|(refine Zb9 ?_;first|rfl|(simp only[noRef,noRefs,Qag,Zad,Zac,Zah,Qab,Qan,Qaa,Qaj,QaX,Qaf];done))|exact Rn.x1 rfl rfl|exact Rn.x2 rfl rfl|exact Rn.x3 rfl rfl|exact Rn.x4 rfl rfl|exact Rn.x5 rfl|exact Rn.x6 rfl|exact Rn.x7 rfl|refine Zck rfl rfl ?_|refine Zcj rfl rfl rfl ?_ ?_|refine Zcl rfl rfl rfl ?_ ?_|refine Zcm rfl rfl ?_ ?_|refine Zcn rfl rfl ?_ ?_)):p:=h
theorem marked99(l:List Aut)(t:List Nat)(h:∀a∈l,WfJ a)(w:l.length<=12)(v:t.length=l.length):PSpec Tryz.prog 99 [macV l,sliN t] (.bool (mkdT l t)):=by
 refine Zcb 64 TP.ok99 rfl (by rw[noRefs,QcK,noRefs,Qaa];rfl) rfl ?_;have u:=Qa7 l;have r:=QdH l;unfold TP.s99;refine ZcG ?_;refine Qat 100 (fun i:Nat=>[(1,sliN t),(8,auts l),(9,.int .i64 l.length),(10,.int .i64 i)]) (fun _=>[]) (fun i=>i<=l.length/\mkdT l t=mkdT (l.drop i) (t.drop i)) (fun i=>l.length-i) 0 0 140 (fun _:Unit=>[]) (fun _=>[]) (fun _=>mkdT l t=true) ⟨[],rfl,au0,au23,au22⟩ ⟨Zaj _,rfl⟩ ?_ ?_
 ·rintro i⟨hi,hm⟩;by_cases b:i<l.length
  ·obtain⟨x,n⟩:=Qaq b;obtain⟨y,o⟩:=Qaq (l:=t) (i:=i) (by omega);have d:=h x (Zae n);have g:=QdQ n;have k:4<=((l.flatMap auC).drop (i*4)).length:=by rw[g];simp
   have f:i<t.length:=by omega
   have c:mkdT (l.drop i) (t.drop i)=(x.ms.contains y&&mkdT (l.drop (i+1)) (t.drop (i+1))):=by obtain⟨h1,q⟩:=Zam.1 n;obtain⟨s,p⟩:=Zam.1 o;rw[List.drop_eq_getElem_cons h1,List.drop_eq_getElem_cons s,q,p];rfl
   have hc:=has189 x.ms y d.wf.ms (by have:=QaT x.n x.ms d.wf.nd d.wf.msn;have:=d.n10;omega);cases m:x.ms.contains y;·rw[m]at hc c;refine ZcH (ZcL b f g k (QaF o)) ?_;refine cp hc ?_;refine ZcG ?_;refine⟨.inr trivial,_,rfl,?_⟩;rw[hm,c];exact Zb9 rfl
   rw[m,Zah]at c;rw[m]at hc;refine ZcH (ZcL b f g k (QaF o)) ?_;refine cp hc ?_;refine ZcG ?_;exact⟨i+1,by omega,⟨by omega,by rw[hm,c]⟩,⟨[],rfl,au0,au23,au22⟩⟩
  have e:i=l.length:=by omega
  subst e;refine ZcH b ?_;refine⟨(),by rw[hm,List.drop_eq_nil_of_le (ZaJ _)];rfl,?_⟩;exact⟨[],rfl,au0,au23,au22⟩
 rintro _ hm;refine ZcG ?_;refine⟨.inr trivial,_,rfl,?_⟩;rw[hm];exact Zb9 rfl
def stV:Option (List Nat)->AV|some n=>.tup [sliN n,.bool true]|none=>.tup [.nilsl,.bool false]
theorem Qp6(o:Option (List Nat)):noRef (stV o)=true:=by cases o with|none=>rfl|some n=>rw[stV,noRef,noRefs,Qaa];rfl
theorem Ql3{l:List Aut}{t:List Nat}{e:Nat}{k:Nat}(h:stp l t e k=none):∀m,stp l t e (k+m)=none|0=>h|m+1=>by have:=Ql3 h m;show stp l t e (k+m+1)=none;unfold stp;rw[this]
theorem QtC{l:List Nat}{i x:Nat}:(ints (nz l)).set i (.int .i64 (x:Int))=ints (nz (l.set i x)):=by simp[ints,nz,List.map_set]
theorem Qsd{l:List Aut}{i:Nat}{x:Aut}(h:l[i]?=some x):((l.map emV).drop i).head?=some (emV x):=by rw[ZbT,ZaG,h];rfl
theorem step100(l:List Aut)(t:List Nat)(e:Nat)(h:∀a∈l,WfJ a)(h0:0<l.length)(hl:l.length<=12)(ht:t.length=l.length):PSpec Tryz.prog 100 [macV l,sliN t,.int .i64 (e:Int)] (stV (stepT l t e)):=by
 refine Zcb 64 TP.ok100 rfl (by rw[noRefs,QcK,noRefs,Qaa];rfl) (Qp6 _) ?_;have hno:=Qa7 l;have hnm:=QdH l;have hml:(l.map emV).length=l.length:=Zaz ..;have hcl:=clone56 t (by omega);unfold TP.s100;refine ZcG ?_;refine ch (HSpec.of_O (b:=83) (by rw[noRefs,Qaa];rfl) hcl (by repeat(first|exact Fresh.e|exact Fresh.le (by assumption) (by omega)|refine Fresh.set ?_ (by omega) (by omega))) rfl) ?_;refine ZcG ?_;refine Qat 120 (fun s:Nat×List Nat=>[(1,sliN t),(2,.int .i64 (e:Int)),(3,.ptr 51 0 0),(8,.sl 60 0 0 t.length 1),(16,auts l),(17,.int .i64 l.length),(18,.int .i64 s.1)]) (fun s=>[(51,.cells 0 [auts l,sliN (evA l),.fsl (l.map emV) l.length 1]),(60,.cells 0 (ints (nz s.2)))]) (fun s=>s.1<=l.length/\s.2.length=t.length/\stp l t e s.1=some s.2) (fun s=>l.length-s.1) (0,t) 0 200 (fun n:List Nat=>[(8,.sl 60 0 0 t.length 1)]) (fun n=>[(60,.cells 0 (ints (nz n)))]) (fun n=>n.length=t.length/\stepT l t e=some n) ?_ ⟨Zaj _,rfl,rfl⟩ ?_ ?_;·refine⟨[(51,.blk 64 0),(60,.blk 83 0)],rfl,au0,?_,au22⟩;exact Zcj rfl rfl gg (Zca hnm) (Zcj rfl rfl gg (Zca (Qab _)) Zci)
 ·rintro⟨i,n⟩⟨hi,hn,hs⟩;dsimp only at hi hn hs⊢;by_cases hlt:i<l.length
  ·obtain⟨x,hx⟩:=Qaq hlt;obtain⟨y,hy⟩:=Qaq (l:=t) (i:=i) (by omega);have hyd:t.getD i 0=y:=by rw[Zak,hy];rfl
   have hwi:=h x (Zae hx);have hdr:=QdQ hx;have hdl:4<=((l.flatMap auC).drop (i*4)).length:=by rw[hdr];simp
   have hlt2:i<t.length:=by omega
   have hin:i+1<=n.length:=by omega
   have hc:=has189 x.al e hwi.wf.al (by have:=Qge hwi.wf;omega);have hstep:stp l t e (i+1)=if e∈x.al then(match stepA x.es y e with|some to=>some (n.set i to)|none=>none)else some n:=by unfold stp;rw[hs,hx,hyd];rfl
   by_cases hq:e∈x.al
   ·rw[List.contains_iff_mem.2 hq]at hc;rw[if_pos hq]at hstep
    refine ZcH (ZcK hlt hlt2 hdr hdl) ?_;refine cp hc ?_;refine ZcH (ZcL hlt hlt2 (Qsd hx) (QaF hy) hml) ?_;cases hst:stepA x.es y e with|none=>
     rw[hst]at hstep;have hk:(y,e)∉x.es.map pE:=fun hm=>by obtain⟨d,hd,e2⟩:=Zao.1 hm;have h3:=QhG hwi.wf.es hd;unfold pE at e2;simp only[Zag]at e2;rw[e2.1,e2.2,hst]at h3;cases h3
     have hfin:stepT l t e=none:=by have:=Ql3 hstep (l.length-(i+1));rwa[show i+1+(l.length-(i+1))=l.length by omega]at this
     refine Qkw (c:=kP) (f:=vE x.es) (x:=(y,e)) (l:=x.es.map pE) QlZ hk ?_;refine ZcG ?_;refine⟨.inr trivial,_,rfl,?_⟩;rw[hfin];exact Zb9 rfl|some to=>
     rw[hst]at hstep;have hv:vE x.es (y,e)=.int .i64 (to:Int):=by unfold vE;rw[hst];rfl
     refine Qgh (c:=kP) (f:=vE x.es) (x:=(y,e)) (l:=x.es.map pE) QlZ (Qeq hst) ?_;rw[hv];refine ZcF (ZcM hlt2 hin @QtC @Qac @Qad @Qae) ?_;refine⟨(i+1,n.set i to),by dsimp only;omega,⟨by dsimp only;omega,by rw[List.length_set];exact hn,hstep⟩,?_⟩;refine⟨[(51,.blk 51 0),(60,.blk 60 0)],rfl,au0,?_,au22⟩;exact Zcj rfl rfl gg (Zca hnm) (Zcj rfl rfl gg (Zca (Qab _)) Zci)
   ·rw[show x.al.contains e=false by rw[ZaB];exact fun hh=>hq (List.contains_iff_mem.1 hh)]at hc;rw[if_neg hq]at hstep;refine ZcH (ZcK hlt hlt2 hdr hdl) ?_;refine cp hc ?_;refine ZcG ?_;refine⟨(i+1,n),by dsimp only;omega,⟨by dsimp only;omega,hn,hstep⟩,?_⟩;refine⟨[(51,.blk 51 0),(60,.blk 60 0)],rfl,au0,?_,au22⟩;exact Zcj rfl rfl gg (Zca hnm) (Zcj rfl rfl gg (Zca (Qab _)) Zci)
  ·have e2:i=l.length:=by omega
   subst e2;refine ZcH hlt ?_;refine⟨n,⟨hn,hs⟩,?_⟩;refine⟨[(60,.blk 60 0)],rfl,au0,?_,au22⟩;exact Zcj rfl rfl gg (Zca (Qab _)) Zci
 rintro n⟨hn,hs⟩;refine ZcG ?_;refine⟨.inr trivial,_,rfl,?_⟩;rw[hs];refine Rn.tup (Zcp ?_ (Zca rfl));rw[<-hn];exact Rn.fz0 gg (by simp[ints]) (Zca (Qab _))
end Go.AM.SO
namespace Go.AM.TK
open Go.Proofs
set_option maxHeartbeats 4000000
noncomputable section
def cf:YA.Cf:={}
noncomputable def ft:FT2:=YA.tre Tryz.prog cf 20 [72,98,154,155,156,188,200,201,232,263]
theorem ft_ok:ft.OK Tryz.prog:=YA.QfT _ _ (YA.Qe0 (by kernel_rfl))
end
end Go.AM.TK
namespace Go.AM.SO
open Go.Proofs Go.AM.SD
noncomputable section
def keyT(t:List Nat):List UInt8:=t.flatMap fun x=>[UInt8.ofNat (48+x),32]
def keyB(k:Nat)(t:List Nat):Bool:=callR ansB noOrc TK.ft.get (exR ansB noOrc TK.ft.get 1000) (.c .pure) k [sliN t] .e 64 (fun u _ _=>eqAV (.str (keyT t)) u)
theorem Qiw{k:Nat}{t:List Nat}(h:keyB k t=true):PSpec Tryz.prog k [sliN t] (.str (keyT t)):=QbJ (t:=TK.ft) TK.ft_ok Qc7 (d:=1000) (eqAV _) (fun u h=>(Qc5 _ _ h).symm) h
def allK(k n:Nat):List Nat->Bool:=@Nat.rec (fun _=>List Nat->Bool) (fun t=>keyB k t) (fun _ a t=>ifB (a (t++[0])) (ifB (a (t++[1])) (a (t++[2])) false) false) n
theorem QeP{k:Nat}:∀{t u:List Nat},allK k t.length u=true->(∀x∈t,x<3)->keyB k (u++t)=true
 |[],u,h,_=>by rw[Zap];exact h|x::t,u,h,a=>by
  have e:allK k (x::t).length u=ifB (allK k t.length (u++[0])) (ifB (allK k t.length (u++[1])) (allK k t.length (u++[2])) false) false:=rfl;rw[e]at h;simp only[QaD]at h;have d:=a x (by simp);have b:allK k t.length (u++[x])=true:=by grind
  have:=QeP b fun y c=>a y (by simp[c]);simp_all
theorem Qse:allK 98 1 []=true:=by kernel_rfl
theorem Qsf:allK 98 2 []=true:=by kernel_rfl
theorem Qsg:allK 98 3 []=true:=by kernel_rfl
theorem key98{t:List Nat}(c:0<t.length)(b:t.length<=3)(a:∀x∈t,x<3):PSpec Tryz.prog 98 [sliN t] (.str (keyT t)):=by refine Qiw (QeP (u:=[]) ?_ a);grind[Qse,Qsf,Qsg]
theorem Ql4:∀{s t:List Nat},s.length=t.length->(∀x∈s,x<10)->(∀x∈t,x<10)->keyT s=keyT t->s=t
 |[],[],_,_,_,_=>rfl|x::s,y::t,d,b,c,h=>by
  have g:keyT (x::s)=UInt8.ofNat (48+x)::32::keyT s:=rfl;have f:keyT (y::t)=UInt8.ofNat (48+y)::32::keyT t:=rfl;rw[g,f]at h;simp only[List.cons.injEq,true_and]at h;have k:=b x (by simp);have i:=c y (by simp);have h1:x=y:=by have:=congrArg UInt8.toNat h.1;grind[UInt8.toNat_ofNat']
  subst h1;rw[Ql4 (by simpa using d) (fun z a=>b z (by simp[a])) (fun z a=>c z (by simp[a])) h.2]
end
end Go.AM.SO
namespace Go.AM.SO
open Go.Proofs Go.AM.SD Go.AM.SE
abbrev ixT(T:List (List Nat))(n:List Nat):Nat:=T.findIdx (·==n)
theorem Qgw{A B:List (List Nat)}{n:List Nat}(h:A<+:B)(a:n∈A):ixT A n=ixT B n:=by obtain⟨C,rfl⟩:=h;grind
theorem Qi0{A:List (List Nat)}{n:List Nat}(a:n∉A):ixT A n=A.length:=by grind
theorem Qsh{A:List (List Nat)}{n:List Nat}(a:n∉A):ixT A n=ixT (A++[n]) n:=by grind
theorem QnF{A:List (List Nat)}{n:List Nat}(a:n∈A):A[ixT A n]?=some n:=by grind
theorem Qix{A:List (List Nat)}{n:List Nat}(a:n∈A):ixT A n<A.length:=Zbk ⟨n,a,by simp⟩
theorem Qp7{A:List (List Nat)}{n:List Nat}{i:Nat}(a:A.Nodup)(h:A[i]?=some n):ixT A n=i:=by grind[QnF,List.getElem?_inj]
def rowE(l:List Aut)(ev:List Nat)(T:List (List Nat))(j:Nat)(t:List Nat):List Ed:=ev.filterMap fun e=>(stepT l t e).map fun n=>(j,e,ixT T n)
theorem Qom{l:List Aut}{ev:List Nat}{A B:List (List Nat)}{j:Nat}{t:List Nat}(h:A<+:B)(hc:∀e∈ev,∀n,stepT l t e=some n->n∈A):rowE l ev A j t=rowE l ev B j t:=by unfold rowE;refine a fun e he=>?_;cases b:stepT l t e with|none=>rfl|some n=>simp only[Zbr,Qgw h (hc e he n b)]where a{α β:Type}{f g:α->Option β}:∀{l:List α},(∀x∈l,f x=g x)->l.filterMap f=l.filterMap g|[],_=>rfl|x::l,h=>by rw[Zbz,Zbz,h x (by simp),a (l:=l) fun y c=>h y (by simp[c])]
theorem Qkd{l:List Aut}{i:Nat}{t:List Nat}:∀{ev:List Nat}{s:List (List Nat)×List Ed},(pRow l ev i t s).2=s.2++rowE l ev (pRow l ev i t s).1 i t/\∀e∈ev,∀n,stepT l t e=some n->n∈(pRow l ev i t s).1|[],s=>by simp_all[pRow,rowE]|e::ev,s=>by have h:=Qkd (l:=l) (i:=i) (t:=t) (ev:=ev) (s:=pEv l i t s e);have hp:=Qcl (l:=l) (i:=i) (t:=t) (ev:=ev) (s:=pEv l i t s e);have h1:pRow l (e::ev) i t s=pRow l ev i t (pEv l i t s e):=rfl;rw[h1];obtain⟨d,i2⟩:=h;cases p:stepT l t e with
 |none=>
  have b:pEv l i t s e=s:=by grind[pEv]
  rw[b]at d i2 hp⊢;refine⟨?_,fun g c n k=>?_⟩;·simp_all[rowE]
  grind|some n=>
  have b:pEv l i t s e=(if n∈s.1 then s.1 else s.1++[n],s.2++[(i,e,ixT s.1 n)]):=by grind[pEv]
  rw[b]at d i2 hp⊢;have a:n∈(if n∈s.1 then s.1 else s.1++[n]):=by grind
  have m:ixT s.1 n=ixT (if n∈s.1 then s.1 else s.1++[n]) n:=by grind
  have f:=Qgw hp a;refine⟨?_,fun g c o k=>?_⟩;·generalize pRow l ev i t (if n∈s.1 then s.1 else s.1++[n],s.2++[(i,e,ixT s.1 n)])=R at*;simp_all[rowE]
  grind
structure PE(l:List Aut)(ev:List Nat)(i:Nat)(s:List (List Nat)×List Ed):Prop where
 ed:s.2=(List.range i).flatMap fun j=>rowE l ev s.1 j (s.1.getD j [])cl:∀j t,j<i->s.1[j]?=some t->∀e∈ev,∀n,stepT l t e=some n->n∈s.1
 le:i<=s.1.length
theorem QhH{A B:List (List Nat)}(h:A<+:B){j:Nat}(a:j<A.length):B.getD j []=A.getD j []:=by obtain⟨C,rfl⟩:=h;grind
theorem Qgx{A B:List (List Nat)}(h:A<+:B){j:Nat}(a:j<A.length):B[j]?=A[j]?:=by obtain⟨C,rfl⟩:=h;grind
theorem flatMap_congr'{α β:Type}{f g:α->List β}:∀{l:List α},(∀x∈l,f x=g x)->l.flatMap f=l.flatMap g|[],_=>rfl|x::l,h=>by rw[Zax,Zax,h x (by simp),flatMap_congr' (l:=l) fun y a=>h y (by simp[a])]
theorem PE.row{l:List Aut}{ev:List Nat}{i:Nat}{s:List (List Nat)×List Ed}{t:List Nat}(h:PE l ev i s)(f:s.1[i]?=some t):PE l ev (i+1) (pRow l ev i t s):=by
 have hp:=Qcl (l:=l) (i:=i) (t:=t) (ev:=ev) (s:=s);obtain⟨h1,g⟩:=Qkd (l:=l) (i:=i) (t:=t) (ev:=ev) (s:=s);have hi:i<s.1.length:=by grind
 refine⟨?_,fun j u a hu e he n b=>?_,Zay hi hp.length_le⟩
 ·rw[h1,ZaI,Zaq,Zax,ZbZ,Zap];have d:(pRow l ev i t s).1.getD i []=t:=by rw[QhH hp hi,Zak,f];rfl
  rw[d];congr 1;rw[h.ed];refine flatMap_congr' fun j a=>?_;have c:=Zat.1 a;obtain⟨u,hu⟩:=Qaq (l:=s.1) (i:=j) (by omega);rw[QhH hp (by omega)];refine Qom hp fun e he n b=>?_;rw[Zak,hu]at b;exact h.cl j u c hu e he n b
 rcases Nat.lt_succ_iff_lt_or_eq.1 a with a|rfl;·rw[Qgx hp (by omega)]at hu;exact hp.subset (h.cl j u a hu e he n b)
 grind[Qgx]
theorem QnG{l:List Aut}{ev:List Nat}(hw:∀a∈l,∀e∈a.es,e.1<a.n/\e.2.2<a.n):∀{k i:Nat}{s:List (List Nat)×List Ed},PI l s->box l<k+i->PE l ev i s->PE l ev (pQ l ev k i s).1.length (pQ l ev k i s)|0,i,s,h,hk,he=>by have h1:=QcW h.nd h.inT;have c:=he.le;omega|k+1,i,s,h,hk,he=>by unfold pQ;cases b:s.1[i]? with
 |none=>
  have c:=he.le;have:i=s.1.length:=by grind
  rwa[this]at he|some t=>exact QnG hw (QdP hw (h.inT t (Zae b)) h) (by omega) (he.row b)
theorem Qke{l:List Aut}(c:∀a∈l,0<a.n)(hw:∀a∈l,∀e∈a.es,e.1<a.n/\e.2.2<a.n):PE l (evA l) (sync0 l).1.length (sync0 l):=QnG hw (Qfp c) (by omega) ⟨rfl,fun j t b=>absurd b (ZaF _),Zaj _⟩
theorem sync_pre{l:List Aut}:[List.replicate l.length 0]<+:(sync0 l).1:=Qis (s:=([List.replicate l.length 0],[]))
end Go.AM.SO
namespace Go.AM.SO
open Go.Proofs Go.AM.SD Go.AM.SE
def keyC(t:List Nat):AV:=.str (keyT t)
def ixV(T:List (List Nat))(t:List Nat):AV:=.int .i64 ((ixT T t:Nat):Int)
abbrev tuV(T:List (List Nat)):AV:=.fsl (T.map sliN) T.length 1
theorem Qb2(T:List (List Nat)):noRef (tuV T)=true:=by rw[tuV,noRef];exact Qav Qaa _
theorem InT.ltJ{l:List Aut}(h:∀a∈l,WfJ a){t:List Nat}(d:InT l t){x:Nat}(f:x∈t):x<10:=by obtain⟨i,hi,b⟩:=QcS f;obtain⟨a,c⟩:=Qaq (l:=l) (i:=i) (by rw[<-d.1];exact b);have h1:=d.2 i a c;rw[Zak,hi]at h1;have g:=(h a (Zae c)).n10;simp only[Option.getD_some]at h1;omega
theorem InT.lt{l:List Aut}(h:∀a∈l,WfI a){t:List Nat}(d:InT l t){x:Nat}(f:x∈t):x<3:=by obtain⟨i,hi,b⟩:=QcS f;obtain⟨a,c⟩:=Qaq (l:=l) (i:=i) (by rw[<-d.1];exact b);have h1:=d.2 i a c;rw[Zak,hi]at h1;have g:=(h a (Zae c)).n3;simp only[Option.getD_some]at h1;omega
theorem Qgj{l:List Aut}(h:∀a∈l,WfJ a){x:List Nat}{T:List (List Nat)}(f:InT l x)(g:∀t∈T,InT l t):KeyG false [.s] keyC x T:=by
 have key:∀y,InT l y->keyEq false [.s] (keyC x) (keyC y)=some (decide (x=y)):=by
  intro y b;have e:keyEq false [.s] (keyC x) (keyC y)=some (decide (keyT x=keyT y)):=Qf8;rw[e];congr 1;refine decide_eq_decide.2 ⟨fun c=>Ql4 (by rw[f.1,b.1]) (fun z d=>?_) (fun z d=>?_) c,fun c=>by rw[c]⟩;·have:=f.ltJ h d;omega
  have:=b.ltJ h d;omega
 refine⟨?_,fun y b=>key y (g y b)⟩;unfold keyOK;rw[key x f]
theorem QnH{T:List (List Nat)}{n:List Nat}(b:n∉T):mapG keyC (updG (ixV T) n (.int .i64 ((T.length:Nat):Int))) (T++[n])=mapG keyC (ixV (T++[n])) (T++[n]):=by
 refine Qir fun x a=>?_;unfold updG;split;·rename_i e;subst e;unfold ixV;rw[<-Qsh b,Qi0 b]
 rename_i e;unfold ixV;rw[Qgw (List.prefix_append T [n]) (by
  rcases ZaE.1 a with a|a;·exact a
  simp at a;exact absurd a e)]
def marks(l:List Aut)(T:List (List Nat))(i:Nat):List Nat:=(List.range i).filter fun j=>mkdT l (T.getD j [])
theorem Qon{l:List Aut}{T:List (List Nat)}{i:Nat}{t:List Nat}(a:T[i]?=some t):marks l T (i+1)=if mkdT l t=true then marks l T i++[i]else marks l T i:=by
 have e:T.getD i []=t:=by rw[Zak,a];rfl
 unfold marks;rw[ZaI,Zbm];by_cases hm:mkdT l t=true;·rw[if_pos hm,List.filter_cons_of_pos (by rw[e];exact hm),List.filter_nil]
 rw[if_neg hm,List.filter_cons_of_neg (by rw[e];exact hm),List.filter_nil,Zap]
theorem Qkf{l:List Aut}{A B:List (List Nat)}(h:A<+:B){i:Nat}(hi:i<=A.length):marks l B i=marks l A i:=by unfold marks;refine Zbw fun j a=>?_;rw[QhH h (by have:=Zat.1 a;omega)]
theorem Qkg{l:List Aut}{T:List (List Nat)}{i:Nat}:(marks l T i).length<=i:=by have:=Za3 (fun j=>mkdT l (T.getD j [])) (List.range i);rwa[Zby]at this
theorem Qsi{l:List Aut}{i e:Nat}{t:List Nat}{s:List (List Nat)×List Ed}:(pEv l i t s e).2.length<=s.2.length+1:=by unfold pEv;cases stepT l t e with|none=>exact Nat.le_succ _|some n=>simp
theorem Qeg{l:List Aut}{i:Nat}{t:List Nat}:∀{ev:List Nat}{s:List (List Nat)×List Ed},(pRow l ev i t s).2.length<=s.2.length+ev.length|[],s=>ZaJ _|e::ev,s=>by have h1:=Qeg (l:=l) (i:=i) (t:=t) (ev:=ev) (s:=pEv l i t s e);have a:=@Qsi l i e t s;show(pRow l ev i t (pEv l i t s e)).2.length<=_;rw[ZaC];omega
theorem Qkh{l:List Aut}{ev:List Nat}{i j e:Nat}{t:List Nat}{s:List (List Nat)×List Ed}(h:ev[j]?=some e):pRow l (ev.take (j+1)) i t s=pEv l i t (pRow l (ev.take j) i t s) e:=by unfold pRow;rw[take_succ' h,Za5];rfl
theorem Qeh{T:List (List Nat)}{i:Nat}{t:List Nat}(h:T[i]?=some t):(T.map sliN)[i]?=some (sliN t):=by rw[ZaG,h];rfl
theorem Qsj{l:List Aut}{ev:List Nat}{k i:Nat}{s:List (List Nat)×List Ed}(h:s.1[i]?=none):pQ l ev k i s=s:=by cases k with|zero=>rfl|succ k=>unfold pQ;rw[h]
theorem Qfw{l:List Aut}{ev:List Nat}{i k:Nat}{t:List Nat}{s:List (List Nat)×List Ed}:(pRow l (ev.take k) i t s).1<+:(pRow l ev i t s).1:=by
 have e:pRow l ev i t s=pRow l (ev.drop k) i t (pRow l (ev.take k) i t s):=by unfold pRow;rw[<-Za5,List.take_append_drop]
 rw[e];exact Qcl
def synV(l:List Aut):AV:=if(sync0 l).1.length<=4096 then .tup [aV (syncA l),tuV (sync0 l).1,.int .i64 0]else .tup [.agg [.nilsl,.int .i64 0,.nilsl,.nilsl],.nilsl,.int .i64 3]
theorem sync28J(l:List Aut)(h:∀a∈l,WfJ a)(h0:0<l.length)(hl:l.length<=12)(F:∀t,InT l t->PSpec Tryz.prog 98 [sliN t] (.str (keyT t))):PSpec Tryz.prog 28 [auts l] (synV l):=by
 have hno:=Qa7 l;have c:=QdH l;have Q:noRef (.tup [aV (syncA l),tuV (sync0 l).1,.int .i64 0])=true:=by rw[noRef,noRefs,noRefs,Qb2,noRef,noRefs,noRefs,noRefs,noRefs,Qaa,Qaa,Qaj];rfl
 have hnr:noRef (synV l)=true:=by
  unfold synV;split;·exact Q
  rfl
 have T:(sync0 l).1.length<=4096->synV l=.tup [aV (syncA l),tuV (sync0 l).1,.int .i64 0]:=fun h=>if_pos h;have I:¬(sync0 l).1.length<=4096->synV l=.tup [.agg [.nilsl,.int .i64 0,.nilsl,.nilsl],.nilsl,.int .i64 3]:=fun h=>if_neg h;generalize synV l=V at*;refine Zcb 64 TP.ok28 rfl (by rw[noRefs,hno];rfl) hnr ?_;have hw:∀a∈l,∀e∈a.es,e.1<a.n/\e.2.2<a.n:=fun a ha=>(h a ha).wf.esn;have hpos:∀a∈l,0<a.n:=fun a ha=>(h a ha).pos;have hc:=check95 l h (by omega);have ho:=open96 l h (by omega);have hi:=initial97 l h h0 (by omega);have R:=Qfp (l:=l) hpos;have P:InT l (List.replicate l.length 0):=R.inT _ (by simp);have hk0:=F _ P;have hev5:=QnE h;have hml:(l.map emV).length=l.length:=Zaz ..;unfold TP.s28;refine ZcG ?_;refine cp hc ?_;refine ZcG ?_;refine cp ho ?_;refine ZcG ?_;refine cp hi ?_;refine ZcG ?_;refine cp hk0 ?_;refine ZcG ?_;refine Qck (c:=keyC) (f:=fun _=>.nilsl) (x:=List.replicate l.length 0) (l:=[]) (g:=0) gg (Qgj h P fun t N=>by cases N) (by simp) (by omega) ?_;have hm0:mapG keyC (updG (fun _=>.nilsl) (List.replicate l.length 0) (.int .i64 0)) ([]++[List.replicate l.length 0])=mapG keyC (ixV [List.replicate l.length 0]) [List.replicate l.length 0]:=by
  refine Qir fun x hx=>?_;have hx:x=List.replicate l.length 0:=by simpa using hx
  subst hx;unfold updG ixV;rw[if_pos rfl];simp[ixT]
 rw[hm0];refine ZcG ?_;refine Qat 320 (fun q:Nat×(List (List Nat)×List Ed)=>[(2,.ptr 51 0 0),(6,.ptr 52 0 0),(3,.sl 60 0 0 q.2.1.length 1),(9,.map 53 0),(10,.int .i64 (q.1))]) (fun q=>[(51,.cells 0 [sliN (evA l),.int .i64 0,.sl 70 0 0 (marks l q.2.1 q.1).length 1,.sl 71 0 0 q.2.2.length 3]),(52,.cells 0 [auts l,sliN (evA l),.fsl (l.map emV) l.length 1]),(53,.map 0 (mapG keyC (ixV q.2.1) q.2.1)),(60,.cells 0 (q.2.1.map sliN)),(70,.cells 0 (ints (nz (marks l q.2.1 q.1)))),(71,.cells 0 (q.2.2.flatMap edC))]) (fun q=>q.1<=q.2.1.length/\PI l q.2/\q.2.2.length<=q.1*32/\q.2.1.length<=4096/\pQ l (evA l) (box l+1-q.1) q.1 q.2=sync0 l) (fun q=>box l+1-q.1) (0,([List.replicate l.length 0],[])) 0 900 (fun _:Unit=>[(2,.ptr 51 0 0),(3,tuV (sync0 l).1)]) (fun _=>[(51,.cells 0 [sliN (evA l),.int .i64 0,sliN (marks l (sync0 l).1 (sync0 l).1.length),egsN (sync0 l).2])]) (fun _=>(sync0 l).1.length<=4096) ?_ ⟨Zaj _,R,Zaj _,by show[List.replicate l.length 0].length<=4096;simp,rfl⟩ ?_ ?_;·refine⟨[(51,.blk 64 0),(52,.blk 74 0),(53,.blk 92 0),(60,.blk 90 0),(70,.nil),(71,.nil)],rfl,au0,?_,au22⟩;exact Zcj rfl rfl gg (Zcp (Zb9 (Qaa _)) (Zcp (Zb9 rfl) (Zcp (Rn.x4 rfl rfl) (Zcp (Rn.x4 rfl rfl) Zco)))) (Zcj rfl rfl gg (Zca c) (Zcl rfl rfl gg (Zcx fun _ _=>⟨rfl,rfl⟩) (Zcj rfl rfl gg (RnL.eq (by simp) (Qav Qaa _)) (Zck rfl rfl (Zck rfl rfl Zci)))))
 ·rintro⟨i,s⟩⟨hi,hp,hel,M,hq⟩;dsimp only at hi hp hel M hq⊢;have hsb:=QcW hp.nd hp.inT;have hsml:(s.1.map sliN).length=s.1.length:=Zaz ..;by_cases d:i<s.1.length
  ·obtain⟨t,N⟩:=Qaq d;have v:=hp.inT t (Zae N);have L:=marked99 l t h (by omega) v.1;have y:=Qon (l:=l) N;have hml5:=@Qkg l s.1 i;have K:=Qcl (l:=l) (i:=i) (t:=t) (ev:=evA l) (s:=s);have hpo:=QdP (i:=i) (ev:=evA l) hw v hp;have hpn:=Qeg (l:=l) (i:=i) (t:=t) (ev:=evA l) (s:=s);have O:pQ l (evA l) (box l+1-(i+1)) (i+1) (pRow l (evA l) i t s)=sync0 l:=by rw[<-hq,show box l+1-i=(box l+1-(i+1))+1 by omega];simp only[pQ,N]
   cases hmb:mkdT l t
   ·rw[hmb]at L y;rw[if_neg (by simp)]at y;refine ZcH (ZcI d (Qeh N)) ?_;refine cp L ?_;refine ZcG ?_;have Z:marks l s.1 (i+1)=marks l s.1 i:=y;refine Qat 420 (fun j:Nat=>[(2,.ptr 51 0 0),(6,.ptr 52 0 0),(3,.sl 60 0 0 (pRow l ((evA l).take j) i t s).1.length 1),(9,.map 53 0),(10,.int .i64 (i)),(61,sliN (evA l)),(62,.int .i64 (evA l).length),(63,.int .i64 j)]) (fun j=>[(51,.cells 0 [sliN (evA l),.int .i64 0,.sl 70 0 0 (marks l s.1 (i+1)).length 1,.sl 71 0 0 (pRow l ((evA l).take j) i t s).2.length 3]),(52,.cells 0 [auts l,sliN (evA l),.fsl (l.map emV) l.length 1]),(53,.map 0 (mapG keyC (ixV (pRow l ((evA l).take j) i t s).1) (pRow l ((evA l).take j) i t s).1)),(60,.cells 0 ((pRow l ((evA l).take j) i t s).1.map sliN)),(70,.cells 0 (ints (nz (marks l s.1 (i+1))))),(71,.cells 0 ((pRow l ((evA l).take j) i t s).2.flatMap edC))]) (fun j=>j<=(evA l).length/\(pRow l ((evA l).take j) i t s).1.length<=4096) (fun j=>(evA l).length-j) 0 2 700 (fun _:Unit=>[(2,.ptr 51 0 0),(6,.ptr 52 0 0),(3,.sl 60 0 0 (pRow l (evA l) i t s).1.length 1),(9,.map 53 0),(10,.int .i64 (i))]) (fun _=>[(51,.cells 0 [sliN (evA l),.int .i64 0,.sl 70 0 0 (marks l s.1 (i+1)).length 1,.sl 71 0 0 (pRow l (evA l) i t s).2.length 3]),(52,.cells 0 [auts l,sliN (evA l),.fsl (l.map emV) l.length 1]),(53,.map 0 (mapG keyC (ixV (pRow l (evA l) i t s).1) (pRow l (evA l) i t s).1)),(60,.cells 0 ((pRow l (evA l) i t s).1.map sliN)),(70,.cells 0 (ints (nz (marks l s.1 (i+1))))),(71,.cells 0 ((pRow l (evA l) i t s).2.flatMap edC))]) (fun _=>(pRow l (evA l) i t s).1.length<=4096) ?_ ⟨Zaj _,M⟩ ?_ ?_;·show Rec _ _ [(51,.cells 0 [sliN (evA l),.int .i64 0,.sl 70 0 0 (marks l s.1 (i+1)).length 1,.sl 71 0 0 s.2.length 3]),(52,.cells 0 [auts l,sliN (evA l),.fsl (l.map emV) l.length 1]),(53,.map 0 (mapG keyC (ixV s.1) s.1)),(60,.cells 0 (s.1.map sliN)),(70,.cells 0 (ints (nz (marks l s.1 (i+1))))),(71,.cells 0 (s.2.flatMap edC))] _ _;rw[Z];refine⟨[(51,.blk 51 0),(52,.blk 52 0),(53,.blk 53 0),(60,.blk 60 0),(70,.blk 70 0),(71,.blk 71 0)],rfl,au0,?_,au22⟩;exact Zcj rfl rfl gg (Zcp (Zb9 (Qaa _)) (Zcp (Zb9 rfl) (Zcp (Rn.x1 rfl rfl) (Zcp (Rn.x1 rfl rfl) Zco)))) (Zcj rfl rfl gg (Zca c) (Zcl rfl rfl gg (Zcx fun _ _=>⟨rfl,rfl⟩) (Zcj rfl rfl gg (Zca (Qav Qaa _)) (Zcj rfl rfl gg (Zca (Qab _)) (Zcj rfl rfl gg (Zca (Qaf _)) Zci)))))
    ·rintro j⟨hj,o⟩;by_cases m:j<(evA l).length
     ·obtain⟨e,he⟩:=Qaq m;have w:=QdP (i:=i) (ev:=(evA l).take j) hw v hp;have C:=Qcl (l:=l) (i:=i) (t:=t) (ev:=(evA l).take j) (s:=s);have X:=Qeg (l:=l) (i:=i) (t:=t) (ev:=(evA l).take j) (s:=s);have U:=Qfw (l:=l) (ev:=evA l) (i:=i) (k:=j+1) (t:=t) (s:=s);have b:=Qkh (l:=l) (i:=i) (t:=t) (s:=s) he;rw[Zas]at X;generalize pRow l ((evA l).take j) i t s=u at*;have H:i<u.1.length:=ZaV d C.length_le;have B:u.1[i]?=some t:=by rw[Qgx C d];exact N
      have hub:=QcW w.nd w.inT;have E:(u.1.map sliN).length=u.1.length:=Zaz ..;have r:(u.2.flatMap edC).length=u.2.length*3:=Qbb (k:=3) (fun _=>rfl) u.2;have p:=step100 l t e h h0 (by omega) v.1;cases z:stepT l t e with|none=>
       rw[z]at p;have g:pEv l i t u e=u:=by unfold pEv;rw[z]
       rw[g]at b;refine ZcH (ZcK m H (QaF he) (Qeh B)) ?_;refine cp p ?_;simp(disch:=first|omega|exact PairsOK.mk rfl|(simp only[lenW]<;>omega))only[stV,Qac,Qad,Qae,wW,wV,simprocAttr];refine⟨j+1,by omega,⟨by omega,by rw[b];exact o⟩,?_⟩;rw[b];refine⟨[(51,.blk 51 0),(52,.blk 52 0),(53,.blk 53 0),(60,.blk 60 0),(70,.blk 70 0),(71,.blk 71 0)],rfl,au0,?_,au22⟩;exact Zcj rfl rfl gg (Zcp (Zb9 (Qaa _)) (Zcp (Zb9 rfl) (Zcp (Rn.x1 rfl rfl) (Zcp (Rn.x1 rfl rfl) Zco)))) (Zcj rfl rfl gg (Zca c) (Zcl rfl rfl gg (Zcx fun _ _=>⟨rfl,rfl⟩) (Zcj rfl rfl gg (Zca (Qav Qaa _)) (Zcj rfl rfl gg (Zca (Qab _)) (Zcj rfl rfl gg (Zca (Qaf _)) Zci)))))|some n=>
       rw[z]at p;have G:=Qfo hw v z;have J:=F n G;have k:=Qgj h G w.inT;refine ZcH (ZcK m H (QaF he) (Qeh B)) ?_;refine cp p ?_;simp(disch:=first|omega|exact PairsOK.mk rfl|(simp only[lenW]<;>omega))only[stV,Qac,Qad,Qae,wW,wV,simprocAttr];refine cp J ?_;refine ZcG ?_;by_cases hm:n∈u.1
       ·have g:pEv l i t u e=(u.1,u.2++[(i,e,ixT u.1 n)]):=by unfold pEv;rw[z];simp only[if_pos hm]
        rw[g]at b;refine Qg9 (c:=keyC) (f:=ixV u.1) (x:=n) (l:=u.1) (g:=0) gg k hm ?_;simp(disch:=first|omega|exact PairsOK.mk rfl|(simp only[lenW]<;>omega))only[ixV,r,Qac,Qad,Qae,wW,wV,simprocAttr];refine⟨j+1,by omega,⟨by omega,by rw[b];exact o⟩,?_⟩;rw[b,Zaf,Zaq];refine⟨[(51,.blk 51 0),(52,.blk 52 0),(53,.blk 53 0),(60,.blk 60 0),(70,.blk 70 0),(71,.blk 71 1)],rfl,au0,?_,au22⟩;exact Zcj rfl rfl gg (Zcp (Zb9 (Qaa _)) (Zcp (Zb9 rfl) (Zcp (Rn.x1 rfl rfl) (Zcp (Rn.x1 rfl rfl) Zco)))) (Zcj rfl rfl gg (Zca c) (Zcl rfl rfl gg (Zcx fun _ _=>⟨rfl,rfl⟩) (Zcj rfl rfl gg (Zca (Qav Qaa _)) (Zcj rfl rfl gg (Zca (Qab _)) (Zcj rfl rfl gg (Zca (SU.Qaw (Qaf _) rfl)) Zci)))))
       have g:pEv l i t u e=(u.1++[n],u.2++[(i,e,u.1.length)]):=by unfold pEv;rw[z];simp only[if_neg hm];rw[show u.1.findIdx (·==n)=u.1.length from Qi0 hm]
       rw[g]at b;have S:=QnH hm;by_cases h4:u.1.length=4096
       ·have f:((u.1.length:Nat):Int)=4096:=by omega
        have A:¬(sync0 l).1.length<=4096:=by have q1:=U.length_le;rw[b,Zaf,Zbs]at q1;have q2:=(Qis (l:=l) (ev:=evA l) (k:=box l+1-(i+1)) (i:=i+1) (s:=pRow l (evA l) i t s)).length_le;rw[O]at q2;omega
        rw[I A];refine QcV (c:=keyC) (f:=ixV u.1) (x:=n) (l:=u.1) (g:=0) gg k hm ?_;refine ZcH f ?_;exact⟨.inr trivial,_,rfl,Zb9 rfl⟩
       have f:¬((u.1.length:Nat):Int)=4096:=by omega
       refine QcV (c:=keyC) (f:=ixV u.1) (x:=n) (l:=u.1) (g:=0) gg k hm ?_;refine ZcH f ?_;refine cp J ?_;refine ZcG ?_;refine Qck (c:=keyC) (f:=ixV u.1) (x:=n) (l:=u.1) (g:=0) gg k hm (by omega) ?_;rw[S];refine ZcF (ZcM E r @Qaa @Qac @Qad @Qae) ?_;refine⟨j+1,by omega,⟨by omega,by rw[b,Zaf,Zbs];omega⟩,?_⟩;rw[b,Zaf,Zaf,Zaq,ZaN];refine⟨[(51,.blk 51 0),(52,.blk 52 0),(53,.blk 53 0),(60,.blk 60 1),(70,.blk 70 0),(71,.blk 71 1)],rfl,au0,?_,au22⟩;exact Zcj rfl rfl gg (Zcp (Zb9 (Qaa _)) (Zcp (Zb9 rfl) (Zcp (Rn.x1 rfl rfl) (Zcp (Rn.x1 rfl rfl) Zco)))) (Zcj rfl rfl gg (Zca c) (Zcl rfl rfl gg (Zcx fun _ _=>⟨rfl,rfl⟩) (Zcj rfl rfl gg (Zca (SU.Qaw (Qav Qaa _) (Qav Qaa [n]))) (Zcj rfl rfl gg (Zca (Qab _)) (Zcj rfl rfl gg (Zca (SU.Qaw (Qaf _) rfl)) Zci)))))
     have e2:j=(evA l).length:=by omega
     subst e2;rw[Zau]at o;refine ZcB m ?_;refine⟨(),o,?_⟩;refine⟨[(51,.blk 51 0),(52,.blk 52 0),(53,.blk 53 0),(60,.blk 60 0),(70,.blk 70 0),(71,.blk 71 0)],rfl,au0,?_,au22⟩;exact Zcj rfl rfl gg (Zcp (Zb9 (Qaa _)) (Zcp (Zb9 rfl) (Zcp (Rn.x1 rfl rfl) (Zcp (Rn.x1 rfl rfl) Zco)))) (Zcj rfl rfl gg (Zca c) (Zcl rfl rfl gg (Zcx fun _ _=>⟨rfl,rfl⟩) (Zcj rfl rfl gg (Zca (Qav Qaa _)) (Zcj rfl rfl gg (Zca (Qab _)) (Zcj rfl rfl gg (Zca (Qaf _)) Zci)))))
    rintro _ Y;refine ZcG ?_;refine⟨(i+1,pRow l (evA l) i t s),by dsimp only;omega,⟨Zay d K.length_le,hpo,by dsimp only;omega,Y,O⟩,?_⟩;dsimp only;rw[Qkf K d];refine⟨[(51,.blk 51 0),(52,.blk 52 0),(53,.blk 53 0),(60,.blk 60 0),(70,.blk 70 0),(71,.blk 71 0)],rfl,au0,?_,au22⟩;exact Zcj rfl rfl gg (Zcp (Zb9 (Qaa _)) (Zcp (Zb9 rfl) (Zcp (Rn.x1 rfl rfl) (Zcp (Rn.x1 rfl rfl) Zco)))) (Zcj rfl rfl gg (Zca c) (Zcl rfl rfl gg (Zcx fun _ _=>⟨rfl,rfl⟩) (Zcj rfl rfl gg (Zca (Qav Qaa _)) (Zcj rfl rfl gg (Zca (Qab _)) (Zcj rfl rfl gg (Zca (Qaf _)) Zci)))))
   rw[hmb]at L y;rw[if_pos rfl]at y;refine ZcH (ZcI d (Qeh N)) ?_;refine cp L ?_;refine ZcG ?_;have Z:marks l s.1 (i+1)=marks l s.1 i++[i]:=y;refine Qat 420 (fun j:Nat=>[(2,.ptr 51 0 0),(6,.ptr 52 0 0),(3,.sl 60 0 0 (pRow l ((evA l).take j) i t s).1.length 1),(9,.map 53 0),(10,.int .i64 (i)),(61,sliN (evA l)),(62,.int .i64 (evA l).length),(63,.int .i64 j)]) (fun j=>[(51,.cells 0 [sliN (evA l),.int .i64 0,.sl 70 0 0 (marks l s.1 (i+1)).length 1,.sl 71 0 0 (pRow l ((evA l).take j) i t s).2.length 3]),(52,.cells 0 [auts l,sliN (evA l),.fsl (l.map emV) l.length 1]),(53,.map 0 (mapG keyC (ixV (pRow l ((evA l).take j) i t s).1) (pRow l ((evA l).take j) i t s).1)),(60,.cells 0 ((pRow l ((evA l).take j) i t s).1.map sliN)),(70,.cells 0 (ints (nz (marks l s.1 (i+1))))),(71,.cells 0 ((pRow l ((evA l).take j) i t s).2.flatMap edC))]) (fun j=>j<=(evA l).length/\(pRow l ((evA l).take j) i t s).1.length<=4096) (fun j=>(evA l).length-j) 0 2 700 (fun _:Unit=>[(2,.ptr 51 0 0),(6,.ptr 52 0 0),(3,.sl 60 0 0 (pRow l (evA l) i t s).1.length 1),(9,.map 53 0),(10,.int .i64 (i))]) (fun _=>[(51,.cells 0 [sliN (evA l),.int .i64 0,.sl 70 0 0 (marks l s.1 (i+1)).length 1,.sl 71 0 0 (pRow l (evA l) i t s).2.length 3]),(52,.cells 0 [auts l,sliN (evA l),.fsl (l.map emV) l.length 1]),(53,.map 0 (mapG keyC (ixV (pRow l (evA l) i t s).1) (pRow l (evA l) i t s).1)),(60,.cells 0 ((pRow l (evA l) i t s).1.map sliN)),(70,.cells 0 (ints (nz (marks l s.1 (i+1))))),(71,.cells 0 ((pRow l (evA l) i t s).2.flatMap edC))]) (fun _=>(pRow l (evA l) i t s).1.length<=4096) ?_ ⟨Zaj _,M⟩ ?_ ?_;·show Rec _ _ [(51,.cells 0 [sliN (evA l),.int .i64 0,.sl 70 0 0 (marks l s.1 (i+1)).length 1,.sl 71 0 0 s.2.length 3]),(52,.cells 0 [auts l,sliN (evA l),.fsl (l.map emV) l.length 1]),(53,.map 0 (mapG keyC (ixV s.1) s.1)),(60,.cells 0 (s.1.map sliN)),(70,.cells 0 (ints (nz (marks l s.1 (i+1))))),(71,.cells 0 (s.2.flatMap edC))] _ _;rw[Z,Zaf,QaH,QaA];refine⟨[(51,.blk 51 0),(52,.blk 52 0),(53,.blk 53 0),(60,.blk 60 0),(70,.blk 70 1),(71,.blk 71 0)],rfl,au0,?_,au22⟩;exact Zcj rfl rfl gg (Zcp (Zb9 (Qaa _)) (Zcp (Zb9 rfl) (Zcp (Rn.x1 rfl rfl) (Zcp (Rn.x1 rfl rfl) Zco)))) (Zcj rfl rfl gg (Zca c) (Zcl rfl rfl gg (Zcx fun _ _=>⟨rfl,rfl⟩) (Zcj rfl rfl gg (Zca (Qav Qaa _)) (Zcj rfl rfl gg (Zca (SU.Qaw (Qab _) rfl)) (Zcj rfl rfl gg (Zca (Qaf _)) Zci)))))
   ·rintro j⟨hj,o⟩;by_cases m:j<(evA l).length
    ·obtain⟨e,he⟩:=Qaq m;have w:=QdP (i:=i) (ev:=(evA l).take j) hw v hp;have C:=Qcl (l:=l) (i:=i) (t:=t) (ev:=(evA l).take j) (s:=s);have X:=Qeg (l:=l) (i:=i) (t:=t) (ev:=(evA l).take j) (s:=s);have U:=Qfw (l:=l) (ev:=evA l) (i:=i) (k:=j+1) (t:=t) (s:=s);have b:=Qkh (l:=l) (i:=i) (t:=t) (s:=s) he;rw[Zas]at X;generalize pRow l ((evA l).take j) i t s=u at*;have H:i<u.1.length:=ZaV d C.length_le;have B:u.1[i]?=some t:=by rw[Qgx C d];exact N
     have hub:=QcW w.nd w.inT;have E:(u.1.map sliN).length=u.1.length:=Zaz ..;have r:(u.2.flatMap edC).length=u.2.length*3:=Qbb (k:=3) (fun _=>rfl) u.2;have p:=step100 l t e h h0 (by omega) v.1;cases z:stepT l t e with|none=>
      rw[z]at p;have g:pEv l i t u e=u:=by unfold pEv;rw[z]
      rw[g]at b;refine ZcH (ZcK m H (QaF he) (Qeh B)) ?_;refine cp p ?_;simp(disch:=first|omega|exact PairsOK.mk rfl|(simp only[lenW]<;>omega))only[stV,Qac,Qad,Qae,wW,wV,simprocAttr];refine⟨j+1,by omega,⟨by omega,by rw[b];exact o⟩,?_⟩;rw[b];refine⟨[(51,.blk 51 0),(52,.blk 52 0),(53,.blk 53 0),(60,.blk 60 0),(70,.blk 70 0),(71,.blk 71 0)],rfl,au0,?_,au22⟩;exact Zcj rfl rfl gg (Zcp (Zb9 (Qaa _)) (Zcp (Zb9 rfl) (Zcp (Rn.x1 rfl rfl) (Zcp (Rn.x1 rfl rfl) Zco)))) (Zcj rfl rfl gg (Zca c) (Zcl rfl rfl gg (Zcx fun _ _=>⟨rfl,rfl⟩) (Zcj rfl rfl gg (Zca (Qav Qaa _)) (Zcj rfl rfl gg (Zca (Qab _)) (Zcj rfl rfl gg (Zca (Qaf _)) Zci)))))|some n=>
      rw[z]at p;have G:=Qfo hw v z;have J:=F n G;have k:=Qgj h G w.inT;refine ZcH (ZcK m H (QaF he) (Qeh B)) ?_;refine cp p ?_;simp(disch:=first|omega|exact PairsOK.mk rfl|(simp only[lenW]<;>omega))only[stV,Qac,Qad,Qae,wW,wV,simprocAttr];refine cp J ?_;refine ZcG ?_;by_cases hm:n∈u.1
      ·have g:pEv l i t u e=(u.1,u.2++[(i,e,ixT u.1 n)]):=by unfold pEv;rw[z];simp only[if_pos hm]
       rw[g]at b;refine Qg9 (c:=keyC) (f:=ixV u.1) (x:=n) (l:=u.1) (g:=0) gg k hm ?_;simp(disch:=first|omega|exact PairsOK.mk rfl|(simp only[lenW]<;>omega))only[ixV,r,Qac,Qad,Qae,wW,wV,simprocAttr];refine⟨j+1,by omega,⟨by omega,by rw[b];exact o⟩,?_⟩;rw[b,Zaf,Zaq];refine⟨[(51,.blk 51 0),(52,.blk 52 0),(53,.blk 53 0),(60,.blk 60 0),(70,.blk 70 0),(71,.blk 71 1)],rfl,au0,?_,au22⟩;exact Zcj rfl rfl gg (Zcp (Zb9 (Qaa _)) (Zcp (Zb9 rfl) (Zcp (Rn.x1 rfl rfl) (Zcp (Rn.x1 rfl rfl) Zco)))) (Zcj rfl rfl gg (Zca c) (Zcl rfl rfl gg (Zcx fun _ _=>⟨rfl,rfl⟩) (Zcj rfl rfl gg (Zca (Qav Qaa _)) (Zcj rfl rfl gg (Zca (Qab _)) (Zcj rfl rfl gg (Zca (SU.Qaw (Qaf _) rfl)) Zci)))))
      have g:pEv l i t u e=(u.1++[n],u.2++[(i,e,u.1.length)]):=by unfold pEv;rw[z];simp only[if_neg hm];rw[show u.1.findIdx (·==n)=u.1.length from Qi0 hm]
      rw[g]at b;have S:=QnH hm;by_cases h4:u.1.length=4096
      ·have f:((u.1.length:Nat):Int)=4096:=by omega
       have A:¬(sync0 l).1.length<=4096:=by have q1:=U.length_le;rw[b,Zaf,Zbs]at q1;have q2:=(Qis (l:=l) (ev:=evA l) (k:=box l+1-(i+1)) (i:=i+1) (s:=pRow l (evA l) i t s)).length_le;rw[O]at q2;omega
       rw[I A];refine QcV (c:=keyC) (f:=ixV u.1) (x:=n) (l:=u.1) (g:=0) gg k hm ?_;refine ZcH f ?_;exact⟨.inr trivial,_,rfl,Zb9 rfl⟩
      have f:¬((u.1.length:Nat):Int)=4096:=by omega
      refine QcV (c:=keyC) (f:=ixV u.1) (x:=n) (l:=u.1) (g:=0) gg k hm ?_;refine ZcH f ?_;refine cp J ?_;refine ZcG ?_;refine Qck (c:=keyC) (f:=ixV u.1) (x:=n) (l:=u.1) (g:=0) gg k hm (by omega) ?_;rw[S];refine ZcF (ZcM E r @Qaa @Qac @Qad @Qae) ?_;refine⟨j+1,by omega,⟨by omega,by rw[b,Zaf,Zbs];omega⟩,?_⟩;rw[b,Zaf,Zaf,Zaq,ZaN];refine⟨[(51,.blk 51 0),(52,.blk 52 0),(53,.blk 53 0),(60,.blk 60 1),(70,.blk 70 0),(71,.blk 71 1)],rfl,au0,?_,au22⟩;exact Zcj rfl rfl gg (Zcp (Zb9 (Qaa _)) (Zcp (Zb9 rfl) (Zcp (Rn.x1 rfl rfl) (Zcp (Rn.x1 rfl rfl) Zco)))) (Zcj rfl rfl gg (Zca c) (Zcl rfl rfl gg (Zcx fun _ _=>⟨rfl,rfl⟩) (Zcj rfl rfl gg (Zca (SU.Qaw (Qav Qaa _) (Qav Qaa [n]))) (Zcj rfl rfl gg (Zca (Qab _)) (Zcj rfl rfl gg (Zca (SU.Qaw (Qaf _) rfl)) Zci)))))
    have e2:j=(evA l).length:=by omega
    subst e2;rw[Zau]at o;refine ZcB m ?_;refine⟨(),o,?_⟩;refine⟨[(51,.blk 51 0),(52,.blk 52 0),(53,.blk 53 0),(60,.blk 60 0),(70,.blk 70 0),(71,.blk 71 0)],rfl,au0,?_,au22⟩;exact Zcj rfl rfl gg (Zcp (Zb9 (Qaa _)) (Zcp (Zb9 rfl) (Zcp (Rn.x1 rfl rfl) (Zcp (Rn.x1 rfl rfl) Zco)))) (Zcj rfl rfl gg (Zca c) (Zcl rfl rfl gg (Zcx fun _ _=>⟨rfl,rfl⟩) (Zcj rfl rfl gg (Zca (Qav Qaa _)) (Zcj rfl rfl gg (Zca (Qab _)) (Zcj rfl rfl gg (Zca (Qaf _)) Zci)))))
   rintro _ Y;refine ZcG ?_;refine⟨(i+1,pRow l (evA l) i t s),by dsimp only;omega,⟨Zay d K.length_le,hpo,by dsimp only;omega,Y,O⟩,?_⟩;dsimp only;rw[Qkf K d];refine⟨[(51,.blk 51 0),(52,.blk 52 0),(53,.blk 53 0),(60,.blk 60 0),(70,.blk 70 0),(71,.blk 71 0)],rfl,au0,?_,au22⟩;exact Zcj rfl rfl gg (Zcp (Zb9 (Qaa _)) (Zcp (Zb9 rfl) (Zcp (Rn.x1 rfl rfl) (Zcp (Rn.x1 rfl rfl) Zco)))) (Zcj rfl rfl gg (Zca c) (Zcl rfl rfl gg (Zcx fun _ _=>⟨rfl,rfl⟩) (Zcj rfl rfl gg (Zca (Qav Qaa _)) (Zcj rfl rfl gg (Zca (Qab _)) (Zcj rfl rfl gg (Zca (Qaf _)) Zci)))))
  have hfin:s=sync0 l:=by rw[<-hq,Qsj (ZaA (by omega))]
  have e2:i=s.1.length:=by omega
  subst e2;rw[<-hfin];refine ZcH d ?_;refine⟨(),M,[(51,.blk 51 0)],rfl,Zcf,?_,?_⟩;·exact Zcj rfl rfl gg (Zcp (Zb9 (Qaa _)) (Zcp (Zb9 rfl) (Zcp (Zcq rfl rfl rfl rfl (by simp[ints]) (Zca (Qab _))) (Zcp (Zcq rfl rfl rfl rfl (Qbb (k:=3) (fun _=>rfl) _) (Zca (Qaf _))) Zco)))) Zci
  exact Zch (Rn.x2 rfl rfl) (Zch (Rn.fz (b:=60) (g:=0) gg rfl rfl (by simp) (Zca (Qav Qaa _))) Zcg)
 rintro _ hE4;rw[T hE4];refine ZcG ?_;refine⟨.inr trivial,_,rfl,?_⟩;exact Zb9 Q
theorem sync28(l:List Aut)(h:∀a∈l,WfI a)(i:0<l.length)(g:l.length<=5)(d:∀t,InT l t->PSpec Tryz.prog 98 [sliN t] (.str (keyT t))):PSpec Tryz.prog 28 [auts l] (.tup [aV (syncA l),tuV (sync0 l).1,.int .i64 0]):=by have hw:∀a∈l,∀e∈a.es,e.1<a.n/\e.2.2<a.n:=fun a b=>(h a b).wf.esn;have c:∀a∈l,0<a.n:=fun a b=>(h a b).pos;have f:box l<=243:=Zay (Qp4 (fun a b=>(h a b).n3) (by omega)) (Nat.pow_le_pow_right (n:=3) (by omega) g);have:=sync28J l (fun a b=>(h a b).j) i (by omega) d;unfold synV at this;rwa[if_pos (Zay (Ql2 c hw) (by omega))]at this
end Go.AM.SO
namespace Go.AM.SO
open Go.Proofs Go.AM.SD Go.AM.SE
abbrev auL(l:List (Nat×Aut)):List Aut:=l.map (·.2)
theorem Qp8{x:Nat×Aut}:List.flatMap auC (List.map (fun x:Nat×Aut=>x.2) [x])=[sliN x.2.al,.int .i64 (x.2.n:Int),sliN x.2.ms,egsN x.2.es]:=rfl
theorem Qa3{l:List (Nat×Aut)}:(auL l).length=l.length:=Zaz ..
theorem _root_.Go.AM.au24{p:Prop}(h:p:=by repeat(first|exact Zcg|(refine Zch ?_ ?_;·(first|exact Rn.any|exact Rn.x1 rfl rfl|exact Rn.x2 rfl rfl|exact Rn.x3 rfl rfl|exact Rn.x4 rfl rfl|exact Rn.x5 rfl|exact Rn.x6 rfl|exact Rn.x7 rfl|(refine Rn.slot ?_ ?_;(first|rfl|(rw[ZaO];rfl));(first|rfl|(simp only[noRef,noRefs,Qag,Zad,Zac,Zah,Qab,Qan,Qaa,Qaj,QaX,Qaf,SU.Qbk];done)))|(refine Rn.fn ?_ ?_<;>(repeat'(first|exact Zco|refine Zcp ?_ ?_|exact Zb9 rfl|exact Rn.x6 rfl|exact Rn.x2 rfl rfl|exact Rn.x5 rfl|exact Rn.x1 rfl rfl))))))):p:=h
theorem automata69{ch:UInt8}(l:List (Nat×Aut))(k:l.length<=1000):PSpec Tryz.prog 69 [its ch l] (auts (auL l)):=by
 refine Zcb 64 TP.ok69 rfl (by rw[noRefs,SU.QaB];rfl) (Qa7 _) ?_;have h:=@SU.QaB ch l;unfold TP.s69;refine ZcG ?_;refine Qat 100 (fun i:Nat=>[(3,.sl 60 0 0 i 4),(6,its ch l),(7,.int .i64 l.length),(8,.int .i64 i)]) (fun i=>[(60,.cells 0 ((auL (l.take i)).flatMap auC))]) (fun i=>i<=l.length) (fun i=>l.length-i) 0 0 160 (fun _:Unit=>[(3,auts (auL l))]) (fun _=>[]) (fun _=>True) ?_ (Zaj _) ?_ ?_;·refine⟨[(60,.nil)],rfl,au0,?_,au24⟩;exact Zck rfl rfl Zci
 ·rintro i hi;by_cases a:i<l.length
  ·obtain⟨x,g⟩:=Qaq a;have b:=SU.Qdj (ch:=ch) g;have c:5<=((l.flatMap (itC ch)).drop (i*5)).length:=by rw[b];simp
   have d:(auL (l.take i)).length=i:=by rw[Qa3,Zas];omega
   have f:((auL (l.take i)).flatMap auC).length=i*4:=by rw[Qgi,d]
   refine ZcF (ZcP a b c f @Qaa @Qaj @Qac @Qad @Qae) ?_;refine⟨i+1,by omega,by omega,?_⟩;rw[take_succ' g];show Rec _ _ [(60,.cells 0 ((List.map (fun x:Nat×Aut=>x.2) (l.take i++[x])).flatMap auC))] _ _;rw[ZaN,Zaq,Qp8];refine⟨[(60,.blk 60 1)],rfl,au0,?_,au24⟩;exact Zcj rfl rfl gg (Zca (SU.Qaw (QaX _) (QaX [x.2]))) Zci
  have e:i=l.length:=by omega
  subst e;refine ZcB a ?_;exact⟨(),[],rfl,Zcf,Zci,Zch (Zcq (b:=60) (g:=0) gg rfl rfl Qa3 (by rw[Qgi,Qa3]) (Zca (QaX _))) Zcg⟩
 rintro _ _;refine ZcG ?_;exact⟨.inr trivial,_,rfl,Zb9 (Qa7 _)⟩
theorem Qp9(l:List Aut):noRef (.tup [aV (syncA l),tuV (sync0 l).1,.int .i64 0])=true:=by rw[noRef,noRefs,noRefs,Qb2,noRef,noRefs,noRefs,noRefs,noRefs,Qaa,Qaa,Qaj];rfl
theorem Qbh{c:Cel}(h:WfCel c):∀a∈auL c.cs,WfI a:=fun a b=>by obtain⟨x,d,rfl⟩:=Zao.1 b;exact h.ca x d
theorem Qrf{c:Cel}(h:WfCel c)(t:List Nat)(a:InT (auL c.cs) t):PSpec Tryz.prog 98 [sliN t] (.str (keyT t)):=by have g:=h.c0;have f:=h.c3;have b:=a.1;rw[Qa3]at b;exact key98 (by omega) (by omega) fun x d=>a.lt (Qbh h) d
theorem Qsk(c:Cel)(h:WfCel c):PSpec Tryz.prog 28 [auts (auL c.cs)] (.tup [aV (syncA (auL c.cs)),tuV (sync0 (auL c.cs)).1,.int .i64 0]):=by have a:=h.c0;have b:=h.c3;exact sync28 (auL c.cs) (Qbh h) (by rw[Qa3];omega) (by rw[Qa3];omega) (Qrf h)
theorem plant17(c:Cel)(h:WfCel c):PSpec Tryz.prog 17 [celV c] (.tup [aV (syncA (auL c.cs)),tuV (sync0 (auL c.cs)).1,.int .i64 0]):=by have d:=Qcc c;refine Zcb 64 TP.ok17 rfl (by rw[noRefs,SU.Qbl];rfl) (Qp9 _) ?_;have f:=h.c3;have hc:=check21 c h;have a:=automata69 (ch:=99) c.cs (by omega);have b:=Qsk c h;unfold TP.s17;refine ZcG ?_;refine cp hc ?_;refine ZcG ?_;refine cp a ?_;refine ZcG ?_;refine cp b ?_;refine ZcG ?_;exact⟨.inr trivial,_,rfl,Zb9 (Qp9 _)⟩
theorem QnI{T:List (List Nat)}{i:Nat}{t:List Nat}(h:T[i]?=some t):((T.map sliN).drop i).head?=some (sliN t):=by rw[ZbT,Qeh h]
end Go.AM.SO
namespace Go.AM.SO
open Go.Proofs Go.AM.SD Go.AM.SE
theorem index195{K:Nat}{cap:List AV}(q:(Nat×Nat)->Bool)(l:List (Nat×Nat))(r:l.length<=1000000)(hc:noRefs cap=true)(hk:∀x∈l,PSpec Tryz.prog K (.agg [.int .i64 (x.1:Int),.int .i64 (x.2:Int)]::cap) (.bool (q x))):PSpec Tryz.prog 195 [los l,.fn K [] cap] (.int .i64 (idxQ q l)):=by
 refine Zcc 64 TQ.ok195 rfl (by rw[noRefs,noRefs,Qbs hc,(SU.Qb1 _)];rfl) rfl ?_;have c:=Qbs (K:=K) hc;have n:=SU.Qgc l;unfold TQ.s195;refine ZcG ?_;refine QaO 100 (fun i:Nat=>[(0,los l),(1,.fn K [] cap),(7,.int .i64 l.length),(8,.int .i64 i)]) (fun _=>[]) (fun i=>i<=l.length/\∀(j:Nat)y,j<i->l[j]?=some y->q y=false) (fun i=>l.length-i) 0 ?_ ⟨Zaj _,fun j y k=>absurd k (ZaF _)⟩ ?_;·exact⟨[],rfl,Zcf,Zci,Zch (Zb9 (SU.Qb1 _)) (Zch (Zb9 c) (Zch (Zb9 rfl) (Zch (Zb9 rfl) Zcg)))⟩
 rintro i⟨hi,m⟩;by_cases a:i<l.length
 ·obtain⟨x,b⟩:=Qaq a;have h:=hk x (Zae b);have d:=QiV b;have f:2<=(List.drop (i*2) (l.flatMap loC)).length:=by rw[Za4,n];omega
  cases g:q x
  ·rw[g]at h;refine ZcF (ZcN a d f @Zbj @Qac @Qad @Qae) ?_;refine⟨_,by simpa using h,?_⟩;refine ZcG ?_;refine⟨i+1,by omega,⟨by omega,fun j y k o=>?_⟩,?_⟩
   ·by_cases e:j=i;·subst e;rw[b]at o;cases o;exact g
    exact m j y (by omega) o
   exact⟨[],rfl,Zcf,Zci,Zch (Zb9 (SU.Qb1 _)) (Zch (Zb9 c) (Zch (Zb9 rfl) (Zch (Zb9 rfl) Zcg)))⟩
  rw[g]at h;refine ZcF (ZcN a d f @Zbj @Qac @Qad @Qae) ?_;refine⟨_,by simpa using h,?_⟩;refine ZcG ?_;refine⟨.inr trivial,_,rfl,?_⟩;rw[QeM b g m];rfl
 refine ZcH a ?_;refine⟨.inr trivial,_,rfl,?_⟩;rw[QdA fun x b=>by obtain⟨j,k,p⟩:=Zbf b;exact m j x (by omega) (by rw[Zal k,p])];rfl
theorem index48{K:Nat}{cap:List AV}(q:Ed->Bool)(l:List Ed)(r:l.length<=1000000)(hc:noRefs cap=true)(hk:∀x∈l,PSpec Tryz.prog K (.agg [.int .i64 (x.1:Int),.int .i64 (x.2.1:Int),.int .i64 (x.2.2:Int)]::cap) (.bool (q x))):PSpec Tryz.prog 48 [egsN l,.fn K [] cap] (.int .i64 (idxQ q l)):=by
 refine Zcc 64 TQ.ok48 rfl (by rw[noRefs,noRefs,Qbs hc,(Qaj _)];rfl) rfl ?_;have c:=Qbs (K:=K) hc;have n:=(Qbb (k:=3) (fun _=>rfl) l:(l.flatMap edC).length=l.length*3);unfold TQ.s48;refine ZcG ?_;refine QaO 100 (fun i:Nat=>[(0,egsN l),(1,.fn K [] cap),(7,.int .i64 l.length),(8,.int .i64 i)]) (fun _=>[]) (fun i=>i<=l.length/\∀(j:Nat)y,j<i->l[j]?=some y->q y=false) (fun i=>l.length-i) 0 ?_ ⟨Zaj _,fun j y k=>absurd k (ZaF _)⟩ ?_;·exact⟨[],rfl,Zcf,Zci,Zch (Zb9 (Qaj _)) (Zch (Zb9 c) (Zch (Zb9 rfl) (Zch (Zb9 rfl) Zcg)))⟩
 rintro i⟨hi,m⟩;by_cases a:i<l.length
 ·obtain⟨x,b⟩:=Qaq a;have h:=hk x (Zae b);have d:=QaJ b;have f:3<=(List.drop (i*3) (l.flatMap edC)).length:=by rw[Za4,n];omega
  cases g:q x
  ·rw[g]at h;refine ZcF (ZcN a d f @Zbj @Qac @Qad @Qae) ?_;refine⟨_,by simpa using h,?_⟩;refine ZcG ?_;refine⟨i+1,by omega,⟨by omega,fun j y k o=>?_⟩,?_⟩
   ·by_cases e:j=i;·subst e;rw[b]at o;cases o;exact g
    exact m j y (by omega) o
   exact⟨[],rfl,Zcf,Zci,Zch (Zb9 (Qaj _)) (Zch (Zb9 c) (Zch (Zb9 rfl) (Zch (Zb9 rfl) Zcg)))⟩
  rw[g]at h;refine ZcF (ZcN a d f @Zbj @Qac @Qad @Qae) ?_;refine⟨_,by simpa using h,?_⟩;refine ZcG ?_;refine⟨.inr trivial,_,rfl,?_⟩;rw[QeM b g m];rfl
 refine ZcH a ?_;refine⟨.inr trivial,_,rfl,?_⟩;rw[QdA fun x b=>by obtain⟨j,k,p⟩:=Zbf b;exact m j x (by omega) (by rw[Zal k,p])];rfl
theorem contains115{K:Nat}{cap:List AV}(q:Nat×Nat->Bool)(l:List (Nat×Nat))(c:l.length<=1000000)(hc:noRefs cap=true)(hk:∀x∈l,PSpec Tryz.prog K (.agg [.int .i64 (x.1:Int),.int .i64 (x.2:Int)]::cap) (.bool (q x))):PSpec Tryz.prog 115 [los l,.fn K [] cap] (.bool (l.any q)):=by refine Zcc 64 TQ.ok115 rfl (by rw[noRefs,noRefs,Qbs hc,SU.Qb1];rfl) rfl ?_;have h:=index195 q l c hc hk;have d:=Qbs (K:=K) hc;have b:=@QnB _ q l;generalize idxQ q l=a at*;unfold TQ.s115;refine ZcG ?_;refine cp h ?_;refine ZcH b ?_;exact⟨.inr trivial,_,rfl,rfl⟩
theorem other234(t:List Nat)(c s y:Nat)(a:t[c]?=some y):PSpec Tryz.prog 234 [.agg [.int .i64 (c:Int),.int .i64 (s:Int)],.fptr [sliN t]] (.bool (!decide (y=s))):=by refine Zcc 64 TQ.ok234 rfl (by simp only[noRefs,noRef,Qab];rfl) rfl ?_;have hc:c<t.length:=(Zam.1 a).1;have b:decide ((y:Int)=(s:Int))=decide (y=s):=decide_eq_decide.2 (by omega);unfold TQ.s234;refine ZcH (ZcJ (QaF a) hc b) ?_;exact⟨.inr trivial,_,rfl,rfl⟩
def exQ(t:List Nat)(x:Nat×List (Nat×Nat)):Bool:=!x.2.any fun l=>!decide (t.getD l.1 0=l.2)
theorem excl233(t:List Nat)(x:Nat×List (Nat×Nat))(g:x.2.length<=1000)(d:∀l∈x.2,l.1<t.length):PSpec Tryz.prog 233 [sliN t,.fptr (exC x)] (.bool (exQ t x)):=by
 have a:noRefs (exC x)=true:=by simp only[exC,noRefs,noRef,SU.Qbg];rfl
 refine Zcc 64 TQ.ok233 rfl (by rw[noRefs,noRefs,Qaa,noRef,a];rfl) rfl ?_;have f:=contains115 (K:=234) (cap:=[.fptr [sliN t]]) (fun l=>!decide (t.getD l.1 0=l.2)) x.2 (by omega) (by simp only[noRefs,noRef,Qab];rfl) fun l hm=>by obtain⟨y,c⟩:=Qaq (d l hm);have:=other234 t l.1 l.2 y c;rwa[show t.getD l.1 0=y by rw[Zak,c];rfl]
 show wS _ _ _ _ _ (argT 0 [sliN t,.fptr [.str [101,UInt8.ofNat (48+x.1)],los x.2]]) _ _;unfold exQ;generalize x.2.any (fun l=>!decide (t.getD l.1 0=l.2))=b at*;unfold TQ.s233;refine ZcG ?_;refine SU.chc (Zcs (Zcv (Zcd _) (Zcv (FrzTo.fn Zcu (Zcv (FrzTo.ptr (g:=0) (cs:=[sliN t]) gg (Zce _)) Zcu)) Zcu)) f rfl) ?_;refine ZcG ?_;exact⟨.inr trivial,_,rfl,rfl⟩
def koV(t:List Nat)(l:List (Nat×Int)):Int:=(l.map fun x=>x.2*(t.getD x.1 0:Int)).foldl (·+·) 0
theorem Ql5{t:List Nat}{l:List (Nat×Int)}{i:Nat}{x:Nat×Int}(h:l[i]?=some x):koV t (l.take (i+1))=koV t (l.take i)+x.2*(t.getD x.1 0:Int):=by unfold koV;rw[take_succ' h,ZaN,Za5];rfl
theorem Qki{a b:Int}(h:-4<a/\a<4)(c:0<=b/\b<3):-12<=a*b/\a*b<=12:=by
 obtain rfl|rfl|rfl:b=0\/b=1\/b=2:=by omega
 ·omega
 ·omega
 omega
theorem Qkj{t:List Nat}(b:∀x∈t,x<3){l:List (Nat×Int)}(c:∀x∈l,-4<x.2/\x.2<4):∀i,i<=l.length->-12*(i:Int)<=koV t (l.take i)/\koV t (l.take i)<=12*(i:Int)
 |0,_=>by simp[koV]|i+1,hi=>by
  obtain⟨x,a⟩:=Qaq (l:=l) (i:=i) (by omega);rw[Ql5 a];have h1:=Qkj b c i (by omega);have d:(0:Int)<=(t.getD x.1 0:Int)/\(t.getD x.1 0:Int)<3:=by
   refine⟨by omega,?_⟩;rcases Zbu x.1 t.length with h|h;·have :=b (t.getD x.1 0) (by rw[Zak,Zal h];exact List.getElem_mem h);omega
   rw[Zak,ZaA h];decide
  have f:=Qki (c x (Zae a)) d;omega
theorem _root_.Go.AM.au25{p:Prop}(h:p:=by repeat'(first|exact Zci|(refine Zca ?_;first|rfl|(simp only[noRef,noRefs,Qag,Zad,Zac,Zah,Qab,Qan,Qaa,SU.Qbg,SU.QaN,SU.Qbk,SU.Qba,SU.QcJ];done))|exact Zct rfl|exact Zco|exact(True.intro:RnM _ _ _ [] [])|refine Zcp ?_ ?_|(refine Zb9 ?_;first|rfl|(simp only[noRef,noRefs,Qag,Zad,Zac,Zah,Qab,Qan,Qaa,SU.Qbg,SU.QaN,SU.Qbk,SU.Qba,SU.QcJ];done))|exact Rn.x1 rfl rfl|exact Rn.x2 rfl rfl|exact Rn.x3 rfl rfl|exact Rn.x4 rfl rfl|exact Rn.x5 rfl|exact Rn.x6 rfl|exact Rn.x7 rfl|refine Zck rfl rfl ?_|refine Zcj rfl rfl rfl ?_ ?_|refine Zcl rfl rfl rfl ?_ ?_|refine Zcm rfl rfl ?_ ?_|refine Zcn rfl rfl ?_ ?_)):p:=h
theorem value236(t:List Nat)(k:List (Nat×Int)×Int)(hk:k.1.length<=1000)(p:∀x∈t,x<3)(hc:∀x∈k.1,x.1<t.length/\-4<x.2/\x.2<4):PSpec Tryz.prog 236 [.agg (coC k),sliN t] (.int .i64 (koV t k.1)):=by
 have m:noRefs (coC k)=true:=by simp only[coC,noRefs,noRef,SU.QaN];rfl
 refine Zcc 64 TQ.ok236 rfl (by rw[noRefs,noRefs,Qaa,noRef,m];rfl) rfl ?_;have q:=SU.QcT k.1;have l:=Qkj p fun x c=>(hc x c).2;show wS _ _ _ _ _ (argT 0 [.agg [.str [107],tes k.1,.int .i64 k.2],sliN t]) _ _;unfold TQ.s236;refine ZcG ?_;refine Qat 100 (fun i:Nat=>[(1,sliN t),(5,.int .i64 (koV t (k.1.take i))),(9,tes k.1),(10,.int .i64 k.1.length),(11,.int .i64 i)]) (fun _=>[]) (fun i=>i<=k.1.length) (fun i=>k.1.length-i) 0 0 160 (fun _:Unit=>[(5,.int .i64 (koV t k.1))]) (fun _=>[]) (fun _=>True) ?_ (Zaj _) ?_ ?_;·exact⟨[],rfl,Zcf,Zci,Zch (Zb9 (Qaa _)) (Zch (Zb9 rfl) (Zch (Zb9 (SU.Qcj _)) au18))⟩
 ·rintro i hi;by_cases a:i<k.1.length
  ·obtain⟨x,c⟩:=Qaq a;obtain⟨h1,u⟩:=hc x (Zae c);obtain⟨y,h⟩:=Qaq h1;have r:=p y (Zae h);have o:t.getD x.1 0=y:=by rw[Zak,h];rfl
   have d:=SU.Qdi c;have g:2<=((k.1.flatMap teC).drop (i*2)).length:=by rw[d];simp
   have b:=Ql5 (t:=t) c;rw[o]at b;have hp:=Qki u (b:=(y:Int)) ⟨by omega,by omega⟩;have s:=l i hi;have n:wr .i64 (x.2*(y:Int))=x.2*(y:Int):=QfQ (by omega) (by omega);have f:wr .i64 (koV t (k.1.take i)+x.2*(y:Int))=koV t (k.1.take i)+x.2*(y:Int):=QfQ (by omega) (by omega);refine ZcH (ZcN a d g h1 (QaF h) n f) ?_;refine⟨i+1,by omega,by omega,?_⟩;rw[b];exact⟨[],rfl,Zcf,Zci,Zch (Zb9 (Qaa _)) (Zch (Zb9 rfl) (Zch (Zb9 (SU.Qcj _)) au18))⟩
  have e:i=k.1.length:=by omega
  subst e;refine ZcB a ?_;exact⟨(),⟨[],rfl,au0,au25,au18⟩⟩
 rintro _ _;refine ZcG ?_;exact⟨.inr trivial,_,rfl,rfl⟩
def koQ(t:List Nat)(k:List (Nat×Int)×Int):Bool:=decide (k.2<koV t k.1)
theorem excd235(t:List Nat)(k:List (Nat×Int)×Int)(hk:k.1.length<=1000)(c:∀x∈t,x<3)(hc:∀x∈k.1,x.1<t.length/\-4<x.2/\x.2<4):PSpec Tryz.prog 235 [sliN t,.fptr (coC k)] (.bool (koQ t k)):=by
 have a:noRefs (coC k)=true:=by simp only[coC,noRefs,noRef,SU.QaN];rfl
 refine Zcc 64 TQ.ok235 rfl (by rw[noRefs,noRefs,Qaa,noRef,a];rfl) rfl ?_;have b:=value236 t k hk c hc;show wS _ _ _ _ _ (argT 0 [sliN t,.fptr [.str [107],tes k.1,.int .i64 k.2]]) _ _;unfold koQ;unfold TQ.s235;refine ZcG ?_;refine cp b ?_;refine ZcG ?_;exact⟨.inr trivial,_,rfl,rfl⟩
def cdF:(Nat×List (Nat×Nat))⊕(List (Nat×Int)×Int)->AV|.inl x=>.fn 233 [] [.fptr (exC x)]|.inr k=>.fn 235 [] [.fptr (coC k)]
def cdQ(t:List Nat):(Nat×List (Nat×Nat))⊕(List (Nat×Int)×Int)->Bool|.inl x=>exQ t x|.inr k=>koQ t k
def cdA(xs:List (Nat×List (Nat×Nat)))(ks:List (List (Nat×Int)×Int)):List ((Nat×List (Nat×Nat))⊕(List (Nat×Int)×Int)):=xs.map .inl++ks.map .inr
abbrev cdL(l:List ((Nat×List (Nat×Nat))⊕(List (Nat×Int)×Int))):AV:=.fsl (l.map cdF) l.length 1
theorem Qbt(x:(Nat×List (Nat×Nat))⊕(List (Nat×Int)×Int)):noRef (cdF x)=true:=by cases x with|inl x=>simp only[cdF,exC,noRef,noRefs,SU.Qbg];rfl|inr k=>simp only[cdF,coC,noRef,noRefs,SU.QaN];rfl
theorem QcL(l:List ((Nat×List (Nat×Nat))⊕(List (Nat×Int)×Int))):noRef (cdL l)=true:=by rw[cdL,noRef];exact Qav Qbt _
theorem Qsl{l:List ((Nat×List (Nat×Nat))⊕(List (Nat×Int)×Int))}{i:Nat}{x:(Nat×List (Nat×Nat))⊕(List (Nat×Int)×Int)}(h:l[i]?=some x):((l.map cdF).drop i).head?=some (cdF x):=by rw[ZbT,ZaG,h];rfl
theorem index203{K:Nat}{cap:List AV}(q:((Nat×List (Nat×Nat))⊕(List (Nat×Int)×Int))->Bool)(l:List ((Nat×List (Nat×Nat))⊕(List (Nat×Int)×Int)))(r:l.length<=1000000)(hc:noRefs cap=true)(hk:∀x∈l,PSpec Tryz.prog K (cdF x::cap) (.bool (q x))):PSpec Tryz.prog 203 [cdL l,.fn K [] cap] (.int .i64 (idxQ q l)):=by
 refine Zcc 64 TQ.ok203 rfl (by rw[noRefs,noRefs,Qbs hc,(QcL _)];rfl) rfl ?_;have c:=Qbs (K:=K) hc;have n:=(show(l.map cdF).length=l.length*1 by simp);unfold TQ.s203;refine ZcG ?_;refine QaO 100 (fun i:Nat=>[(0,cdL l),(1,.fn K [] cap),(7,.int .i64 l.length),(8,.int .i64 i)]) (fun _=>[]) (fun i=>i<=l.length/\∀(j:Nat)y,j<i->l[j]?=some y->q y=false) (fun i=>l.length-i) 0 ?_ ⟨Zaj _,fun j y k=>absurd k (ZaF _)⟩ ?_;·exact⟨[],rfl,Zcf,Zci,Zch (Zb9 (QcL _)) (Zch (Zb9 c) (Zch (Zb9 rfl) (Zch (Zb9 rfl) Zcg)))⟩
 rintro i⟨hi,m⟩;by_cases a:i<l.length
 ·obtain⟨x,b⟩:=Qaq a;have h:=hk x (Zae b);have d:=Qsl b;have f:1<=(List.drop (i*1) (l.map cdF)).length:=by rw[Za4,n];omega
  cases g:q x
  ·rw[g]at h;refine ZcF (ZcN a d f @Zbj @Qac @Qad @Qae) ?_;refine⟨_,by simpa using h,?_⟩;refine ZcG ?_;refine⟨i+1,by omega,⟨by omega,fun j y k o=>?_⟩,?_⟩
   ·by_cases e:j=i;·subst e;rw[b]at o;cases o;exact g
    exact m j y (by omega) o
   exact⟨[],rfl,Zcf,Zci,Zch (Zb9 (QcL _)) (Zch (Zb9 c) (Zch (Zb9 rfl) (Zch (Zb9 rfl) Zcg)))⟩
  rw[g]at h;refine ZcF (ZcN a d f @Zbj @Qac @Qad @Qae) ?_;refine⟨_,by simpa using h,?_⟩;refine ZcG ?_;refine⟨.inr trivial,_,rfl,?_⟩;rw[QeM b g m];rfl
 refine ZcH a ?_;refine⟨.inr trivial,_,rfl,?_⟩;rw[QdA fun x b=>by obtain⟨j,k,p⟩:=Zbf b;exact m j x (by omega) (by rw[Zal k,p])];rfl
end Go.AM.SO
namespace Go.AM.SO
open Go.Proofs Go.AM.SD Go.AM.SE
structure TOk(S:List Nat)(t:List Nat)(xs:List (Nat×List (Nat×Nat)))(ks:List (List (Nat×Int)×Int)):Prop where
 ln:t.length=S.length
 l3:t.length<=1000
 t3:∀k∈ks,∀x∈t,x<3
 lt:∀(i:Nat)x n,t[i]?=some x->S[i]?=some n->x<n
 xl:∀x∈xs,x.2.length<=1000/\∀l∈x.2,l.1<t.length
 kl:∀k∈ks,k.1.length<=1000/\∀x∈k.1,x.1<t.length/\-4<x.2/\x.2<4
 xn:xs.length<=1000
 kn:ks.length<=1000
variable{S t:List Nat}{xs:List (Nat×List (Nat×Nat))}{ks:List (List (Nat×Int)×Int)}
theorem call204(h:TOk S t xs ks){x:(Nat×List (Nat×Nat))⊕(List (Nat×Int)×Int)}(a:x∈cdA xs ks):PSpec Tryz.prog 204 [cdF x,.fptr [sliN t]] (.bool (cdQ t x)):=by
 refine Zcc 64 TQ.ok204 rfl (by rw[noRefs,Qbt,noRefs];simp only[noRefs,noRef,Qab];rfl) rfl ?_;unfold cdA at a;rcases ZaE.1 a with a|a;·obtain⟨y,b,rfl⟩:=Zao.1 a;have hc:=excl233 t y (h.xl y b).1 (h.xl y b).2;simp(disch:=first|omega|exact PairsOK.mk rfl|(simp only[lenW]<;>omega))only[TQ.s204,cdF,Qac,Qad,Qae,wW,wV,simprocAttr];refine⟨_,by simpa using hc,?_⟩;refine ZcG ?_;exact⟨.inr trivial,_,rfl,rfl⟩
 obtain⟨y,b,rfl⟩:=Zao.1 a;have hc:=excd235 t y (h.kl y b).1 (h.t3 y b) (h.kl y b).2;simp(disch:=first|omega|exact PairsOK.mk rfl|(simp only[lenW]<;>omega))only[TQ.s204,cdF,Qac,Qad,Qae,wW,wV,simprocAttr];refine⟨_,by simpa using hc,?_⟩;refine ZcG ?_;exact⟨.inr trivial,_,rfl,rfl⟩
theorem QdR:(cdA xs ks).length=xs.length+ks.length:=by simp[cdA]
theorem violated158(h:TOk S t xs ks):PSpec Tryz.prog 158 [cdL (cdA xs ks),sliN t] (.int .i64 (idxQ (cdQ t) (cdA xs ks))):=by have a:=QcL (cdA xs ks);refine Zcc 64 TQ.ok158 rfl (by rw[noRefs,a,noRefs,Qaa];rfl) rfl ?_;have b:=index203 (K:=204) (cap:=[.fptr [sliN t]]) (cdQ t) (cdA xs ks) (by rw[QdR];have:=h.xn;have:=h.kn;omega) (by simp only[noRefs,noRef,Qab];rfl) fun x c=>call204 h c;generalize cdA xs ks=l at*;unfold TQ.s158;refine ZcG ?_;refine SU.chc (Zcs (Zcv (Zcd _) (Zcv (FrzTo.fn Zcu (Zcv (FrzTo.ptr (g:=0) (cs:=[sliN t]) gg (Zce _)) Zcu)) Zcu)) b rfl) ?_;refine ZcG ?_;exact⟨.inr trivial,_,rfl,rfl⟩
theorem mk205(x:Nat×List (Nat×Nat)):PSpec Tryz.prog 205 [.agg (exC x)] (cdF (.inl x)):=by
 have a:noRefs (exC x)=true:=by simp only[exC,noRefs,noRef,SU.Qbg];rfl
 refine Zcb 64 TQ.ok205 rfl (by rw[noRefs,noRef,a];rfl) (Qbt _) ?_;show wS _ _ _ _ _ (argT 0 [.agg [.str [101,UInt8.ofNat (48+x.1)],los x.2]]) _ _;unfold TQ.s205;refine ZcG ?_;refine⟨.inr trivial,_,rfl,?_⟩;exact Rn.fn Zco (Zcp (Rn.frzp (b:=64) (g:=0) rfl (Zaj _) (fun c b _ e=>by simp[π0]at e) (by simp) (Zca a)) Zco)
theorem mk206(k:List (Nat×Int)×Int):PSpec Tryz.prog 206 [.agg (coC k)] (cdF (.inr k)):=by
 have a:noRefs (coC k)=true:=by simp only[coC,noRefs,noRef,SU.QaN];rfl
 refine Zcb 64 TQ.ok206 rfl (by rw[noRefs,noRef,a];rfl) (Qbt _) ?_;show wS _ _ _ _ _ (argT 0 [.agg [.str [107],tes k.1,.int .i64 k.2]]) _ _;unfold TQ.s206;refine ZcG ?_;refine⟨.inr trivial,_,rfl,?_⟩;exact Rn.fn Zco (Zcp (Rn.frzp (b:=64) (g:=0) rfl (Zaj _) (fun c b _ e=>by simp[π0]at e) (by simp) (Zca a)) Zco)
theorem Qkk(x:(Nat×List (Nat×Nat))⊕(List (Nat×Int)×Int)):(cdF x).cells=[cdF x]:=by cases x<;>rfl
theorem QnJ(x:(Nat×List (Nat×Nat))⊕(List (Nat×Int)×Int)):(cdF x).one=true:=by cases x<;>rfl
theorem QnK(x:(Nat×List (Nat×Nat))⊕(List (Nat×Int)×Int)):(cdF x).boxable=true:=by cases x<;>rfl
theorem conds159(m:xs.length<=1000)(hk:ks.length<=1000):PSpec Tryz.prog 159 [cdV S xs ks] (cdL (cdA xs ks)):=by
 have b:=@QbP S xs ks;refine Zcb 64 TQ.ok159 rfl (by rw[noRefs,noRef,b];rfl) (QcL _) ?_;have o:=SU.Qef xs;have n:=Qgd ks;show wS _ _ _ _ _ (argT 0 [.agg [sliN S,exs xs,cos ks]]) _ _;unfold TQ.s159;refine ZcG ?_;refine Qat 100 (fun i:Nat=>[(1,.ptr 51 0 0),(3,.sl 60 0 0 i 1),(9,exs xs),(10,.int .i64 xs.length),(11,.int .i64 i)]) (fun i=>[(51,.cells 0 [sliN S,exs xs,cos ks]),(60,.cells 0 ((cdA (xs.take i) []).map cdF))]) (fun i=>i<=xs.length) (fun i=>xs.length-i) 0 0 160 (fun _:Unit=>[(1,.ptr 51 0 0),(3,.sl 60 0 0 xs.length 1)]) (fun _=>[(51,.cells 0 [sliN S,exs xs,cos ks]),(60,.cells 0 ((cdA xs []).map cdF))]) (fun _=>True) ⟨[(51,.blk 64 0),(60,.nil)],rfl,au0,?_,au18⟩ (Zaj _) ?_ ?_;·exact Zcj rfl rfl gg (Zca b) (Zck rfl rfl Zci)
 ·rintro i hi;by_cases a:i<xs.length
  ·obtain⟨x,m⟩:=Qaq a;have d:=QiW m;have g:2<=((xs.flatMap exC).drop (i*2)).length:=by rw[d];simp
   have h:((cdA (xs.take i) []).map cdF).length=i:=by rw[Zaz,QdR,Zas];simp;omega
   have hm:=mk205 x;have hc:=Qkk (.inl x);have ho:=QnJ (.inl x);have l:=QnK (.inl x);have f:(cdA (xs.take (i+1)) []).map cdF=(cdA (xs.take i) []).map cdF++[cdF (.inl x)]:=by rw[take_succ' m];simp[cdA]
   have c:=Qbt (.inl x);generalize cdF (.inl x)=F at*;refine ZcH (ZcJ a d g) ?_;refine cp hm ?_;refine ZcH (ZcL hc ho l h c) ?_;refine⟨i+1,by omega,by omega,?_⟩;rw[f];refine⟨[(51,.blk 51 0),(60,.blk 60 1)],rfl,au0,?_,au18⟩;exact Zcj rfl rfl gg (Zca b) (Zcj rfl rfl gg (Zca (SU.Qaw (Qav Qbt _) (by rw[noRefs,c];rfl))) Zci)
  have e:i=xs.length:=by omega
  subst e;refine ZcB a ?_;refine⟨(),?_⟩;refine⟨[(51,.blk 51 0),(60,.blk 60 0)],rfl,au0,?_,au18⟩;exact Zcj rfl rfl gg (Zca b) (Zcj rfl rfl gg (Zca (Qav Qbt _)) Zci)
 rintro _ _;refine ZcG ?_;refine Qat 200 (fun i:Nat=>[(3,.sl 60 0 0 (xs.length+i) 1),(22,cos ks),(23,.int .i64 ks.length),(24,.int .i64 i)]) (fun i=>[(60,.cells 0 ((cdA xs (ks.take i)).map cdF))]) (fun i=>i<=ks.length) (fun i=>ks.length-i) 0 2 260 (fun _:Unit=>[(3,cdL (cdA xs ks))]) (fun _=>[]) (fun _=>True) ⟨[(60,.blk 60 0)],rfl,au0,?_,au18⟩ (Zaj _) ?_ ?_;·exact Zcj rfl rfl gg (Zca (Qav Qbt _)) Zci
 ·rintro i hi;by_cases a:i<ks.length
  ·obtain⟨k,hk⟩:=Qaq a;have d:=QiX hk;have g:3<=((ks.flatMap coC).drop (i*3)).length:=by rw[d];simp
   have h:((cdA xs (ks.take i)).map cdF).length=xs.length+i:=by rw[Zaz,QdR,Zas];omega
   have hm:=mk206 k;have hc:=Qkk (.inr k);have ho:=QnJ (.inr k);have l:=QnK (.inr k);have f:(cdA xs (ks.take (i+1))).map cdF=(cdA xs (ks.take i)).map cdF++[cdF (.inr k)]:=by rw[take_succ' hk];simp[cdA]
   have c:=Qbt (.inr k);generalize cdF (.inr k)=F at*;refine ZcH (ZcJ a d g) ?_;refine cp hm ?_;refine ZcH (ZcL hc ho l h c) ?_;refine⟨i+1,by omega,by omega,?_⟩;rw[f];refine⟨[(60,.blk 60 1)],rfl,au0,?_,au18⟩;exact Zcj rfl rfl gg (Zca (SU.Qaw (Qav Qbt _) (by rw[noRefs,c];rfl))) Zci
  have e:i=ks.length:=by omega
  subst e;refine ZcB a ?_;exact⟨(),[],rfl,Zcf,Zci,Zch (Zcq (b:=60) (g:=0) gg rfl rfl QdR (by rw[Zaz,QdR];simp) (Zca (Qav Qbt _))) Zcg⟩
 rintro _ _;refine ZcG ?_;exact⟨.inr trivial,_,rfl,Zb9 (QcL _)⟩
end Go.AM.SO
namespace Go.AM.SO
open Go.Proofs Go.AM.SD Go.AM.SE
variable{S t:List Nat}{xs:List (Nat×List (Nat×Nat))}{ks:List (List (Nat×Int)×Int)}
theorem checkT202(h:TOk S t xs ks):PSpec Tryz.prog 202 [cdV S xs ks,sliN t] (.int .i64 0):=by
 have a:=@QbP S xs ks;refine Zcc 64 TQ.ok202 rfl (by rw[noRefs,noRef,a,noRefs,Qaa];rfl) rfl ?_;have l:=h.l3;have c:(t.length=S.length)=True:=eq_true h.ln;have f:((t.length:Int)=(S.length:Int))=True:=eq_true (by rw[h.ln]);show wS _ _ _ _ _ (argT 0 [.agg [sliN S,exs xs,cos ks],sliN t]) _ _;unfold TQ.s202;refine ZcH (ZcI c f) ?_;refine Qat 100 (fun i:Nat=>[(2,.ptr 51 0 0),(13,sliN t),(14,.int .i64 t.length),(15,.int .i64 i)]) (fun _=>[(51,.cells 0 [sliN S,exs xs,cos ks])]) (fun i=>i<=t.length) (fun i=>t.length-i) 0 0 160 (fun _:Unit=>[]) (fun _=>[]) (fun _=>True) ?_ (Zaj _) ?_ ?_;·refine⟨[(51,.blk 64 0)],rfl,au0,?_,au18⟩;exact Zcj rfl rfl gg (Zca a) Zci
 ·rintro i hi;by_cases b:i<t.length
  ·obtain⟨x,g⟩:=Qaq b;obtain⟨n,k⟩:=Qaq (l:=S) (i:=i) (by rw[<-h.ln];exact b);have d:i<S.length:=by rw[<-h.ln];exact b
   have m:=h.lt i x n g k;have g1:¬(x:Int)<0:=by omega
   have g2:¬(n:Int)<=(x:Int):=by omega
   refine ZcH (ZcM b d (QaF g) (QaF k) g1 g2) ?_;refine⟨i+1,by omega,by omega,?_⟩;refine⟨[(51,.blk 51 0)],rfl,au0,?_,au18⟩;exact Zcj rfl rfl gg (Zca a) Zci
  refine ZcH b ?_;exact⟨(),⟨[],rfl,au0,au25,au18⟩⟩
 rintro _ _;refine ZcG ?_;exact⟨.inr trivial,_,rfl,rfl⟩
theorem Qqa{c:Cel}(h:WfCel c){t:List Nat}(m:InT (auL c.cs) t):TOk (szs c) t c.xs c.ks:=by
 have f:t.length=c.cs.length:=by rw[m.1,Qa3]
 have r:=h.c3;have a:=h.x2;have hk:=h.k1;refine⟨by rw[f,h.slen],by omega,fun _ _ x a=>m.lt (Qbh h) a,fun i x n hi d=>?_,fun x a=>⟨by have:=h.xlen a;omega,fun l o=>?_⟩,fun k hk=>⟨by have:=h.klen hk;omega,fun x a=>?_⟩,by omega,by omega⟩
 ·have g:i<c.cs.length:=by rw[<-f];exact(Zam.1 hi).1
  obtain⟨y,b⟩:=Qaq g;have h1:=m.2 i y.2 (by rw[ZaG,b];rfl);rw[Zak,hi]at h1;unfold szs at d;rw[ZaG,b]at d;simp only[Zbr,Zaa]at d;subst d;simpa using h1
 ·obtain⟨y,b,_⟩:=(h.xl x a).2.2 l o;rw[f];exact(Zam.1 b).1
 obtain⟨h1,_,q,p⟩:=(h.kl k hk).2.2.1 x a;exact⟨by rw[f];exact h1,q,p⟩
theorem checkT157(c:Cel)(h:WfCel c){t:List Nat}(d:InT (auL c.cs) t):PSpec Tryz.prog 157 [cdV (szs c) c.xs c.ks,sliN t] (.int .i64 0):=by have a:=@QbP (szs c) c.xs c.ks;refine Zcc 64 TQ.ok157 rfl (by rw[noRefs,noRef,a,noRefs,Qaa];rfl) rfl ?_;have h1:=conds32 c h;have b:=checkT202 (Qqa h d);show wS _ _ _ _ _ (argT 0 [.agg [sliN (szs c),exs c.xs,cos c.ks],sliN t]) _ _;unfold TQ.s157;refine ZcG ?_;refine cp h1 ?_;refine ZcG ?_;refine cp b ?_;refine ZcG ?_;exact⟨.inr trivial,_,rfl,rfl⟩
theorem QhI{α:Type}{q:α->Bool}{A:List α}:-1<=idxQ q A/\(0<=idxQ q A->idxQ q A<A.length):=by
 unfold idxQ;by_cases a:A.any q=true;·rw[if_pos a];have:A.findIdx q<A.length:=Zbk (by simpa using a);exact⟨by omega,fun _=>by omega⟩
 rw[if_neg a];exact⟨by omega,fun h=>by omega⟩
def vioV(t:List Nat)(xs:List (Nat×List (Nat×Nat)))(ks:List (List (Nat×Int)×Int)):Int×Int×Bool:=if idxQ (cdQ t) (cdA xs ks)<0 then(0,0,false)else if idxQ (cdQ t) (cdA xs ks)<xs.length then(1,idxQ (cdQ t) (cdA xs ks),true)else(2,idxQ (cdQ t) (cdA xs ks)-xs.length,true)
theorem violated73(c:Cel)(h:WfCel c){t:List Nat}(g:InT (auL c.cs) t):PSpec Tryz.prog 73 [cdV (szs c) c.xs c.ks,sliN t] (.tup [.int .i64 (vioV t c.xs c.ks).1,.int .i64 (vioV t c.xs c.ks).2.1,.bool (vioV t c.xs c.ks).2.2,.int .i64 0]):=by
 have b:=@QbP (szs c) c.xs c.ks;refine Zcc 64 TQ.ok73 rfl (by rw[noRefs,noRef,b,noRefs,Qaa];rfl) rfl ?_;have h1:=checkT157 c h g;have ho:=Qqa h g;have i:=conds159 (S:=szs c) ho.xn ho.kn;have m:=violated158 ho;have hle:=@QhI _ (cdQ t) (cdA c.xs c.ks);have k:=h.x2;have l:=h.k1;rw[QdR]at hle;unfold vioV;generalize idxQ (cdQ t) (cdA c.xs c.ks)=a at*;show wS _ _ _ _ _ (argT 0 [.agg [sliN (szs c),exs c.xs,cos c.ks],sliN t]) _ _;unfold TQ.s73;refine ZcG ?_;refine cp h1 ?_;refine ZcG ?_;refine cp i ?_;refine ZcG ?_;refine cp m ?_;by_cases d:a<0;·refine ZcH d ?_;exact⟨.inr trivial,_,rfl,rfl⟩
 by_cases f:a<c.xs.length;·refine ZcH (ZcI d f) ?_;exact⟨.inr trivial,_,rfl,rfl⟩
 have hw:wr .i64 (a-(c.xs.length:Int))=a-(c.xs.length:Int):=QfQ (by omega) (by omega);refine ZcH (ZcJ d f hw) ?_;exact⟨.inr trivial,_,rfl,rfl⟩
end Go.AM.SO
namespace Go.AM.TR
open Go.Proofs
set_option maxHeartbeats 4000000
noncomputable section
def cf:YA.Cf:={most:=.pure,always:=[28,69].map fun k=>(k,.heap)}
def s70:SFn:=by
 refine(?f:YA.Yt Tryz.prog cf 70 [[0,2,3],[8,9,10],[5],[12,13,14,15,11,16,17,18,19,20,21,22],[23],[1,4,5,24,25],[2,3,24,27,28,29,30,31,32,33,34,35,36,26,37,38,39,40,41,42,43],[44],[1,4,5,45,46],[2,3,1,5,45,47,48,49,50,51,52,53,54,55],[56,57,58],[],[62,63,64,65],[6,7,66,67,68,69,70,71,72],[73],[4,59,60,61,74]] [(9,[(4,6)])]) ?s ?h;case h=>exact YA.rr
 exact fun s _=>s
def s160:SFn:=by
 refine(?f:YA.Yt Tryz.prog cf 160 [[2,11,12,13,14,15,16,10,17,18,6],[5],[],[22,23,24],[25,26,27,28],[8,9,29,30,31],[37,38]]) ?s ?h;case h=>exact YA.rr
 exact fun s _=>s
theorem ok70:okFn Tryz.prog 70 s70=true:=by kernel_rfl
theorem ok160:okFn Tryz.prog 160 s160=true:=by kernel_rfl
end
end Go.AM.TR
namespace Go.AM
variable{P:Program}
theorem HRel.give{ok:Okc}{c:Ctx ok}{h:Heap}{w:World}(H:HRel c h w){b g len sz:Nat}{ds:List AV}(B:h.get b=some (.cells g ds))(P:noRefs ds=true)(S:ds.length=len*sz)(F:Nat.blt b 1099511627775=true):∃c2,Evo c w c2 w/\HRel c2 (h.set b (.dead g)) w/\(∀v,VRel c w (.sl b g 0 len sz) v->VRel c2 w (.fsl ds len sz) v)/\∀x v,noRef x=true->VRel c w x v->VRel c2 w x v:=by
 have l:b<1099511627775:=by simp_all
 have a:Live h b g:=⟨_,B,rfl,fun _=>by simp⟩;let c2:Ctx ok:={c with F:=fun k=>c.F k\/∃base,c.ρ b g=some (.loc k base),O:=fun k=>c.O k/\¬∃base,c.ρ b g=some (.loc k base)};have d:∀k,(h.set b (.dead g)).get k=if k=b then some (.dead g)else h.get k:=fun k=>by
  by_cases e:k=b;·subst e;rw[Qay l,if_pos rfl]
  simp_all[QaE]
 have s:∀k y,Live (h.set b (.dead g)) k y->k≠b/\Live h k y:=by
  rintro k y⟨x,hk,hg,A⟩;rw[d]at hk;split at hk;·grind
  rename_i e;exact⟨e,x,hk,hg,A⟩
 have E:=Evo.refl c w;have E2:Evo c w c2 w:=⟨E.os,E.tape,E.output,E.size,E.shape,E.keep,E.rho,fun k hk=>.inl (E.frz k hk),fun k hk=>by
  rcases hk with hk|⟨base,hk⟩;·simp_all
  exact .inr (.inl (H.owned a hk)),fun k hk=>E.own k hk.1,E.base⟩;refine⟨c2,E2,⟨fun k hk y=>?_,fun k x hk y p=>?_,fun k x hk=>?_,fun k y K T t base i l1 I p1 U=>H.inj k y K T t base i (s _ _ l1).2 (s _ _ I).2 p1 U,fun k f hO=>?_,fun k f=>?_,fun k hO=>H.inO k hO.1⟩,fun v V=>?_,fun x v N X=>Zb7 (c:=c) (c':=c2) (fun _ h=>.inl h) _ _ N X⟩
 ·rw[d]at hk;split at hk;·cases hk
  exact H.fresh k hk y
 ·rw[d]at hk;split at hk;·rename_i e;subst e;cases hk;exact H.later k _ B y p
  exact H.later k x hk y p
 ·rw[d]at hk;split at hk;·cases hk;trivial
  rename_i e;refine Zb6 (c:=c) (c':=c2) (w:=w) (w':=w) ⟨fun _ _ _ h=>h,fun _ h=>.inl h,fun _ _ _ h=>h,fun _ C _ G h=>⟨C,G,h,rfl⟩⟩ (fun t base A hp=>?_) (H.blk k x hk);have n:Live h k x.gen:=⟨x,hk,rfl,A⟩;exact⟨⟨H.owned n hp,fun⟨i,u⟩=>e (H.inj _ _ _ _ _ _ _ n a hp u)⟩,rfl⟩
 ·rcases f with f|f;·exact H.disj k f hO.1
  grind
 ·rcases f with f|⟨base,f⟩;·exact H.inF k f
  exact H.inO k (H.owned a f)
 simp only[VRel]at V;rcases V with⟨hp,rfl,_,rfl⟩|⟨t,base,o,cap,C,e,G,hp,rfl,L,Y,r⟩;·simp_all[VRel]
 obtain⟨C',e',M,hO,q,O,Q,m⟩:=H.here B hp;rw[Y]at q;cases q;have f:c2.F t:=.inr ⟨base,hp⟩;by_cases R:cap=0
 ·have z:len=0:=by omega
  subst z;have:ds=[]:=ZbK (by rw[S];simp);subst this;simp only[VRel];simp_all
 obtain⟨rfl,Z⟩:=r.resolve_left R;have J:=VPre.noRef2 (c:=c) (c':=c2) (fun _ h=>.inl h) P m;simp only[VRel];grind
theorem HSpec.give1{f b g len sz:Nat}{ds:List AV}{h:Heap}{v:AV}(S:PSpec P f [.fsl ds len sz] v)(k:h.get b=some (.cells g ds))(o:noRefs ds=true)(n:ds.length=len*sz)(d:Nat.blt b 1099511627775=true):HSpec P f [.sl b g 0 len sz] h v (h.set b (.dead g)):=by
 have m:=S;obtain⟨_,_,q,hc,_⟩:=S;refine⟨hc,fun c w a H r=>?_⟩;obtain⟨c2,E2,H2,V2,_⟩:=H.give k o n d;have i:VRels c2 w [.fsl ds len sz] a.toList:=by grind[VRels]
 refine((m.pure H2 i).2).mono ?_;rintro e s⟨l,p,rfl,E,H',V⟩;exact⟨l,p,rfl,E2.trans E,H',V⟩
end Go.AM
namespace Go.AM
variable{P:Program}
def tight(i:Nat)(f:FP):Prop:=f.all=false/\∀b,b∈f.R\/b∈f.W->b∈[i]
def wpRS(P:Program)(z:Nat):Nat->List SOper->Tmps->Heap->(Tmps->Heap->Nat->Prop)->Prop|n,[],T,h,K=>K T h n|n,s::r,T,h,K=>∃v h1 f,StepV P n s T h v h1 f/\(n=z->tight n f)/\wpRS P z (n+1) r (putD T s.dst v) h1 K
theorem Qkl{z:Nat}:∀{r:List SOper}{n:Nat}{T:Tmps}{h:Heap}{K:Tmps->Heap->Nat->Prop},z<n->wpR P n r T h K->wpRS P z n r T h K|[],n,T,h,K,_,hk=>hk|s::r,n,T,h,K,c,⟨v,h1,f,a,b⟩=>⟨v,h1,f,a,fun e=>by omega,Qkl (by omega) b⟩
theorem Qsm{s:SOper}{K:Tmps->Heap->Nat->Prop}:∀(k:Nat)(r:List SOper)(n:Nat)(T:Tmps)(h:Heap),r[k]?=some s->wpR P n (r.take k) T h (fun T1 h1 d=>∃v a f,StepV P d s T1 h1 v a f/\tight d f/\wpR P (d+1) (r.drop (k+1)) (putD T1 s.dst v) a K)->wpRS P (n+k) n r T h K:=by intro k;induction k with
 |zero=>intro r n T h e hw;cases r with|nil=>cases e|cons t r=>rw[Zbl,Zaa]at e;subst e;rw[List.take_zero]at hw;simp only[wpR]at hw;obtain⟨v,a,f,b,c,g⟩:=hw;rw[Zbe,Za9]at g;exact⟨v,a,f,b,fun _=>c,Qkl (by omega) g⟩
 |succ k i=>intro r n T h e hw;cases r with|nil=>cases e|cons t r=>rw[ZaX]at hw;simp only[wpR]at hw;obtain⟨v,h1,f,b,c⟩:=hw;refine⟨v,h1,f,b,fun e=>by omega,?_⟩;rw[show n+(k+1)=n+1+k by omega];exact i r (n+1) _ _ (by simpa using e) c
theorem Ql6{z:Nat}:∀{r:List SOper}{n:Nat}{T:Tmps}{h:Heap}{K:Tmps->Heap->Nat->Prop},wpRS P z n r T h K->∃T' h' n',K T' h' n'/\∀d,(∀s∈r,s.dst≠some d)->lk T' d=lk T d|[],n,T,h,K,hk=>⟨T,h,n,hk,fun _ _=>rfl⟩|s::r,n,T,h,K,⟨v,h1,f,c,_,a⟩=>by obtain⟨T',h',n',hk,he⟩:=Ql6 a;refine⟨T',h',n',hk,fun d b=>?_⟩;simp_all[Qbv]
def touch3(z i:Nat)(ax:Opd->Option (List Nat))(s:SOp):Option (List Nat):=bif Nat.beq i z then some [i]else touch2 i ax s
def touchesN(z:Nat)(C:Claims)(n:Nat)(T:Tmps):List SOper->Abs->List (Option (List Nat))|[],_=>[]|s::r,A=>touch3 z n (absO T A) s.op::touchesN z C (n+1) T r (match s.dst with|some d=>(d,absH C d (s.op.absV n (absO T A)))::A|none=>A)
theorem Ql7{T0:Tmps}{C:Claims}{z:Nat}:∀{r:List SOper}{n:Nat}{A:Abs}{T:Tmps}{h:Heap}{K:Tmps->Heap->Nat->Prop}(hA:AbsOK T0 A T)(K':List FP->Tmps->Heap->Nat->Prop)(l:∀T h n,K T h n->∀d bs,clm C d=some bs->Pts (lk T d) bs)(a:ssa C r=true),(∀fs T h n',fs.length=r.length->(∀(j:Nat)i,(touchesN z C n T0 r A).getD j none=some i->(fs.getD j ⟨false,[],[]⟩).all=false/\∀b,b∈(fs.getD j ⟨false,[],[]⟩).R\/b∈(fs.getD j ⟨false,[],[]⟩).W->b∈i)->K T h n'->K' fs T h n')->wpRS P z n r T h K->wpRF P n r T h K'
 |[],n,A,T,h,K,hA,K',l,a,p,hw=>p [] T h n rfl (fun j i c=>by simp_all) hw|s::r,n,A,T,h,K,hA,K',l,a,p,hw=>by
  obtain⟨v,h1,f,t,B,u⟩:=hw;simp only[ssa,Zab]at a;obtain⟨g,m⟩:=a;refine⟨v,h1,f,t,?_⟩;have q:AbsOK T0 (match s.dst with|some d=>(d,absH C d (s.op.absV n (absO T0 A)))::A|none=>A) (putD T s.dst v):=by cases e:s.dst with|none=>exact hA|some d=>
   refine AbsOK.up hA fun bs k=>?_;unfold absH at k;split at k
   ·rename_i x hc;cases k;obtain⟨T',E,n',hk,he⟩:=Ql6 u;have w:=l T' E n' hk d _ hc;rw[he d ?_,Qbv,if_pos e]at w;·exact w
    intro F o;rw[e]at g;simp only[hc,Option.isNone_some,Bool.false_or,ZaD]at g;have:=g F o;intro G;simp_all
   exact Qe5 hA.opd k t
  refine Ql7 q (fun fs T h n=>K' (f::fs) T h n) l m (fun fs T h n' y hf hk=>?_) u;refine p (f::fs) T h n' (by simp[y]) (fun j i c=>?_) hk;cases j with
  |zero=>simp only[touchesN,List.getD_cons_zero]at c⊢;unfold touch3 at c;cases e:Nat.beq n z with|true=>rw[e]at c;simp only[cond_true,Zaa]at c;subst c;exact B (by simpa using e)|false=>rw[e]at c;exact Qf2 hA.opd c t
  |succ j=>simp only[touchesN,List.getD_cons_succ]at c⊢;exact hf j i c
def NewAt(P:Program)(N:NM)(x:Opd)(ag:List Opd)(d:Option Nat)(r:List SOper)(n:Nat)(T:Tmps)(h:Heap)(Q:QC):Prop:=∃f a len sz,ev T x=.fn f [] []/\NSpec P f (evs T ag) a len sz/\noRefs a=true/\n<lim/\h.get n=none/\wR P N r [] [] (n+1) (putD T d (.sl n 0 0 len sz)) (h.set n (.cells 0 a)) Q
theorem Qoo(C:Claims)(k:Nat){x:Opd}{ag:List Opd}{d:Option Nat}{N:NM}{ops:List SOper}{p:Nat×Nat}{u:List (Nat×Nat)}{dead:List Nat}{fs:List Fr}{n:Nat}{T:Tmps}{h:Heap}{Q:QC}{af:List Nat}(hk:ops[k]?=some ⟨d,.call .heap x ag,af,none⟩)(i:ssa C ops=true)(hp:pairsOK (touchesN (n+k) C n T ops []) (p::u)=true)(hw:wR P N (ops.take k) [] [] n T h fun e T h n=>NewAt P N x ag d (ops.drop (k+1)) n T h fun e T h n=>Clms T C/\wX P N .normal fs n (rm T dead) h Q):wS P N (.region ops (p::u) dead) fs n T h Q:=by
 have rm0:∀T:Tmps,rm T []=T:=by intro T;induction T with|nil=>rfl|cons p T m=>obtain⟨j,v⟩:=p;simp[rm,m]
 refine Ql7 (C:=C) (z:=n+k) (K:=fun T h n=>Clms T C/\wX P N .normal fs n (rm T dead) h Q) AbsOK.nil _ (fun T h n hk d w hc=>hk.1.get d w hc) i (fun M T h U V hf hk=>⟨?_,hk.2⟩) ?_
 ·rw[ZaD];intro q B;have:=ZaD.1 hp q B;split at this
  ·rename_i a b E o;obtain⟨f1,f2⟩:=hf _ _ E;obtain⟨g1,g2⟩:=hf _ _ o;have R:∀x y,x∈a->y∈b->x≠y:=by grind
   have S:∀xs g:List Nat,(∀x∈xs,∀y∈g,x≠y)->disj xs g=true:=by intro xs g t;unfold disj;grind
   grind[FP.apart]
  cases this
 refine Qsm k ops n T h hk ?_;have l:wpR P n (ops.take k) T h fun T h n=>NewAt P N x ag d (ops.drop (k+1)) n (rm T []) h fun e T h n=>Clms T C/\wX P N .normal fs n (rm T dead) h Q:=hw;simp only[rm0]at l;have mono:∀{r:List SOper}{n:Nat}{T:Tmps}{h:Heap}{K K':Tmps->Heap->Nat->Prop},(∀T h n,K T h n->K' T h n)->wpR P n r T h K->wpR P n r T h K':=by intro r;induction r with|nil=>intro n T h K K' hi hw;exact hi _ _ _ hw|cons s r m=>intro n T h K K' hi hw;obtain⟨v,h1,f,z,G⟩:=hw;exact⟨v,h1,f,z,m hi G⟩
 refine mono (fun T1 h1 c t=>?_) l;obtain⟨f,g,len,sz,O,H,J,L,I,F⟩:=t;refine⟨.sl c 0 0 len sz,h1.set c (.cells 0 g),⟨false,[c],[c]⟩,?_,⟨rfl,fun b o=>?_⟩,?_⟩;·refine⟨.call .heap f (evs T1 ag),h1,?_,.inr (.inr (.inl ⟨evs T1 ag,[],.inl ⟨rfl,rfl⟩,.inl ⟨g,len,sz,H,.inr ⟨J,rfl⟩,L,I,rfl,rfl,rfl⟩⟩))⟩;simp_all[aop,aCall,HM.run]
 ·simpa using o
 have A:wpR P (c+1) (ops.drop (k+1)) (putD T1 d (.sl c 0 0 len sz)) (h1.set c (.cells 0 g)) fun T h n=>Clms (rm T []) C/\wX P N .normal fs n (rm (rm T []) dead) h Q:=F;simp_all
end Go.AM
namespace Go.AM.SO
open Go.Proofs Go.AM.SD Go.AM.SE
theorem short25(p:Pln)(h:POk p)(c:p.xn<=9223372036854775807):PSpec Tryz.prog 25 [plnV p] (.bool (decide (p.xn<=4))):=by refine Zcc 64 ok25 rfl (by simp only[noRefs,noRef,SU.Qfh];rfl) rfl ?_;have hlen:=SU.QiS h;have b:=SU.QiT h;have a:(plnC p)[147]?=some (.fsl (u8s p.X) p.xn 4):=SU.QeL h (k:=0);show wS _ _ _ _ _ (argT 0 [.agg (plnC p)]) _ _;generalize plnC p=C at*;have e:decide ((p.xn:Int)<=4)=decide (p.xn<=4):=decide_eq_decide.2 (by omega);unfold s25;refine ZcF (ZcK hlen b a e) ?_;exact⟨.inr trivial,_,rfl,rfl⟩
end Go.AM.SO
namespace Go.AM.SO
open Go.Proofs Go.AM.SD Go.AM.SE
theorem Qqb{l:List Aut}{ev:List Nat}:∀{k i:Nat}{s:List (List Nat)×List Ed},(pQ l ev k i s).2.length<=s.2.length+k*ev.length|0,_,s=>by simp[pQ]|k+1,i,s=>by unfold pQ;cases s.1[i]? with|none=>dsimp only;omega|some t=>have h1:=Qqb (l:=l) (ev:=ev) (k:=k) (i:=i+1) (s:=pRow l ev i t s);have a:=Qeg (l:=l) (i:=i) (t:=t) (ev:=ev) (s:=s);have b:(k+1)*ev.length=k*ev.length+ev.length:=Zbb ..;dsimp only;omega
theorem Qj5(x:Aut):autB x x=true:=by simp[autB]
theorem QhJ{l:List Aut}(h:∀a∈l,WfI a)(f:l.length<=5):AOk (syncA l)/\(sync0 l).1.length<=243/\∀t∈(sync0 l).1,t.length<=5:=by
 have hw:∀a∈l,∀e∈a.es,e.1<a.n/\e.2.2<a.n:=fun a c=>(h a c).wf.esn;have b:∀a∈l,0<a.n:=fun a c=>(h a c).pos;have d:box l<=243:=Zay (Qp4 (fun a c=>(h a c).n3) (by omega)) (Nat.pow_le_pow_right (n:=3) (by omega) f);have k:=Ql2 b hw;have i:=Qsc h;have he:(sync0 l).2.length<=244*5:=by refine Zay Qqb ?_;have:=Nat.mul_le_mul (show box l+1<=244 by omega) i;simpa using this
 refine⟨⟨by show(evA l).length<=_;omega,?_,by show(sync0 l).2.length<=_;omega⟩,by omega,fun t g=>?_⟩;·have :=@Qkg l (sync0 l).1 (sync0 l).1.length;show(marks l (sync0 l).1 (sync0 l).1.length).length<=_;omega
 have :=((QeN b hw).inT t g).1;omega
end Go.AM.SO
namespace Go.AM.SO
open Go.Proofs Go.AM.SD Go.AM.SE
theorem Qsn:allK 72 1 []=true:=by kernel_rfl
theorem Qso:allK 72 2 []=true:=by kernel_rfl
theorem Qsp:allK 72 3 []=true:=by kernel_rfl
theorem key72{c:Cel}(h:WfCel c){t:List Nat}(a:InT (auL c.cs) t):PSpec Tryz.prog 72 [sliN t] (.str (keyT t)):=by have f:=h.c0;have g:=h.c3;have d:=a.1;rw[Qa3]at d;refine Qiw (QeP (u:=[]) ?_ fun x b=>a.lt (Qbh h) b);grind[Qsn,Qso,Qsp]
def allA(c:Cel):List Aut:=auL c.cs++auL c.rs
theorem QdS{c:Cel}(h:WfCel c):∀a∈allA c,WfI a:=fun a b=>by
 unfold allA at b;rcases ZaE.1 b with b|b;·exact Qbh h a b
 obtain⟨x,d,rfl⟩:=Zao.1 b;exact h.ra x d
theorem Qcn{c:Cel}:(allA c).length=c.cs.length+c.rs.length:=by simp[allA]
theorem Qrg:allK 98 3 [0]=true:=by kernel_rfl
theorem Qrh:allK 98 3 [1]=true:=by kernel_rfl
theorem Qri:allK 98 3 [2]=true:=by kernel_rfl
theorem Qqc:allK 98 3 [0,0]=true:=by kernel_rfl
theorem Qqd:allK 98 3 [0,1]=true:=by kernel_rfl
theorem Qqe:allK 98 3 [0,2]=true:=by kernel_rfl
theorem Qqf:allK 98 3 [1,0]=true:=by kernel_rfl
theorem Qqg:allK 98 3 [1,1]=true:=by kernel_rfl
theorem Qqh:allK 98 3 [1,2]=true:=by kernel_rfl
theorem Qqi:allK 98 3 [2,0]=true:=by kernel_rfl
theorem Qqj:allK 98 3 [2,1]=true:=by kernel_rfl
theorem Qqk:allK 98 3 [2,2]=true:=by kernel_rfl
theorem key98w4{a:Nat}(h:a<3):allK 98 3 [a]=true:=by
 obtain rfl|rfl|rfl:a=0\/a=1\/a=2:=by omega
 ·exact Qrg
 ·exact Qrh
 exact Qri
theorem key98w5{a b:Nat}(h:a<3)(c:b<3):allK 98 3 [a,b]=true:=by
 obtain rfl|rfl|rfl:a=0\/a=1\/a=2:=by omega
 ·obtain rfl|rfl|rfl:b=0\/b=1\/b=2:=by omega
  ·exact Qqc
  ·exact Qqd
  exact Qqe
 ·obtain rfl|rfl|rfl:b=0\/b=1\/b=2:=by omega
  ·exact Qqf
  ·exact Qqg
  exact Qqh
 obtain rfl|rfl|rfl:b=0\/b=1\/b=2:=by omega
 ·exact Qqi
 ·exact Qqj
 exact Qqk
theorem Qsq{c:Cel}(h:WfCel c)(t:List Nat)(l:InT (allA c) t):PSpec Tryz.prog 98 [sliN t] (.str (keyT t)):=by
 have o:=h.c0;have n:=h.c3;have m:=h.r2;have k:=l.1;have g:∀x∈t,x<3:=fun x g=>l.lt (QdS h) g;rw[Qcn]at k;by_cases i:t.length<=3;·grind[key98]
 match t,k,g,i with|[_,_,_],_,_,i=>exact absurd (by simp) i|[a,b,d,e],k,g,_=>exact Qiw (QeP (t:=[b,d,e]) (u:=[a]) (key98w4 (g a (by simp))) fun x h=>g x (by simp_all))|[a,b,d,e,f],k,g,_=>exact Qiw (QeP (t:=[d,e,f]) (u:=[a,b]) (key98w5 (g a (by simp)) (g b (by simp))) fun x h=>g x (by simp_all))|[],_,_,i=>exact absurd (by simp) i|[_],_,_,i=>exact absurd (by simp) i|[_,_],_,_,i=>exact absurd (by simp) i|_::_::_::_::_::_::_,k,_,_=>simp at k;omega
end Go.AM.SO
namespace Go.AM.SO
open Go.Proofs Go.AM.SD Go.AM.SE
theorem auto69H{ch:UInt8}(l:List (Nat×Aut))(k:l.length<=1000):HSpec Tryz.prog 69 [its ch l] .e (.sl 60 0 0 l.length 4) (hp [(60,.cells 0 ((auL l).flatMap auC))]):=by
 refine HSpec.QbN 100 TP.ok69 rfl ?_;have h:=@SU.QaB ch l;unfold TP.s69;refine ZcG ?_;refine Qat 100 (fun i:Nat=>[(3,.sl 60 0 0 i 4),(6,its ch l),(7,.int .i64 l.length),(8,.int .i64 i)]) (fun i=>[(60,.cells 0 ((auL (l.take i)).flatMap auC))]) (fun i=>i<=l.length) (fun i=>l.length-i) 0 0 160 (fun _:Unit=>[(3,.sl 60 0 0 l.length 4)]) (fun _=>[(60,.cells 0 ((auL l).flatMap auC))]) (fun _=>True) ?_ (Zaj _) ?_ ?_;·refine⟨[(60,.nil)],rfl,au0,?_,au24⟩;exact Zck rfl rfl Zci
 ·rintro i hi;by_cases a:i<l.length
  ·obtain⟨x,g⟩:=Qaq a;have b:=SU.Qdj (ch:=ch) g;have c:5<=((l.flatMap (itC ch)).drop (i*5)).length:=by rw[b];simp
   have d:(auL (l.take i)).length=i:=by rw[Qa3,Zas];omega
   have f:((auL (l.take i)).flatMap auC).length=i*4:=by rw[Qgi,d]
   refine ZcF (ZcP a b c f @Qaa @Qaj @Qac @Qad @Qae) ?_;refine⟨i+1,by omega,by omega,?_⟩;rw[take_succ' g];show Rec _ _ [(60,.cells 0 ((List.map (fun x:Nat×Aut=>x.2) (l.take i++[x])).flatMap auC))] _ _;rw[ZaN,Zaq,Qp8];refine⟨[(60,.blk 60 1)],rfl,au0,?_,au24⟩;exact Zcj rfl rfl gg (Zca (SU.Qaw (QaX _) (QaX [x.2]))) Zci
  have e:i=l.length:=by omega
  subst e;refine ZcB a ?_;refine⟨(),?_⟩;refine⟨[(60,.blk 60 0)],rfl,au0,?_,au24⟩;exact Zcj rfl rfl gg (Zca (QaX _)) Zci
 rintro _ _;refine ZcG ?_;refine⟨.inr trivial,_,rfl,?_⟩;refine⟨[(60,.blk 60 0)],rfl,au0,?_,au24⟩;exact Zcj rfl rfl gg (Zca (QaX _)) Zci
theorem Qrj(c:Cel)(h:WfCel c):PSpec Tryz.prog 28 [auts (allA c)] (.tup [aV (syncA (allA c)),tuV (sync0 (allA c)).1,.int .i64 0]):=by have d:=h.c0;have b:=h.c3;have a:=h.r2;exact sync28 (allA c) (QdS h) (by rw[Qcn];omega) (by rw[Qcn];omega) (Qsq h)
abbrev stG(c:Cel)(p q:Aut)(P T:List (List Nat)):List AV:=[evsV c.ev,its 99 c.cs,its 114 c.rs,exs c.xs,cos c.ks,sliN p.al,.int .i64 (p.n:Int),sliN p.ms,egsN p.es,tuV P,sliN q.al,.int .i64 (q.n:Int),sliN q.ms,egsN q.es,tuV T,sliN (szs c),exs c.xs,cos c.ks,fmapG keyC (ixV P) P]
def stC(c:Cel):List AV:=stG c (syncA (auL c.cs)) (syncA (allA c)) (sync0 (auL c.cs)).1 (sync0 (allA c)).1
abbrev stP(c:Cel)(p q:Aut)(P T:List (List Nat)):List AV:=[evsV c.ev,its 99 c.cs,its 114 c.rs,exs c.xs,cos c.ks,sliN p.al,.int .i64 (p.n:Int),sliN p.ms,egsN p.es,tuV P,sliN q.al,.int .i64 (q.n:Int),sliN q.ms,egsN q.es,tuV T,sliN (szs c),exs c.xs,cos c.ks]
theorem Qfq(c:Cel)(p q:Aut)(P T:List (List Nat)):noRefs (stP c p q P T)=true:=by have h1:=SU.Qbl c;rw[celV,noRef]at h1;simp only[noRefs,Zab,Zac]at h1;obtain⟨a,a2,a3,a4,a5⟩:=h1;simp only[noRefs,a,a2,a3,a4,a5,Qaa,Qaj,Qb2];rfl
theorem Qer(c:Cel)(p q:Aut)(P T:List (List Nat)):noRefs (stG c p q P T)=true:=by have h1:=SU.Qbl c;rw[celV,noRef]at h1;simp only[noRefs,Zab,Zac]at h1;obtain⟨a,a2,a3,a4,a5⟩:=h1;simp only[noRefs,a,a2,a3,a4,a5,Qaa,Qaj,Qb2];rw[show noRef (fmapG keyC (ixV P) P)=true by rw[fmapG,noRef,Qav (fun _=>rfl),Qav (fun _=>rfl)];rfl];rfl
theorem open70(c:Cel)(h:WfCel c):PSpec Tryz.prog 70 [celV c] (.tup [.fptr (stC c),.int .i64 0]):=by
 have B:=Qcc c;have u:noRef (.tup [.fptr (stC c),.int .i64 0])=true:=by rw[noRef,noRefs,noRef,stC,Qer];rfl
 refine Zcb 64 TR.ok70 rfl (by rw[noRefs,SU.Qbl];rfl) u ?_;have J:=h.c3;have z:=h.r2;have I:=plant17 c h;have hA:=auto69H (ch:=99) c.cs (by omega);have G:=automata69 (ch:=114) c.rs (by omega);have y:=Qrj c h;have F:=conds85 c h;have b:=QeN (fun a m=>(Qbh h a m).pos) fun a m=>(Qbh h a m).wf.esn;have C:=QhJ (Qbh h) (by rw[Qa3];omega);have k:=Qb2 (sync0 (auL c.cs)).1;have n:((auL c.cs).flatMap auC).length=c.cs.length*4:=by rw[Qgi,Qa3]
 have o:((auL c.rs).flatMap auC).length=c.rs.length*4:=by rw[Qgi,Qa3]
 have v:(auL c.rs).length=c.rs.length:=Qa3;have g:((auL c.rs).flatMap auC).all AV.one=true:=Qfi (fun _=>rfl) _;have s:PSpec Tryz.prog 28 [.fsl ((auL c.cs).flatMap auC++(auL c.rs).flatMap auC) (c.cs.length+c.rs.length) 4] (.tup [aV (syncA (allA c)),tuV (sync0 (allA c)).1,.int .i64 0]):=by rw[<-Zaq,<-Qcn];exact y
 clear y;rw[stC];generalize syncA (auL c.cs)=p at*;generalize syncA (allA c)=q at*;generalize(sync0 (auL c.cs))=E at*;generalize(sync0 (allA c)).1=T at*;obtain⟨P,es⟩:=E;dsimp only at*;unfold TR.s70;refine ZcG ?_;refine cp I ?_;refine ZcG ?_;refine Qoo [] 4 (x:=.f 69) (ag:=[.t 30]) (d:=some 31) rfl rfl rfl ?_;refine ZcG ?_;refine⟨69,(auL c.cs).flatMap auC,c.cs.length,4,rfl,⟨hA.1,by show noRefs [its 99 c.cs]=true;rw[noRefs,SU.QaB];rfl,60,0,0,_,_,rfl,Zaj _,gg,hA⟩,QaX _,by decide,gg,?_⟩;refine ZcG ?_;refine ch (PSpec.toH G _) ?_;refine ZcH (ZcK n o v g) ?_;refine ch (HSpec.give1 (g:=1) s gg (SU.Qaw (QaX _) (QaX _)) (by rw[Zaf,n,o];omega) rfl) ?_;refine ZcG ?_;refine⟨trivial,?_⟩;refine cp F ?_;refine ZcG ?_;refine Qat 200 (fun i:Nat=>[(4,.ptr 52 0 0),(59,tuV P),(60,.int .i64 P.length),(61,.int .i64 i)]) (fun i=>[(52,.cells 0 [evsV c.ev,its 99 c.cs,its 114 c.rs,exs c.xs,cos c.ks,sliN p.al,.int .i64 (p.n:Int),sliN p.ms,egsN p.es,tuV P,sliN q.al,.int .i64 (q.n:Int),sliN q.ms,egsN q.es,tuV T,sliN (szs c),exs c.xs,cos c.ks,.map 53 0]),(53,.map 0 (mapG keyC (ixV P) (P.take i)))]) (fun i=>i<=P.length) (fun i=>P.length-i) 0 0 260 (fun _:Unit=>[(4,.ptr 52 0 0)]) (fun _=>[(52,.cells 0 [evsV c.ev,its 99 c.cs,its 114 c.rs,exs c.xs,cos c.ks,sliN p.al,.int .i64 (p.n:Int),sliN p.ms,egsN p.es,tuV P,sliN q.al,.int .i64 (q.n:Int),sliN q.ms,egsN q.es,tuV T,sliN (szs c),exs c.xs,cos c.ks,fmapG keyC (ixV P) P])]) (fun _=>True) ?_ (Zaj _) ?_ ?_;·refine⟨[(52,.blk 69 0),(53,.blk 116 0)],rfl,RO.set rfl (RO.set rfl Zcf),?_,Zch (Rn.x2 rfl rfl) (Zch (Zb9 k) au24)⟩;exact Zcj rfl rfl gg (RnL.append (xs:=stP c p q P T) (ys:=stP c p q P T) (Zca (Qfq c p q P T)) (RnL.one (Rn.x3 rfl rfl))) (Zcl rfl rfl gg (Zcx fun _ _=>⟨rfl,rfl⟩) Zci)
 ·rintro i hi;by_cases d:i<P.length
  ·obtain⟨t,l⟩:=Qaq d;have f:=b.inT t (Zae l);have hk:=key72 h f;have r:t∉P.take i:=fun hm=>by have z:ixT (P.take i) t=i:=(Qgw (List.take_prefix i P) hm).trans (Qp7 b.nd l);have A:=Qix hm;rw[z,Zas]at A;omega
   have w:updG (ixV P) t (.int .i64 ((i:Nat):Int))=ixV P:=by
    funext x;unfold updG;split;·rename_i e;subst e;unfold ixV;rw[Qp7 b.nd l]
    rfl
   refine ZcH (ZcI d (QnI l)) ?_;refine cp hk ?_;refine ZcG ?_;refine Qck (c:=keyC) (f:=ixV P) (x:=t) (l:=P.take i) (g:=0) gg (Qgj (fun a m=>(Qbh h a m).j) f fun x H=>b.inT x (ZaU H)) r (by omega) ?_;rw[w];refine ZcG ?_;refine⟨i+1,by omega,by omega,?_⟩;rw[take_succ' l];refine⟨[(52,.blk 52 0),(53,.blk 53 0)],rfl,Zcf,?_,Zch (Rn.x2 rfl rfl) (Zch (Zb9 k) au24)⟩;exact Zcj rfl rfl gg (RnL.append (xs:=stP c p q P T) (ys:=stP c p q P T) (Zca (Qfq c p q P T)) (RnL.one (Rn.x3 rfl rfl))) (Zcl rfl rfl gg (Zcx fun _ _=>⟨rfl,rfl⟩) Zci)
  have e:i=P.length:=by omega
  subst e;refine ZcB d ?_;refine⟨(),[(52,.blk 52 0)],rfl,Zcf,?_,Zch (Rn.x2 rfl rfl) Zcg⟩;exact Zcj rfl rfl gg (RnL.append (xs:=stP c p q P T) (ys:=stP c p q P T) (Zca (Qfq c p q P T)) (RnL.one (Rn.fzM (b:=53) (g:=0) gg rfl rfl fun _ _=>⟨rfl,rfl⟩))) Zci
 rintro _ _;refine ZcG ?_;refine⟨.inr trivial,_,rfl,?_⟩;refine Rn.tup (Zcp ?_ (Zca rfl));exact Rn.frzp (b:=52) (g:=0) rfl (Zaj _) (fun K L _ e=>by simp[π0]at e) (by simp) (Zca (Qer c p q P T))
end Go.AM.SO
namespace Go.AM.SO
open Go.Proofs Go.AM.SD Go.AM.SE
structure WfB(a:Aut):Prop extends WfA a where
 a5:∀x∈a.al,x<5
 nb:a.n<=243
theorem WfB.el{a:Aut}(h:WfB a):a.es.length<=1220:=by have:=WfA.elK h.toWfA h.a5;have:=h.nb;omega
theorem check112B(a:Aut)(h:WfA a):PSpec Tryz.prog 112 [aV a] (.int .i64 0):=check112 a h (by have:=WfA.el1 h;omega)
theorem Qi1{l:List Aut}{ev:List Nat}{T:List (List Nat)}{j:Nat}{t:List Nat}{x:Ed}(h:x∈rowE l ev T j t):x.1=j/\x.2.1∈ev/\∃n,stepT l t x.2.1=some n/\x.2.2=ixT T n:=by unfold rowE at h;obtain⟨e,he,a⟩:=ZbF.1 h;cases b:stepT l t e with|none=>rw[b]at a;cases a|some n=>rw[b]at a;simp only[Zbr,Zaa]at a;subst a;exact⟨rfl,he,n,b,rfl⟩
theorem Qha{l:List Aut}{T:List (List Nat)}{j:Nat}{t:List Nat}:∀{ev:List Nat},ev.Pairwise (·<·)->(rowE l ev T j t).Pairwise fun x y=>x.1<y.1\/(x.1=y.1/\x.2.1<y.2.1)|[],_=>by simp[rowE]|e::ev,h=>by rw[Zav]at h;have a:=Qha (l:=l) (T:=T) (j:=j) (t:=t) h.2;unfold rowE at a⊢;rw[Zbz];cases d:stepT l t e with|none=>exact a|some n=>simp only[Zbr];rw[Zav];refine⟨fun y c=>?_,a⟩;obtain⟨h1,b,_⟩:=Qi1 (l:=l) (T:=T) (j:=j) (t:=t) (ev:=ev) (by unfold rowE;exact c);exact .inr ⟨h1.symm,h.1 _ b⟩
theorem Qhb{f:Nat->List Ed}(hf:∀j,(f j).Pairwise (fun x y=>x.1<y.1\/(x.1=y.1/\x.2.1<y.2.1))/\∀x∈f j,x.1=j):∀i,((List.range i).flatMap f).Pairwise fun x y=>x.1<y.1\/(x.1=y.1/\x.2.1<y.2.1)|0=>by simp|i+1=>by rw[ZaI,Zaq,Zax,ZbZ,Zap,Zba];refine⟨Qhb hf i,(hf i).1,fun x a y c=>?_⟩;obtain⟨j,b,a⟩:=Zbt.1 a;have:=Zat.1 b;rw[(hf j).2 x a,(hf i).2 y c];exact .inl this
theorem Qfr{l:List Aut}(h:∀a∈l,WfI a)(w:l.length<=5):WfB (syncA l):=by
 have hw:∀a∈l,∀e∈a.es,e.1<a.n/\e.2.2<a.n:=fun a d=>(h a d).wf.esn;have g:∀a∈l,0<a.n:=fun a d=>(h a d).pos;have o:=Qke g hw;obtain⟨ho,b,_⟩:=QhJ h w;have f:∀e∈(sync0 l).2,e.2.1∈evA l/\e.1<(sync0 l).1.length/\e.2.2<(sync0 l).1.length:=fun e he=>by rw[o.ed]at he;obtain⟨j,k,he⟩:=Zbt.1 he;have k:=Zat.1 k;obtain⟨h1,q,n,s,v⟩:=Qi1 he;obtain⟨t,u⟩:=Qaq k;rw[Zak,u]at s;have hm:=o.cl j t k u _ q n s;exact⟨q,by omega,by rw[v];exact Qix hm⟩
 have r:∀x∈evA l,x<5:=fun x c=>by
  have i:x∈uUp (l.map fun a=>(0,a)):=by rw[<-QeO];exact c
  rw[Qgu fun y p=>by obtain⟨a,d,rfl⟩:=Zao.1 p;exact h a d]at i;obtain⟨y,p,m⟩:=i;obtain⟨a,d,rfl⟩:=Zao.1 p;exact(h a d).a5 x m
 refine⟨⟨Qit h,fun x c=>by have:=r x c;omega,Zay b (by decide),?_,fun x c=>?_,?_,fun e he=>⟨(f e he).2.1,(f e he).2.2⟩,fun e he=>(f e he).1⟩,r,b⟩;·exact List.pairwise_lt_range.filter _
 ·exact Zat.1 (Za8.1 c).1
 show(sync0 l).2.Pairwise _;rw[o.ed];exact Qhb (fun j=>⟨Qha (Qit h),fun x c=>(Qi1 c).1⟩) _
theorem out199(a:Aut)(v:Nat)(h:WfA a)(b:v<=100000):PSpec Tryz.prog 199 [aV a,.int .i64 (v:Int)] (egsN (sOut a.es (fun _=>true) v)):=out58 a v h (by have:=WfA.el1 h;omega) (by omega)
end Go.AM.SO
namespace Go.AM.SO
open Go.Proofs Go.AM.SD Go.AM.SE
theorem state207(a:Aut)(v:Nat)(h:WfA a)(b:v<a.n):PSpec Tryz.prog 207 [aV a,.int .i64 (v:Int)] (.int .i64 0):=by
 refine Zcc 64 TQ.ok207 rfl (by(try simp only[noRefs,Qab,Qai,Qaf,noRef,noRefs,Zad,Zac])<;>rfl) rfl ?_;have hc:=check112B a h;have g1:¬(v:Int)<0:=by omega
 have g2:¬(a.n:Int)<=(v:Int):=by omega
 unfold TQ.s207;refine ZcG ?_;refine cp hc ?_;refine ZcH (ZcI g1 g2) ?_;exact⟨.inr trivial,_,rfl,rfl⟩
def evO(a:Aut)(v:Nat):List Nat:=(sOut a.es (fun _=>true) v).map (·.2.1)
theorem enabled161(a:Aut)(v:Nat)(h:WfA a)(l:v<a.n):PSpec Tryz.prog 161 [aV a,.int .i64 (v:Int)] (.tup [sliN (evO a v),.int .i64 0]):=by
 have m:=h.n5;have b:noRef (.tup [sliN (evO a v),.int .i64 0])=true:=by rw[noRef,noRefs,Qaa];rfl
 refine Zcb 64 TQ.ok161 rfl (by(try simp only[noRefs,Qab,Qai,Qaf,noRef,noRefs,Zad,Zac])<;>rfl) b ?_;have hc:=state207 a v h l;have ho:=out199 a v h (by omega);have k:(sOut a.es (fun _=>true) v).length<=131072:=Zay (Za3 ..) (WfA.el1 h);unfold evO at b⊢;generalize sOut a.es (fun _=>true) v=o at*;unfold TQ.s161;refine ZcG ?_;refine cp hc ?_;refine ZcG ?_;refine cp ho ?_;refine ZcG ?_;refine Qat 120 (fun i:Nat=>[(7,.sl 60 0 0 i 1),(18,egsN o),(19,.int .i64 o.length),(20,.int .i64 i)]) (fun i=>[(60,.cells 0 (ints (nz ((o.take i).map (·.2.1)))))]) (fun i=>i<=o.length) (fun i=>o.length-i) 0 0 180 (fun _:Unit=>[(7,sliN (o.map (·.2.1)))]) (fun _=>[]) (fun _=>True) ?_ (Zaj _) ?_ ?_;·refine⟨[(60,.nil)],rfl,au0,?_,au24⟩;exact Zck rfl rfl Zci
 ·rintro i hi;by_cases c:i<o.length
  ·obtain⟨e,he⟩:=Qaq c;have d:=QaJ he;have f:3<=((o.flatMap edC).drop (i*3)).length:=by rw[d];simp
   have g:(ints (nz ((o.take i).map (·.2.1)))).length=i:=by simp[ints];omega
   refine ZcH (ZcK c d f g) ?_;refine⟨i+1,by omega,by omega,?_⟩;rw[take_succ' he,ZaN,QaH,QaA];refine⟨[(60,.blk 60 1)],rfl,au0,?_,au24⟩;exact Zcj rfl rfl gg (Zca (SU.Qaw (Qab _) rfl)) Zci
  have e:i=o.length:=by omega
  subst e;refine ZcB c ?_;exact⟨(),[],rfl,Zcf,Zci,Zch (Zcq (b:=60) (g:=0) gg rfl rfl (by simp) (by simp[ints]) (Zca (Qab _))) Zcg⟩
 rintro _ _;refine ZcG ?_;exact⟨.inr trivial,_,rfl,Zb9 b⟩
theorem ev262(x:Ed)(e:Nat):PSpec Tryz.prog 262 [.agg [.int .i64 (x.1:Int),.int .i64 (x.2.1:Int),.int .i64 (x.2.2:Int)],.fptr [.int .i64 (e:Int)]] (.bool (decide (x.2.1=e))):=by refine Zcc 64 TQ.ok262 rfl rfl rfl ?_;have a:decide ((x.2.1:Int)=(e:Int))=decide (x.2.1=e):=decide_eq_decide.2 (by omega);unfold TQ.s262;refine ZcH a ?_;exact⟨.inr trivial,_,rfl,rfl⟩
theorem Ql8{α:Type}{q:α->Bool}:∀l:List α,l.find? q=l[l.findIdx q]?|[]=>rfl|x::l=>by rw[List.find?_cons,List.findIdx_cons];cases q x with|true=>rfl|false=>simpa using Ql8 l
def nxI(a:Aut)(v e:Nat):Int:=match stepA a.es v e with|some t=>(t:Int)|none=>-1
theorem Qgk(es:List Ed)(v e:Nat):stepA es v e=((sOut es (fun _=>true) v).find? fun x=>decide (x.2.1=e)).map (·.2.2):=by unfold stepA sOut;rw[List.find?_filter];congr 2;funext x;by_cases h:x.2.1=e<;>by_cases a:x.1=v<;>simp[h,a]
theorem next226(a:Aut)(v e:Nat)(h:WfA a)(p:v<a.n):PSpec Tryz.prog 226 [aV a,.int .i64 (v:Int),.int .i64 (e:Int)] (.int .i64 (nxI a v e)):=by
 have q:=h.n5;refine Zcc 64 TQ.ok226 rfl (by(try simp only[noRefs,Qab,Qai,Qaf,noRef,noRefs,Zad,Zac])<;>rfl) rfl ?_;have ho:=out199 a v h (by omega);have g:(sOut a.es (fun _=>true) v).length<=131072:=Zay (Za3 ..) (WfA.el1 h);have m:=index48 (K:=262) (cap:=[.fptr [.int .i64 (e:Int)]]) (fun x=>decide (x.2.1=e)) (sOut a.es (fun _=>true) v) (by omega) rfl fun x _=>ev262 x e;unfold nxI;rw[Qgk];generalize sOut a.es (fun _=>true) v=o at*;rw[Ql8];have r:=@QhI _ (fun x:Ed=>decide (x.2.1=e)) o;have l:idxQ (fun x:Ed=>decide (x.2.1=e)) o=-1/\o[o.findIdx fun x=>decide (x.2.1=e)]?=none\/∃y,idxQ (fun x:Ed=>decide (x.2.1=e)) o=((o.findIdx fun x=>decide (x.2.1=e):Nat):Int)/\o[o.findIdx fun x=>decide (x.2.1=e)]?=some y:=by
  unfold idxQ;by_cases c:o.any (fun x=>decide (x.2.1=e))=true;·rw[if_pos c];obtain⟨y,n⟩:=Qaq (Zbk (p:=fun x:Ed=>decide (x.2.1=e)) (xs:=o) (by simpa using c));exact .inr ⟨y,rfl,n⟩
  rw[if_neg c];refine .inl ⟨rfl,ZaA (Nat.le_of_not_lt fun b=>c ?_)⟩;rw[List.any_eq_true];exact⟨_,List.getElem_mem b,List.findIdx_getElem (w:=b)⟩
 generalize(o.findIdx fun x=>decide (x.2.1=e))=k at*;generalize idxQ (fun x:Ed=>decide (x.2.1=e)) o=i at*;unfold TQ.s226;refine ZcG ?_;refine cp ho ?_;refine ZcG ?_;refine SU.chc (Zcs (Zcv (Zcd _) (Zcv (FrzTo.fn Zcu (Zcv (FrzTo.ptr (g:=0) (cs:=[.int .i64 (e:Int)]) gg (Zce _)) Zcu)) Zcu)) m rfl) ?_;rcases l with⟨rfl,hk⟩|⟨y,rfl,hk⟩;·refine ZcG ?_;rw[hk];exact⟨.inr trivial,_,rfl,rfl⟩
 have f:k<o.length:=(Zam.1 hk).1;have g1:¬(k:Int)<0:=by omega
 have d:=QaJ hk;refine ZcH (ZcJ g1 f d) ?_;rw[hk];exact⟨.inr trivial,_,rfl,rfl⟩
theorem step208(a:Aut)(v e:Nat)(h:WfA a)(c:v<a.n)(he:e∈a.al):PSpec Tryz.prog 208 [aV a,.int .i64 (v:Int),.int .i64 (e:Int)] (.tup [.int .i64 (((stepA a.es v e).getD 0:Nat):Int),.bool (stepA a.es v e).isSome,.int .i64 0]):=by refine Zcc 64 TQ.ok208 rfl (by(try simp only[noRefs,Qab,Qai,Qaf,noRef,noRefs,Zad,Zac])<;>rfl) rfl ?_;have f:=Qbq h.al h.al5;have hc:=state207 a v h c;have d:=contains62 (nz a.al) (e:Int) (by simp;omega);have hm:decide ((e:Int)∈nz a.al)=true:=decide_eq_true (Zao.2 ⟨e,he,rfl⟩);rw[hm,QbF]at d;have b:=next226 a v e h c;unfold nxI at b;unfold TQ.s208;refine ZcG ?_;refine cp hc ?_;refine ZcG ?_;refine cp d ?_;refine ZcG ?_;refine cp b ?_;cases i:stepA a.es v e with|none=>refine ZcG ?_;exact⟨.inr trivial,_,rfl,rfl⟩|some t=>
 have g:(0:Int)<=(t:Int):=by omega
 refine ZcH g ?_;exact⟨.inr trivial,_,rfl,rfl⟩
end Go.AM.SO
namespace Go.AM.SO
open Go.Proofs Go.AM.SD Go.AM.SE
theorem QdB(c:Cel):noRef (.fptr (stC c))=true:=by rw[noRef,stC];exact Qer _ _ _ _ _
theorem Qsr{t:List Nat}{n:Nat}:(ints (nz t)).take n=ints (nz (t.take n)):=by simp[ints,nz,List.map_take]
theorem Qrk{t:List Nat}{n:Nat}:(ints (nz t)).drop n=ints (nz (t.drop n)):=by simp[ints,nz,List.map_drop]
theorem QmE{cs:List AV}{len sz:Nat}{k c:IntKind}{b m:Int}(h:0<b):aSliceC (some sz) (.fsl cs len sz) none (some (.int k b)) (some (.int c m))=if b<=m/\m<=len then some (.fsl (cs.take (b.toNat*sz)) b.toNat sz)else none:=by
 have e:¬((0:Int)=0/\b=0/\m=0):=by omega
 have a:(0:Int)<=b:=by omega
 simp only[aSliceC,if_true,aSlice,bnd,Int.le_refl,true_and,a,Int.toNat_zero,Nat.zero_mul,Za9,Nat.sub_zero];rw[if_neg (by omega)]
theorem split71(c:Cel)(t:List Nat)(l:0<c.cs.length)(h:c.cs.length<=t.length):PSpec Tryz.prog 71 [.fptr (stC c),sliN t] (.tup [sliN (t.take c.cs.length),sliN (t.drop c.cs.length)]):=by
 have a:noRef (.tup [sliN (t.take c.cs.length),sliN (t.drop c.cs.length)])=true:=by rw[noRef,noRefs,noRefs,Qaa,Qaa];rfl
 refine Zcb 64 TQ.ok71 rfl (by rw[noRefs,QdB,noRefs,Qaa];rfl) a ?_;have i:=QdB c;rw[stC]at i⊢;generalize syncA (auL c.cs)=p at*;generalize syncA (allA c)=q at*;generalize(sync0 (auL c.cs)).1=P at*;generalize(sync0 (allA c)).1=T at*;have hle:(c.cs.length:Int)<=(t.length:Int):=by omega
 have f:(0:Int)<(c.cs.length:Int):=by omega
 have d:(t.drop c.cs.length).take (t.length-c.cs.length)=t.drop c.cs.length:=ZaS (by rw[Za4];exact ZaJ _);have b:min c.cs.length t.length=c.cs.length:=Nat.min_eq_left h;unfold TQ.s71;refine ZcH (ZcL hle @QmE @Qsr @Qrk d) ?_;refine⟨.inr trivial,_,rfl,?_⟩;have k:sliN (t.take c.cs.length)=.fsl (ints (nz (t.take c.cs.length))) c.cs.length 1:=by rw[sliN,Zas,b]
 have g:sliN (t.drop c.cs.length)=.fsl (ints (nz (t.drop c.cs.length))) (t.length-c.cs.length) 1:=by rw[sliN,Za4]
 rw[k,g]at a⊢;exact Zb9 a
def rfQ(c:Cel)(r:List Nat)(e:Nat)(i:Nat):Bool:=match c.rs[i]? with|some y=>y.2.al.contains e&&(stepA y.2.es (r.getD i 0) e).isNone|none=>false
def rfI(c:Cel)(r:List Nat)(e:Nat):Int:=idxQ (rfQ c r e) (List.range c.rs.length)
theorem _root_.Go.AM.au26{p:Prop}(h:p:=by repeat'(first|exact Zci|(refine Zca ?_;first|rfl|(simp only[noRef,noRefs,Qag,Zad,Zac,Zah,Qab,Qan,Qaa,Qaj,QaX,Qaf,SU.Qbk];done))|exact Zct rfl|exact Zco|exact(True.intro:RnM _ _ _ [] [])|refine Zcp ?_ ?_|(refine Zb9 ?_;first|rfl|(simp only[noRef,noRefs,Qag,Zad,Zac,Zah,Qab,Qan,Qaa,Qaj,QaX,Qaf,SU.Qbk];done))|exact Rn.x1 rfl rfl|exact Rn.x2 rfl rfl|exact Rn.x3 rfl rfl|exact Rn.x4 rfl rfl|exact Rn.x5 rfl|exact Rn.x6 rfl|exact Rn.x7 rfl|refine Zck rfl rfl ?_|refine Zcj rfl rfl rfl ?_ ?_|refine Zcl rfl rfl rfl ?_ ?_|refine Zcm rfl rfl ?_ ?_|refine Zcn rfl rfl ?_ ?_)):p:=h
theorem refuser162(c:Cel)(hw:WfCel c)(r:List Nat)(e:Nat)(I:r.length=c.rs.length)(hrn:∀(i:Nat)y,c.rs[i]?=some y->r.getD i 0<y.2.n):PSpec Tryz.prog 162 [.fptr (stC c),sliN r,.int .i64 (e:Int)] (.int .i64 (rfI c r e)):=by
 refine Zcc 64 TQ.ok162 rfl (by rw[noRefs,QdB,noRefs,Qaa];rfl) rfl ?_;have F:=hw.r2;rw[stC];generalize syncA (auL c.cs)=p at*;generalize syncA (allA c)=q at*;generalize(sync0 (auL c.cs)).1=P at*;generalize(sync0 (allA c)).1=T at*;have g:=@SU.QaB 114 c.rs;unfold TQ.s162;refine ZcG ?_;refine Qat 100 (fun i:Nat=>[(1,sliN r),(2,.int .i64 (e:Int)),(16,its 114 c.rs),(17,.int .i64 c.rs.length),(18,.int .i64 i)]) (fun _=>[]) (fun i=>i<=c.rs.length/\∀(j:Nat)y,j<i->(List.range c.rs.length)[j]?=some y->rfQ c r e y=false) (fun i=>c.rs.length-i) 0 0 200 (fun _:Unit=>[]) (fun _=>[]) (fun _=>∀x∈List.range c.rs.length,rfQ c r e x=false) ?_ ⟨Zaj _,fun j y E=>absurd E (ZaF _)⟩ ?_ ?_;·exact⟨[],rfl,Zcf,Zci,Zch (Zb9 (Qaa _)) (Zch (Zb9 rfl) (Zch (Zb9 g) au24))⟩
 ·rintro i⟨hi,u⟩;by_cases b:i<c.rs.length
  ·obtain⟨x,k⟩:=Qaq b;have f:=hw.ra x (Zae k);have h:=SU.Qdj (ch:=114) k;have z:5<=((c.rs.flatMap (itC 114)).drop (i*5)).length:=by rw[h];simp
   have w:i<r.length:=by omega
   obtain⟨v,C⟩:=Qaq w;have o:r.getD i 0=v:=by rw[Zak,C];rfl
   have n:=hrn i x k;rw[o]at n;have d:(List.range c.rs.length)[i]?=some i:=by simp[b]
   have A:=has189 x.2.al e f.wf.al (by have:=Qge f.wf;omega);have a:rfQ c r e i=(x.2.al.contains e&&(stepA x.2.es v e).isNone):=by unfold rfQ;rw[k];dsimp only;rw[o]
   have m:∀q:rfQ c r e i=false,i+1<=c.rs.length/\∀(j:Nat)y,j<i+1->(List.range c.rs.length)[j]?=some y->rfQ c r e y=false:=fun q=>⟨by omega,fun j y E B=>by
    by_cases H:j=i;·subst H;rw[d]at B;cases B;exact q
    exact u j y (by omega) B⟩;cases s:x.2.al.contains e;·rw[s,Bool.false_and]at a;rw[s]at A;refine ZcH (ZcJ b h z) ?_;refine cp A ?_;refine ZcG ?_;refine⟨i+1,by omega,m a,?_⟩;exact⟨[],rfl,Zcf,Zci,Zch (Zb9 (Qaa _)) (Zch (Zb9 rfl) (Zch (Zb9 g) au24))⟩
   have G:=step208 x.2 v e f.wf n (List.contains_iff_mem.1 s);rw[s,Zah]at a;rw[s]at A;refine ZcH (ZcJ b h z) ?_;refine cp A ?_;refine ZcH (ZcI w (QaF C)) ?_;refine cp G ?_;cases l:stepA x.2.es v e with|none=>rw[l]at a;refine ZcG ?_;refine⟨.inr trivial,_,rfl,?_⟩;unfold rfI;rw[QeM d a u];rfl|some t=>rw[l]at a;refine ZcG ?_;refine⟨i+1,by omega,m a,?_⟩;exact⟨[],rfl,Zcf,Zci,Zch (Zb9 (Qaa _)) (Zch (Zb9 rfl) (Zch (Zb9 g) au24))⟩
  refine ZcH b ?_;refine⟨(),fun x k=>?_,⟨[],rfl,au0,au26,au24⟩⟩;have:=Zat.1 k;exact u x x (by omega) (by simp[this])
 rintro _ u;refine ZcG ?_;refine⟨.inr trivial,_,rfl,?_⟩;unfold rfI;rw[QdA u];rfl
def rfF(c:Cel)(k:Nat)(r:List Nat):AV:=.fn 160 [] [.fptr [.fptr (stC c)],.fptr [.int .i64 (k:Int)],.fptr [sliN r]]
theorem Qgl(c:Cel)(k:Nat)(r:List Nat):noRef (rfF c k r)=true:=by have:=QdB c;rw[noRef]at this;simp only[rfF,noRef,noRefs,Qab,this];rfl
theorem refused74(c:Cel)(k:Nat)(r:List Nat):PSpec Tryz.prog 74 [.fptr (stC c),.int .i64 (k:Int),sliN r] (rfF c k r):=by
 have a:=QdB c;refine Zcb 64 TQ.ok74 rfl (by rw[noRefs,a,noRefs,noRefs,Qaa];rfl) (Qgl _ _ _) ?_;unfold rfF;have f:(AV.fptr (stC c)).boxable=true:=rfl;have hc:(AV.fptr (stC c)).cells=[.fptr (stC c)]:=rfl;have ho:(AV.fptr (stC c)).one=true:=rfl;generalize AV.fptr (stC c)=S at*;unfold TQ.s74;refine ZcH (ZcJ f hc ho) ?_;refine⟨.inr trivial,_,rfl,?_⟩;refine Rn.fn Zco (Zcp (Rn.frzp (b:=64) (g:=0) rfl (Zaj _) (fun b d _ e=>by simp[π0]at e) (by simp) (Zca ?_)) (Zcp (Rn.frzp (b:=65) (g:=0) rfl (Zaj _) (fun b d _ e=>by simp[π0]at e) (by simp) (Zca rfl)) (Zcp (Rn.frzp (b:=66) (g:=0) rfl (Zaj _) (fun b d _ e=>by simp[π0]at e) (by simp) (Zca ?_)) Zco)));·show noRefs [S]=true;rw[noRefs,a];rfl
 show noRefs [sliN r]=true;rw[noRefs,Qaa];rfl
end Go.AM.SO
namespace Go.AM.SO
open Go.Proofs Go.AM.SD Go.AM.SE
theorem Qss{l:List Aut}{Q:List Nat->Prop}{i e:Nat}{t:List Nat}{s:List (List Nat)×List Ed}(a:∀n,stepT l t e=some n->Q n)(h:∀x∈s.1,Q x):∀x∈(pEv l i t s e).1,Q x:=by grind[pEv]
theorem Ql9{l:List Aut}{Q:List Nat->Prop}{i:Nat}{t:List Nat}:∀{ev:List Nat}{s:List (List Nat)×List Ed},(∀e∈ev,∀n,stepT l t e=some n->Q n)->(∀x∈s.1,Q x)->∀x∈(pRow l ev i t s).1,Q x|[],s,_,h=>h|e::ev,s,b,h=>Ql9 (ev:=ev) (s:=pEv l i t s e) (fun c a=>b c (by simp[a])) (Qss (fun n=>b e (by simp) n) h)
theorem Qql{l:List Aut}{ev:List Nat}{Q:List Nat->Prop}(a:∀t,Q t->∀e∈ev,∀n,stepT l t e=some n->Q n):∀{k i:Nat}{s:List (List Nat)×List Ed},(∀x∈s.1,Q x)->∀x∈(pQ l ev k i s).1,Q x|0,_,_,h=>h|k+1,i,s,h=>by unfold pQ;cases b:s.1[i]? with|none=>exact h|some t=>exact Qql a (Ql9 (a t (h t (Zae b))) h)
theorem Qop{A B:List Aut}{t n:List Nat}{e:Nat}(b:(A++B).length<=t.length)(h:stepT (A++B) t e=some n):stepT A (t.take A.length) e=some (n.take A.length):=by
 obtain⟨h1,g,c⟩:=(Qfn b).1 h;rw[Zaf]at b;refine(Qfn (by grind)).2 ⟨by simp_all,fun i hi=>?_,fun i a hi d=>?_⟩;·grind
 have f:=c i a (by grind) (by grind);simp_all
theorem Qi2{l:List Aut}(h:∀a∈l,WfI a){e:Nat}:e∈evA l↔∃a∈l,e∈a.al:=by
 rw[QeO,Qgu (fun y d=>by grind)];constructor;·grind
 rintro⟨a,b,c⟩;exact⟨_,Zao.2 ⟨a,b,rfl⟩,c⟩
theorem Qst{c:Cel}(h:WfCel c){e:Nat}(he:e∈evA (allA c)):e∈evA (auL c.cs):=by
 have hA:=Qbh h;obtain⟨a,b,d⟩:=(Qi2 (QdS h)).1 he;rcases ZaE.1 (show a∈auL c.cs++auL c.rs from b)with b|b;·grind[Qi2]
 obtain⟨x,g,rfl⟩:=Zao.1 b;obtain⟨y,i,f⟩:=h.rsub x g e d;exact(Qi2 hA).2 ⟨y.2,Zao.2 ⟨y,i,rfl⟩,f⟩
theorem Qsu{c:Cel}(h:WfCel c):∀t∈(sync0 (allA c)).1,InT (allA c) t/\t.take c.cs.length∈(sync0 (auL c.cs)).1:=by
 have hA:=Qbh h;have b:=QdS h;have m:=Qke (fun a d=>(hA a d).pos) (fun a d=>(hA a d).wf.esn);have g:=Qfp (l:=allA c) (fun a d=>(b a d).pos);show∀t∈(pQ (allA c) (evA (allA c)) (box (allA c)+1) 0 ([List.replicate (allA c).length 0],[])).1,_;refine Qql (Q:=fun t=>InT (allA c) t/\t.take c.cs.length∈(sync0 (auL c.cs)).1) ?_ ?_;·rintro t⟨l,hp⟩e he n k;refine⟨Qfo (fun a d=>(b a d).wf.esn) l k,?_⟩;have f:=Qop (A:=auL c.cs) (B:=auL c.rs) (Nat.le_of_eq l.1.symm) k;rw[Qa3]at f;exact m.cl _ _ (Qix hp) (QnF hp) e (Qst h he) _ f
 intro x i;have i:x=List.replicate (allA c).length 0:=by simpa using i
 subst i;refine⟨g.inT _ (by simp),?_⟩;have:(List.replicate (allA c).length 0).take c.cs.length=List.replicate (auL c.cs).length 0:=by simp_all[Qcn]
 rw[this];exact sync_pre.subset (by simp)
theorem Qrl{A B:List Aut}{t:List Nat}(h:InT (A++B) t):InT A (t.take A.length):=by refine⟨by rw[Zas,h.1,Zaf];omega,fun i a b=>?_⟩;have hi:i<A.length:=(Zam.1 b).1;have:=h.2 i a (by grind);simp_all
theorem Qrm{A B:List Aut}{t:List Nat}(h:InT (A++B) t):InT B (t.drop A.length):=by refine⟨by rw[Za4,h.1,Zaf];omega,fun i a b=>?_⟩;have:=h.2 (A.length+i) a (by grind);simp_all
end Go.AM.SO
namespace Go.AM
variable{P:Program}
theorem RSpec.of_wS{b N n:Nat}{T:Tmps}{c:List Nat}{a body:SCode}{args:List AV}{h h':Heap}{v:AV}(f:(noLoop a&&noLoop body)=true)(k:h.get b=some (.loop 0 N T c (.s a) (.s body) .ready))(i:Nat.blt b 1099511627775=true)(hlen:args.length=c.length)(l:(c.all fun p=>Nat.blt p N)=true)(hw:wS P ⟨N,0⟩ a [] n (upsT T c args) h fun e T1 h1 g=>e=.normal/\h1.get b=some (.loop 0 N T c (.s a) (.s body) .ready)/\wS P ⟨N,0⟩ body [] g T1 (h1.set b (.loop 0 N T c (.s a) (.s body) .busy)) fun e T2 d _=>d.get b=some (.loop 0 N T c (.s a) (.s body) .busy)/\v=.bool e.isNormal/\∀x,(d.set b (.loop 0 N T c (.s a) (.s body) (stOf e))).get x=h'.get x):RSpec P b 0 args h v h':=by simp only[Zab]at f;refine RSpec.of_W k (by simpa[lim]using i) hlen (fun p hp=>by simp_all) ((wpC.toW1 f.1 hw).mono ?_);rintro e B⟨g,rfl,h1,d⟩;refine⟨rfl,N,T,c,.s a,.s body,h1,(wpC.toW1 f.2 d).mono ?_⟩;rintro e C⟨r,q,o,m⟩;grind
section
variable{k m n:Nat}{T:Tmps}{h:Heap}{Q:QC}{fs:List Fr}
theorem Qkm{g:Opd}{l:List Nat}{a body:SCode}{f b n':Nat}{first cap:List AV}{v:AV}{p:Heap}{T' T2:Tmps}{L:HL}{N2:Nat}{i:List Nat}{o c:LCode}{st:LSt}(s:Rec m T' L T h)(t:ev T' g=.fn f first cap)(r:(hp L).get b=none)(u:Nat.blt b 1099511627775=true)(q:HSpec P f (first++[.yld b 0]++cap) ((hp L).set b (.loop 0 k T' l (.s a) (.s body) .ready)) v p)(d:p.get b=some (.loop 0 N2 T2 i o c st))(hQ:leftQ (fun e B=>wX P ⟨k,m⟩ e fs n' B.T B.h Q) ⟨T',p.set b (.dead 0)⟩ st):wS P ⟨k,m⟩ (.rfunc g l k a body) fs n T h Q:=by show W2 P ⟨k,m⟩ (.rfunc g l k a body) (fun e B=>∃n,ct P ⟨k,m⟩ fs Q e B.T B.h n) ⟨T,h⟩;refine W2.recL s (W2.of_W (W.rfunc (las:=.s a) (lbody:=.s body) rfl rfl t r (by simpa[lim]using u) q d ?_));cases st with|ready=>exact⟨n',hQ⟩|busy=>exact hQ|done e=>exact⟨hQ.1,n',hQ.2⟩
theorem cy{N:NM}{b g:Nat}{args:List AV}{v:AV}{h1:Heap}{d:Option Nat}{ops:List SOper}{dead:List Nat}(a:RSpec P b g args h v h1)(hk:wR P N ops dead fs (n+1) (putD T d v) h1 Q):wCall P N .heap (.yld b g) args d ops dead fs n T h Q:=⟨_,_,a,hk⟩
theorem W2.weakE{N:NM}{c:SCode}{Q:SX->St->Prop}{T L:Tmps}{h h':Heap}(a:Sub L T)(he:∀b,h.get b=h'.get b)(hw:W2 P N c Q ⟨L,h'⟩):W2 P N c Q ⟨T,h⟩:=W2.weak a (W2.congr hw ⟨fun _=>rfl,he⟩)
def loopI(P:Program)(k m:Nat){α:Type}(env:α->Tmps)(H:α->Heap)(I:α->Prop)(μ:α->Nat)(a:α)(fs:List Fr)(Q:QC):QC:=fun e T h n=>match e with|.normal=>∃c,μ c<μ a/\I c/\Sub (env c) T/\∀b,h.get b=(H c).get b|e=>wX P ⟨k,m⟩ e fs n T h Q
section
variable{α:Type}{env:α->Tmps}{H:α->Heap}{I:α->Prop}{μ:α->Nat}{a:α}
theorem Qa5:loopI P k m env H I μ a fs Q .normal T h n=∃c,μ c<μ a/\I c/\Sub (env c) T/\∀b,h.get b=(H c).get b:=rfl
theorem Qbj{i:Nat}:loopI P k m env H I μ a fs Q (.exit i) T h n=wX P ⟨k,m⟩ (.exit i) fs n T h Q:=rfl
theorem Qbu:loopI P k m env H I μ a fs Q .ret T h n=wX P ⟨k,m⟩ .ret fs n T h Q:=rfl
theorem Qrn{b:SCode}(s:Nat)(env:α->Tmps)(H:α->Heap)(I:α->Prop)(μ:α->Nat)(a0:α)(p:Sub (env a0) T)(g:∀b,h.get b=(H a0).get b)(l:I a0)(round:∀a,I a->wS P ⟨k,m⟩ b [] s (env a) (H a) (loopI P k m env H I μ a fs Q)):wS P ⟨k,m⟩ (.loop b) fs n T h Q:=by show W2 P ⟨k,m⟩ (.loop b) (fun e B=>∃n,ct P ⟨k,m⟩ fs Q e B.T B.h n) ⟨T,h⟩;refine W2.loop (fun q B=>∃a,μ a=q/\I a/\Sub (env a) B.T/\∀b,B.h.get b=(H a).get b) (μ a0) ⟨a0,rfl,l,p,g⟩ ?_;rintro q B⟨a,rfl,hi,r,he⟩;refine W2.weakE r he ((wpC.toW (round a hi)).mono ?_);rintro e C⟨d,c⟩;cases e with|normal=>obtain⟨f,h1,t,o⟩:=c;exact⟨μ f,h1,f,rfl,t,o⟩|exit i=>exact⟨d,c⟩|ret=>exact⟨d,c⟩
end
end
theorem HSpec.of_I{f:Nat}{sf:SFn}{args:List AV}{h h':Heap}{v:AV}(m n:Nat)(a:okFn P f sf=true)(r:Nat.ble args.length sf.n=true)(hm:Fresh m h)(hw:wS P ⟨sf.n,m⟩ sf.body [] n (argT 0 args) h fun e T k _=>(e=.normal\/e=.ret)/\∃vs,resV T k sf.res=some vs/\resOf vs=v/\∀b,k.get b=h'.get b):HSpec P f args h v h':=by
 obtain⟨_,_,_,_,_,_,_,hc⟩:=QbY a;refine⟨hc,fun c w d H o=>(QcQ (m:=m) (R:=fun vs k=>resOf vs=v/\∀b,k.get b=h'.get b) a (Zar r) ((wpC.toW hw).mono fun e B⟨_,h1,vs,i,s⟩=>⟨h1,vs,i,s⟩) H o).mono ?_⟩;rintro e t⟨q,l,vs,k,rfl,E,H',V,rfl,hk⟩;refine⟨q,l,rfl,⟨E.os,E.tape,E.output,E.size,E.shape,E.keep,fun b g p hp=>?_,E.frz,E.frzNew,E.own,E.base⟩,Qb6 hk H',V⟩;rcases Zbu b m with h1|h1;·exact E.rho b g p h1 hp
 rw[H.fresh b (hm b h1) g]at hp;cases hp
end Go.AM
namespace Go.AM.SO
open Go.Proofs Go.AM.SD Go.AM.SE
def ylE(c:Cel)(r:List Nat)(e:Nat):Option (Nat×Int):=if 0<=rfI c r e then some (e,rfI c r e)else none
def yls(c:Cel)(k:Nat)(r:List Nat):List (Nat×Int):=(evO (syncA (auL c.cs)) k).filterMap (ylE c r)
theorem fm_at{α β:Type}{f:α->Option β}{l:List α}{i:Nat}{x:α}{y:β}(b:l[i]?=some x)(c:f x=some y):(l.filterMap f)[((l.take i).filterMap f).length]?=some y:=by
 have hi:i<l.length:=(Zam.1 b).1;have e:l=l.take i++x::l.drop (i+1):=by have a:l[i]=x:=(Zam.1 b).2;rw[<-a,List.getElem_cons_drop,List.take_append_drop]
 have d:l.filterMap f=(l.take i).filterMap f++y::(l.drop (i+1)).filterMap f:=by
  conv=>lhs;rw[e]
  rw[List.filterMap_append,Zbz,c]
 rw[d,List.getElem?_append_right (ZaJ _),Nat.sub_self,Zbl]
theorem Qsv{α β:Type}{f:α->Option β}{l:List α}{i:Nat}{x:α}(a:l[i]?=some x):((l.take (i+1)).filterMap f).length=((l.take i).filterMap f).length+(match f x with|some _=>1|none=>0):=by rw[take_succ' a,List.filterMap_append,Zaf,Zbz];cases f x<;>rfl
theorem Qsw{c:Cel}{r:List Nat}{e:Nat}:-1<=rfI c r e/\rfI c r e<=c.rs.length:=by have:=@QhI _ (rfQ c r e) (List.range c.rs.length);unfold rfI;rw[Zby]at this;omega
theorem refused160(c:Cel)(hw:WfCel c){k:Nat}(hk:k<(syncA (auL c.cs)).n)(r:List Nat)(K:r.length=c.rs.length)(hrn:∀(i:Nat)y,c.rs[i]?=some y->r.getD i 0<y.2.n){b m:Nat}(H:Nat->Heap)(H':Heap)(n:Nat)(hf:Fresh m (H 0))(L:n<=(yls c k r).length)(hY:∀(j:Nat)y,j<n->(yls c k r)[j]?=some y->RSpec Tryz.prog b 0 [.int .i64 (y.1:Int),.int .i64 y.2] (H j) (.bool true) (H (j+1)))(E:(n=(yls c k r).length/\H'=H n)\/∃y,(yls c k r)[n]?=some y/\RSpec Tryz.prog b 0 [.int .i64 (y.1:Int),.int .i64 y.2] (H n) (.bool false) H'):HSpec Tryz.prog 160 [.yld b 0,.fptr [.fptr (stC c)],.fptr [.int .i64 (k:Int)],.fptr [sliN r]] (H 0) (.tup []) H':=by
 refine HSpec.of_I m 1099511627000 TR.ok160 rfl hf ?_;have s:=enabled161 (syncA (auL c.cs)) k (Qfr (Qbh hw) (by rw[Qa3];have:=hw.c3;omega)).toWfA hk;have J:=fun e=>refuser162 c hw r e K hrn;have F:=fun e=>@Qsw c r e;have I:(evO (syncA (auL c.cs)) k).length<=1220:=by unfold evO;rw[Zaz];exact Zay (Za3 ..) (Qfr (Qbh hw) (by rw[Qa3];have:=hw.c3;omega)).el
 have u:stC c=stC c:=rfl;conv at u=>rhs;rw[stC]
 have M:∃S,S=AV.fptr (stC c):=⟨_,rfl⟩;unfold yls at L hY E;rw[stC]at*;generalize evO (syncA (auL c.cs)) k=o at*;generalize syncA (auL c.cs)=p at*;generalize syncA (allA c)=q at*;generalize(sync0 (auL c.cs)).1=P at*;generalize(sync0 (allA c)).1=T at*;unfold TR.s160;refine ZcF (ZcM @Qac @Qad @Qae @Qa5 @Qbj @Qbu) ?_;refine cp s ?_;refine ZcF (ZcM @Qac @Qad @Qae @Qa5 @Qbj @Qbu) ?_;refine Qrn 1099511627100 (fun i:Nat=>[(0,.yld b 0),(1,.fptr [.fptr (stG c p q P T)]),(3,.fptr [sliN r]),(19,sliN o),(20,.int .i64 o.length),(21,.int .i64 i)]) (fun i=>H ((o.take i).filterMap (ylE c r)).length) (fun i=>i<=o.length/\((o.take i).filterMap (ylE c r)).length<=n) (fun i=>o.length-i) 0 ?_ (fun _=>rfl) ⟨Zaj _,Zaj _⟩ ?_;·repeat(first|exact Sub.nil|refine Sub.cons (by first|rfl|(rw[ZaO];rfl)) ?_)
 rintro i⟨hi,hc⟩;by_cases d:i<o.length
 ·obtain⟨x,B⟩:=Qaq d;have a:=Qsv (f:=ylE c r) B;have t:=J x;have N:=F x;by_cases z:0<=rfI c r x
  ·have g:ylE c r x=some (x,rfI c r x):=by unfold ylE;rw[if_pos z]
   have f:=fm_at B g;rw[g]at a;rcases Zbu ((o.take i).filterMap (ylE c r)).length n with A|G;·have l:=hY _ _ A f;dsimp only at l a;rw[<-a]at l;refine ZcF (ZcO d (QaF B) @Qac @Qad @Qae @Qa5 @Qbj @Qbu) ?_;refine cp t ?_;generalize rfI c r x=v at*;refine ZcF (ZcN z @Qac @Qad @Qae @Qa5 @Qbj @Qbu) ?_;refine cy l ?_;refine ZcF (ZcM @Qac @Qad @Qae @Qa5 @Qbj @Qbu) ?_;refine⟨i+1,by omega,⟨by omega,by omega⟩,?_,fun _=>rfl⟩;repeat(first|exact Sub.nil|refine Sub.cons (by first|rfl|(rw[ZaO];rfl)) ?_)
   have h:((o.take i).filterMap (ylE c r)).length=n:=by omega
   rcases E with⟨he,_⟩|⟨y,C,w⟩;·have :=(Zam.1 f).1;omega
   rw[h]at f⊢;rw[f]at C;cases C;dsimp only at w;refine ZcF (ZcO d (QaF B) @Qac @Qad @Qae @Qa5 @Qbj @Qbu) ?_;refine cp t ?_;generalize rfI c r x=v at*;refine ZcF (ZcN z @Qac @Qad @Qae @Qa5 @Qbj @Qbu) ?_;refine cy w ?_;refine ZcF (ZcM @Qac @Qad @Qae @Qa5 @Qbj @Qbu) ?_;exact⟨.inr trivial,_,rfl,rfl,fun _=>trivial⟩
  have g:ylE c r x=none:=by unfold ylE;rw[if_neg z]
  rw[g]at a;dsimp only at a;refine ZcF (ZcO d (QaF B) @Qac @Qad @Qae @Qa5 @Qbj @Qbu) ?_;refine cp t ?_;generalize rfI c r x=v at*;refine ZcF (ZcN z @Qac @Qad @Qae @Qa5 @Qbj @Qbu) ?_;refine⟨i+1,by omega,⟨by omega,by omega⟩,?_,fun _=>by rw[a];rfl⟩;repeat(first|exact Sub.nil|refine Sub.cons (by first|rfl|(rw[ZaO];rfl)) ?_)
 have e:i=o.length:=by omega
 subst e;rw[Zau]at hc⊢;have h:n=(o.filterMap (ylE c r)).length:=by omega
 refine ZcF (ZcN d @Qac @Qad @Qae @Qa5 @Qbj @Qbu) ?_;refine⟨.inl trivial,_,rfl,rfl,fun _=>?_⟩;rcases E with⟨_,he⟩|⟨y,C,_⟩;·rw[he,h]
 rw[ZaA (by omega)]at C;cases C
end Go.AM.SO
