/- A part of the proof of SynthesisLoopsCardSaid: lemmas on the way (AmHd, AmRy, AmOg, AmOd, AmOr, AmOi, AmOs, AmRx, AmRw, AmOj). Conditions: none of ours. -/
import Derived.Test.YtmoanlnleppcpaaGreatDoorProg
import Derived.KernelRfl
import Derived.Test.YtmoanlnleppcpaaGreatDoorAmV15
set_option linter.unusedSectionVars false
set_option maxHeartbeats 32000000
set_option maxRecDepth 100000
set_option linter.unusedVariables false
set_option linter.unusedSimpArgs false
namespace Go.AM.SO
open Go.Proofs Go.AM.SD Go.AM.SE
theorem clone41(l:List Nat)(a:l.length<=1000000):PSpec Tryz.prog 41 [sliN l] (sliN l):=by
 have h:=(clone56 l a).freeze (b:=83) (g:=0) (ds:=ints (nz l)) gg (by
  have:∀m:List Int,flatVs (ints m)=true:=fun m=>by induction m with|nil=>rfl|cons x m b=>simp only[ints,ZaK,flatVs,Zab];exact⟨rfl,b⟩
  exact this _) (by simp[ints]) rfl;have e:(ints (nz l)).take (l.length*1)=ints (nz l):=by rw[ZaS (by simp[ints])]
 rw[e]at h;exact⟨by rw[noRefs,Qaa];rfl,Qaa _,_,h⟩
abbrev lpA:SCode:=(.seq (.region [Zm 16 100 []] [] [99,100]) (.region [Zm 17 101 []] [] [101]))
abbrev lpB:SCode:=(.block 3 (.seq (.region [Zf 102 0 1 [],Zl 103 102 [0],Zm 104 16 [],Zi 105 5 103 104 [1,2],Zf 106 1 105 [3],Zl 107 106 [4],Zz 108 (.un .not (.t 107)) [5]] [] [102,103,104,105,106,107]) (.cond (.t 108) (.seq (.region [Zf 109 7 6 [],Zl 110 109 [0],Zl 111 7 [],Zm 112 17 [],Zm 113 16 [],Zz 114 (.build [(.int .i64 0),(.int .i64 0),(.int .i64 0),(.int .i64 0)] [(0,1,(.t 111)),(1,1,(.c (.int .i64 3))),(2,1,(.t 112)),(3,1,(.t 113))]) [2,3,4],Zz 115 (.bslice false .dyn 4 1 [(.int .i64 0),(.int .i64 0),(.int .i64 0),(.int .i64 0)] [(0,4,(.t 114))]) [5],Zz 116 (.append .dyn 4 32 (.t 110) (.t 115)) [1,6],Zf 117 7 6 (Za [] 8),Zs 1 117 116 (Za [8,7,7] 8)] [] [7,16,17,108,109,110,111,112,113,114,115,116,117]) (.exit 2)) .skip)))
def rsn(c:Cel)(i:Nat)(t:List Nat):Option (Nat×Int×Int×Int):=if(vioV (t.take c.cs.length) c.xs c.ks).2.2=true then some (i,(vioV (t.take c.cs.length) c.xs c.ks).1,(vioV (t.take c.cs.length) c.xs c.ks).2.1,-1)else((yls c (ixT (sync0 (auL c.cs)).1 (t.take c.cs.length)) (t.drop c.cs.length)).find? fun y=>!(c.ev y.1).c).map fun y=>(i,3,y.2,(y.1:Int))
def rsC(x:Nat×Int×Int×Int):List AV:=[.int .i64 (x.1:Int),.int .i64 x.2.1,.int .i64 x.2.2.1,.int .i64 x.2.2.2]
def rsnO(c:Cel)(i:Nat):List (Nat×Int×Int×Int):=(rsn c i ((sync0 (allA c)).1.getD i [])).toList
def forb(c:Cel)(n:Nat):List (Nat×Int×Int×Int):=(List.range n).flatMap (rsnO c)
theorem Qgm(c:Cel)(n:Nat):forb c (n+1)=forb c n++rsnO c n:=by unfold forb;rw[ZaI,Zaq];simp
theorem QhK(c:Cel):∀n,(forb c n).length<=n
 |0=>by simp[forb]|n+1=>by
  have:=QhK c n;rw[Qgm,Zaf];have:(rsnO c n).length<=1:=by unfold rsnO;cases rsn c n _<;>simp
  omega
abbrev rss(l:List (Nat×Int×Int×Int)):AV:=.fsl (l.flatMap rsC) l.length 4
theorem Qqm(l:List (Nat×Int×Int×Int)):(l.flatMap rsC).length=l.length*4:=Qbb (k:=4) (fun _=>rfl) l
theorem QbQ(l:List (Nat×Int×Int×Int)):noRefs (l.flatMap rsC)=true:=by induction l with|nil=>rfl|cons x l a=>rw[Zax];exact SU.Qaw rfl a
def spA(c:Cel)(T:List (List Nat)):List (List Nat):=T.map fun t=>t.take c.cs.length
def spB(c:Cel)(T:List (List Nat)):List (List Nat):=T.map fun t=>t.drop c.cs.length
def spP(c:Cel)(P T:List (List Nat)):List Nat:=T.map fun t=>ixT P (t.take c.cs.length)
abbrev spG(c:Cel)(q:Aut)(P T:List (List Nat)):List AV:=[sliN q.al,.int .i64 (q.n:Int),sliN q.ms,egsN q.es,tuV (spA c T),tuV (spB c T),sliN (spP c P T),rss (forb c T.length)]
def spC(c:Cel):List AV:=spG c (syncA (allA c)) (sync0 (auL c.cs)).1 (sync0 (allA c)).1
theorem Qfs(c:Cel)(q:Aut)(P T:List (List Nat)):noRefs (spG c q P T)=true:=by
 have a:noRef (rss (forb c T.length))=true:=by rw[noRef];exact QbQ _
 simp only[noRefs,Qaa,Qaj,Qb2,a,Zah,Zac];rfl
theorem Qma{α:Type}{p:α->Bool}:∀{l:List α}{y:α},l.find? p=some y->∃n:Nat,l[n]?=some y/\p y=true/\∀(j:Nat)z,j<n->l[j]?=some z->p z=false|[],y,h=>by simp at h|x::l,y,h=>by rw[List.find?_cons]at h;cases hp:p x with|true=>rw[hp]at h;cases h;exact⟨0,rfl,hp,fun j z b=>absurd b (ZaF _)⟩|false=>rw[hp]at h;obtain⟨n,h1,c,d⟩:=Qma h;refine⟨n+1,by simpa using h1,c,fun j z b a=>?_⟩;cases j with|zero=>simp at a;subst a;exact hp|succ j=>exact d j z (by omega) (by simpa using a)
theorem QhL{f:Nat->Evt}{e:Nat}(h:e<5):(evsC f).drop (e*5)=evC e (f e)++(evsC f).drop ((e+1)*5):=by
 obtain rfl|rfl|rfl|rfl|rfl:e=0\/e=1\/e=2\/e=3\/e=4:=by omega
 all_goals rfl
theorem Qmb{c:Cel}(h:WfCel c){k:Nat}{r:List Nat}{y:Nat×Int}(b:y∈yls c k r):y.1<5:=by
 unfold yls at b;obtain⟨e,he,a⟩:=ZbF.1 b;unfold ylE at a;split at a;·cases a;unfold evO at he;obtain⟨x,d,rfl⟩:=Zao.1 he;have hw:=Qfr (Qbh h) (by rw[Qa3];have:=h.c3;omega);exact hw.a5 _ (hw.ev x (Za8.1 d).1)
 cases a
theorem Qsx{c:Cel}{i:Nat}{t:List Nat}(a:(vioV (t.take c.cs.length) c.xs c.ks).2.2=true):(rsn c i t).toList=[(i,(vioV (t.take c.cs.length) c.xs c.ks).1,(vioV (t.take c.cs.length) c.xs c.ks).2.1,-1)]:=by unfold rsn;rw[if_pos a];rfl
theorem QtE{c:Cel}{i:Nat}{t:List Nat}(a:(vioV (t.take c.cs.length) c.xs c.ks).2.2=false):(rsn c i t).toList=(((yls c (ixT (sync0 (auL c.cs)).1 (t.take c.cs.length)) (t.drop c.cs.length)).find? fun y=>!(c.ev y.1).c).map fun y=>(i,3,y.2,(y.1:Int))).toList:=by unfold rsn;rw[if_neg (by simp[a])]
theorem set3{h:Heap}{k j:Nat}{a b c:Blk}(hk:Nat.blt k 1099511627775=true):(((h.set k a).set k b).set k c).get j=(h.set k c).get j:=by
 have d:k<1099511627775:=by simpa using hk
 by_cases e:j=k;·subst e;rw[Qay d,Qay d]
 rw[QaE d e,QaE d e,QaE d e,QaE d e]
theorem set6{h:Heap}{k l f m j:Nat}{a b u v w d:Blk}(hk:(Nat.blt k 1099511627775&&Nat.blt l 1099511627775&&Nat.blt f 1099511627775&&Nat.blt m 1099511627775)=true):((((((h.set k a).set k b).set l u).set f v).set m w).set k d).get j=((((h.set l u).set f v).set m w).set k d).get j:=by
 simp only[Zab,ZbJ]at hk;obtain⟨⟨⟨h1,c⟩,g⟩,i⟩:=hk;by_cases e:j=k;·subst e;rw[Qay h1,Qay h1]
 rw[QaE h1 e,QaE h1 e];by_cases o:j=m;·subst o;rw[Qay i,Qay i]
 rw[QaE i o,QaE i o];by_cases p:j=f;·subst p;rw[Qay g,Qay g]
 rw[QaE g p,QaE g p];by_cases n:j=l;·subst n;rw[Qay c,Qay c]
 rw[QaE c n,QaE c n,QaE h1 e,QaE h1 e]
theorem _root_.Go.AM.au27{p:Prop}(h:p:=by repeat(first|exact Zcg|(refine Zch ?_ ?_;·(first|exact Rn.any|exact Rn.x1 rfl rfl|exact Rn.x2 rfl rfl|exact Rn.x3 rfl rfl|exact Rn.x4 rfl rfl|exact Rn.x5 rfl|exact Rn.x6 rfl|exact Rn.x7 rfl|(refine Rn.slot ?_ ?_;(first|rfl|(rw[ZaO];rfl));(first|rfl|(simp only[noRef,noRefs,Qag,Zad,Zac,Zah,Qab,Qan,Qaa,Qaj,QaX,Qaf,SU.Qbk,Qb2];done)))|(refine Rn.fn ?_ ?_<;>(repeat'(first|exact Zco|refine Zcp ?_ ?_|exact Zb9 rfl|exact Rn.x6 rfl|exact Rn.x2 rfl rfl|exact Rn.x5 rfl|exact Rn.x1 rfl rfl))))))):p:=h
theorem specify18(c:Cel)(h:WfCel c):PSpec Tryz.prog 18 [celV c] (.tup [.agg (spC c),.int .i64 0]):=by
 have s:=Qcc c;have hns:noRef (.tup [.agg (spC c),.int .i64 0])=true:=by rw[noRef,noRefs,noRef,spC,Qfs];rfl
 refine Zcb 64 TQ.ok18 rfl (by rw[noRefs,SU.Qbl];rfl) hns ?_;have h0:=h.c0;have h3:=h.c3;have h2:=h.r2;have hO:=open70 c h;have hin:=Qsu h;have hPi:=QeN (fun a ha=>(Qbh h a ha).pos) fun a ha=>(Qbh h a ha).wf.esn;have O:=QhJ (QdS h) (by rw[Qcn];omega);have hT243:=O.2.1;clear O;have hPin:∀x∈(sync0 (auL c.cs)).1,InT (auL c.cs) x:=hPi.inT;have hpn:(syncA (auL c.cs)).n=(sync0 (auL c.cs)).1.length:=rfl;have l:=fun t(u:c.cs.length<=t.length)=>split71 c t h0 u;have U:=fun t(u:InT (auL c.cs) t)=>violated73 c h u;have Q:=fun k r=>refused74 c k r;have N:=fun{k:Nat}hk r hr hrn{b m:Nat}H H' n=>@refused160 c h k hk r hr hrn b m H H' n;have hrs:∀i t,(sync0 (allA c)).1[i]?=some t->rsnO c i=(rsn c i t).toList:=fun i t u=>by unfold rsnO;rw[Zak,u];rfl
 have hrv:=fun i t=>@QtE c i t;have hle:=QhK c;have hsu:=Qgm c;have hst:=Qer c (syncA (auL c.cs)) (syncA (allA c)) (sync0 (auL c.cs)).1 (sync0 (allA c)).1;rw[spC]at*;rw[stC]at hO l Q;generalize syncA (auL c.cs)=p at*;generalize syncA (allA c)=q at*;generalize(sync0 (auL c.cs)).1=P at*;generalize(sync0 (allA c)).1=T at*;have o:=Qb2 T;have L:noRef (.fptr (stG c p q P T))=true:=by rw[noRef];exact hst
 have hnc:=SU.Qbl c;unfold TQ.s18;refine ZcG ?_;refine cp hO ?_;refine ZcG ?_;refine Qat 200 (fun i:Nat=>[(1,.ptr 51 0 0),(2,.ptr 53 0 0),(4,.fptr (stG c p q P T)),(6,.ptr 52 0 0),(35,tuV T),(36,.int .i64 T.length),(37,.int .i64 i)]) (fun i=>[(51,.cells 0 [evsV c.ev,its 99 c.cs,its 114 c.rs,exs c.xs,cos c.ks]),(52,.cells 0 [sliN q.al,.int .i64 (q.n:Int),sliN q.ms,egsN q.es,.sl 60 0 0 i 1,.sl 61 0 0 i 1,.sl 62 0 0 i 1,.sl 63 0 0 (forb c i).length 4]),(53,.cells 0 [.nilsl,.int .i64 0,.nilsl,.nilsl,.nilsl,.nilsl,.nilsl,.nilsl]),(60,.cells 0 ((spA c (T.take i)).map sliN)),(61,.cells 0 ((spB c (T.take i)).map sliN)),(62,.cells 0 (ints (nz (spP c P (T.take i))))),(63,.cells 0 ((forb c i).flatMap rsC))]) (fun i=>i<=T.length) (fun i=>T.length-i) 0 0 400 (fun _:Unit=>[(2,.ptr 53 0 0),(6,.ptr 52 0 0)]) (fun _=>[(52,.cells 0 (spG c q P T)),(53,.cells 0 [.nilsl,.int .i64 0,.nilsl,.nilsl,.nilsl,.nilsl,.nilsl,.nilsl])]) (fun _=>True) ?_ (Zaj _) ?_ ?_;·refine⟨[(51,.blk 64 0),(52,.blk 81 0),(53,.blk 65 0),(60,.nil),(61,.nil),(62,.nil),(63,.nil)],rfl,Zcf,?_,Zch (Rn.x2 rfl rfl) (Zch (Rn.x2 rfl rfl) (Zch (Zb9 L) (Zch (Rn.x2 rfl rfl) (Zch (Zb9 o) au27))))⟩;exact Zcj rfl rfl gg (Zca s) (Zcj rfl rfl gg (Zcp (Zb9 (Qaa _)) (Zcp (Zb9 rfl) (Zcp (Zb9 (Qaa _)) (Zcp (Zb9 (Qaj _)) (Zcp (Rn.x4 rfl rfl) (Zcp (Rn.x4 rfl rfl) (Zcp (Rn.x4 rfl rfl) (Zcp (Rn.x4 rfl rfl) Zco)))))))) (Zcj rfl rfl gg (Zca rfl) (Zck rfl rfl (Zck rfl rfl (Zck rfl rfl (Zck rfl rfl Zci))))))
 ·rintro i hi;by_cases S:i<T.length
  ·obtain⟨t,u⟩:=Qaq S;obtain⟨hit,hpt⟩:=hin t (Zae u);have htl:c.cs.length<=t.length:=by rw[hit.1,Qcn];omega
   have I:=Qrl (A:=auL c.cs) (B:=auL c.rs) hit;have K:=Qrm (A:=auL c.cs) (B:=auL c.rs) hit;rw[Qa3]at I K;have hl1:(t.take c.cs.length).length<=3:=by rw[Zas];omega
   have hl2:(t.drop c.cs.length).length<=2:=by rw[K.1,Qa3];omega
   have hsp:=l t htl;have hky:=key72 h I;have hv:=U _ I;have hcl1:=clone41 (t.take c.cs.length) (by omega);have hcl2:=clone41 (t.drop c.cs.length) (by omega);have hk:=Qix hpt;have V:(spA c (T.take (i+1))).map sliN=(spA c (T.take i)).map sliN++[sliN (t.take c.cs.length)]:=by unfold spA;rw[take_succ' u];simp
   have Y:(spB c (T.take (i+1))).map sliN=(spB c (T.take i)).map sliN++[sliN (t.drop c.cs.length)]:=by unfold spB;rw[take_succ' u];simp
   have X:spP c P (T.take (i+1))=spP c P (T.take i)++[ixT P (t.take c.cs.length)]:=by unfold spP;rw[take_succ' u];simp
   have hla:((spA c (T.take i)).map sliN).length=i:=by unfold spA;simp;omega
   have Z:((spB c (T.take i)).map sliN).length=i:=by unfold spB;simp;omega
   have hlp:(ints (nz (spP c P (T.take i)))).length=i:=by unfold spP;simp[ints];omega
   have G:=Qqm (forb c i);have hlf2:=hle i;have B:=hrs i t u;have hsi:=hsu i;have M:=hrv i t;have F:=@Qsx c i t;have hk:ixT P (t.take c.cs.length)<p.n:=by rw[hpn];exact hk
   have hr2:(t.drop c.cs.length).length=c.rs.length:=by rw[K.1,Qa3]
   have R:∀(j:Nat)y,c.rs[j]?=some y->(t.drop c.cs.length).getD j 0<y.2.n:=fun j y hy=>K.2 j y.2 (by rw[ZaG,hy];rfl);have hfa:∀z,(forb c i++[z]).flatMap rsC=(forb c i).flatMap rsC++rsC z:=fun z=>by simp
   have A:noRefs [sliN (t.take c.cs.length)]=true:=by rw[noRefs,Qaa];rfl
   have C:noRefs [sliN (t.drop c.cs.length)]=true:=by rw[noRefs,Qaa];rfl
   generalize spA c (T.take i)=LA at*;generalize spB c (T.take i)=LB at*;generalize spP c P (T.take i)=LP at*;generalize t.take c.cs.length=t1 at*;generalize t.drop c.cs.length=t2 at*;generalize vioV t1 c.xs c.ks=v at*;obtain⟨v1,v2,v3⟩:=v;dsimp only at M F hv;have hrf:=Q (ixT P t1) t2;refine ZcH (ZcI S (QnI u)) ?_;refine cp hsp ?_;refine ZcG ?_;refine cp hky ?_;refine ZcG ?_;refine Qgh (c:=keyC) (f:=ixV P) (x:=t1) (l:=P) (Qgj (fun a ha=>(Qbh h a ha).j) I hPin) hpt ?_;simp(disch:=first|omega|exact PairsOK.mk rfl|(simp only[lenW]<;>omega))only[ixV,Qac,Qad,Qae,wW,wV,simprocAttr];refine Qfa [(56,[60]),(62,[61]),(68,[62])] rfl rfl ?_;refine ZcG ?_;refine cp hcl1 ?_;refine ZcG ?_;refine cp hcl2 ?_;refine ZcH (ZcJ hla Z hlp) ?_;refine⟨⟨⟨_,rfl,fun b hb=>hb⟩,⟨_,rfl,fun b hb=>hb⟩,⟨_,rfl,fun b hb=>hb⟩,trivial⟩,?_⟩;refine cp hv ?_;cases v3 with|true=>have d:=F rfl;refine ZcH G ?_;refine⟨i+1,by omega,by omega,?_⟩;rw[V,Y,X,hsi,B,d,hfa,Zaf,QaH,QaA];refine⟨[(51,.blk 51 0),(52,.blk 52 0),(53,.blk 53 0),(60,.blk 60 1),(61,.blk 61 1),(62,.blk 62 1),(63,.blk 63 1)],rfl,Zcf,?_,Zch (Rn.x2 rfl rfl) (Zch (Rn.x2 rfl rfl) (Zch (Zb9 L) (Zch (Rn.x2 rfl rfl) (Zch (Zb9 o) au27))))⟩;exact Zcj rfl rfl gg (Zca s) (Zcj rfl rfl gg (Zcp (Zb9 (Qaa _)) (Zcp (Zb9 rfl) (Zcp (Zb9 (Qaa _)) (Zcp (Zb9 (Qaj _)) (Zcp (Rn.x1 rfl rfl) (Zcp (Rn.x1 rfl rfl) (Zcp (Rn.x1 rfl rfl) (Zcp (Rn.x1 rfl rfl) Zco)))))))) (Zcj rfl rfl gg (Zca rfl) (Zcj rfl rfl gg (Zca (SU.Qaw (Qav Qaa _) A)) (Zcj rfl rfl gg (Zca (SU.Qaw (Qav Qaa _) C)) (Zcj rfl rfl gg (Zca (SU.Qaw (Qab _) rfl)) (Zcj rfl rfl gg (Zca (SU.Qaw (QbQ _) rfl)) Zci))))))|false=>
    have d:=M rfl;refine ZcG ?_;refine cp hrf ?_;refine ZcG ?_;have E:∀{x1 x2 x3 x4 x5 x6 x7 x8:Blk},(hp [(51,x1),(52,x2),(53,x3),(54,x4),(60,x5),(61,x6),(62,x7),(63,x8)]).get 150=none:=fun{x1 x2 x3 x4 x5 x6 x7 x8}=>by simp(disch:=omega)only[QaQ,Qlq,QaE,get_e]
    cases J:(yls c (ixT P t1) t2).find? fun y=>!(c.ev y.1).c with|none=>
     rw[J]at d;replace d:(rsn c i t).toList=[]:=d;refine Qkm (n':=700) (b:=150) (T':=[(1,.ptr 51 0 0),(2,.ptr 53 0 0),(4,.fptr (stG c p q P T)),(6,.ptr 52 0 0),(7,.ptr 54 0 0),(35,tuV T),(36,.int .i64 T.length),(37,.int .i64 i),(99,rfF c (ixT P t1) t2)]) (L:=[(51,.cells 0 [evsV c.ev,its 99 c.cs,its 114 c.rs,exs c.xs,cos c.ks]),(52,.cells 0 [sliN q.al,.int .i64 (q.n:Int),sliN q.ms,egsN q.es,.sl 60 0 0 (i+1) 1,.sl 61 0 0 (i+1) 1,.sl 62 0 0 (i+1) 1,.sl 63 0 0 (forb c i).length 4]),(53,.cells 0 [.nilsl,.int .i64 0,.nilsl,.nilsl,.nilsl,.nilsl,.nilsl,.nilsl]),(54,.cells 0 [.int .i64 (i:Int)]),(60,.cells 0 (LA.map sliN++[sliN t1])),(61,.cells 0 (LB.map sliN++[sliN t2])),(62,.cells 0 (ints (nz LP)++[.int .i64 (ixT P t1:Int)])),(63,.cells 0 ((forb c i).flatMap rsC))]) ?_ rfl E rfl (N (m:=1000) hk t2 hr2 R (fun _=>_) _ (yls c (ixT P t1) t2).length ?_ (ZaJ _) ?_ (.inl ⟨rfl,rfl⟩)) gg ?_;·refine⟨[(51,.blk 51 0),(52,.blk 52 0),(53,.blk 53 0),(54,.blk 204 0),(60,.blk 60 1),(61,.blk 61 1),(62,.blk 62 1),(63,.blk 63 0)],rfl,Zcf,?_,Zch (Rn.x2 rfl rfl) (Zch (Rn.x2 rfl rfl) (Zch (Zb9 L) (Zch (Rn.x2 rfl rfl) (Zch (Rn.x2 rfl rfl) (Zch (Zb9 o) (Zch (Zb9 rfl) (Zch (Zb9 rfl) (Zch (Zb9 (Qgl _ _ _)) Zcg))))))))⟩;exact Zcj rfl rfl gg (Zca s) (Zcj rfl rfl gg (Zcp (Zb9 (Qaa _)) (Zcp (Zb9 rfl) (Zcp (Zb9 (Qaa _)) (Zcp (Zb9 (Qaj _)) (Zcp (Rn.x1 rfl rfl) (Zcp (Rn.x1 rfl rfl) (Zcp (Rn.x1 rfl rfl) (Zcp (Rn.x1 rfl rfl) Zco)))))))) (Zcj rfl rfl gg (Zca rfl) (Zcj rfl rfl gg (Zca rfl) (Zcj rfl rfl gg (Zca (SU.Qaw (Qav Qaa _) A)) (Zcj rfl rfl gg (Zca (SU.Qaw (Qav Qaa _) C)) (Zcj rfl rfl gg (Zca (SU.Qaw (Qab _) rfl)) (Zcj rfl rfl gg (Zca (QbQ _)) Zci)))))))
     ·exact(by repeat(first|exact Fresh.e|exact Fresh.le (by assumption) (by omega)|refine Fresh.set ?_ (by omega) (by omega)))
     ·intro j y hj hy;have g:=Qmb h (Zae hy);have f:(c.ev y.1).c=true:=by simpa using ZbR.1 J y (Zae hy)
      refine RSpec.of_wS (n:=300) rfl gg rfl rfl rfl ?_;simp(disch:=first|omega|exact PairsOK.mk rfl|(simp only[lenW]<;>omega))only[upsT,f,g,Qgs,QhL,evC,Qac,Qad,Qae,wW,wV,simprocAttr];exact⟨rfl,fun x=>set3 rfl⟩
     unfold leftQ;refine ZcG ?_;refine⟨i+1,by omega,by omega,?_⟩;rw[V,Y,X,hsi,B,d,Zap,QaH,QaA];refine⟨[(51,.blk 51 0),(52,.blk 52 0),(53,.blk 53 0),(60,.blk 60 0),(61,.blk 61 0),(62,.blk 62 0),(63,.blk 63 0)],rfl,Zcf,?_,Zch (Rn.x2 rfl rfl) (Zch (Rn.x2 rfl rfl) (Zch (Zb9 L) (Zch (Rn.x2 rfl rfl) (Zch (Zb9 o) au27))))⟩;exact Zcj rfl rfl gg (Zca s) (Zcj rfl rfl gg (Zcp (Zb9 (Qaa _)) (Zcp (Zb9 rfl) (Zcp (Zb9 (Qaa _)) (Zcp (Zb9 (Qaj _)) (Zcp (Rn.x1 rfl rfl) (Zcp (Rn.x1 rfl rfl) (Zcp (Rn.x1 rfl rfl) (Zcp (Rn.x1 rfl rfl) Zco)))))))) (Zcj rfl rfl gg (Zca rfl) (Zcj rfl rfl gg (Zca (SU.Qaw (Qav Qaa _) A)) (Zcj rfl rfl gg (Zca (SU.Qaw (Qav Qaa _) C)) (Zcj rfl rfl gg (Zca (SU.Qaw (Qab _) rfl)) (Zcj rfl rfl gg (Zca (QbQ _)) Zci))))))|some y=>
     rw[J]at d;replace d:(rsn c i t).toList=[(i,3,y.2,(y.1:Int))]:=d;obtain⟨n,w,hn2',hn3'⟩:=Qma J;have hlen:n<(yls c (ixT P t1) t2).length:=(Zam.1 w).1;have g:=Qmb h (Zae w);have f:(c.ev y.1).c=false:=by simpa using hn2'
     refine Qkm (n':=700) (b:=150) (T':=[(1,.ptr 51 0 0),(2,.ptr 53 0 0),(4,.fptr (stG c p q P T)),(6,.ptr 52 0 0),(7,.ptr 54 0 0),(35,tuV T),(36,.int .i64 T.length),(37,.int .i64 i),(99,rfF c (ixT P t1) t2)]) (L:=[(51,.cells 0 [evsV c.ev,its 99 c.cs,its 114 c.rs,exs c.xs,cos c.ks]),(52,.cells 0 [sliN q.al,.int .i64 (q.n:Int),sliN q.ms,egsN q.es,.sl 60 0 0 (i+1) 1,.sl 61 0 0 (i+1) 1,.sl 62 0 0 (i+1) 1,.sl 63 0 0 (forb c i).length 4]),(53,.cells 0 [.nilsl,.int .i64 0,.nilsl,.nilsl,.nilsl,.nilsl,.nilsl,.nilsl]),(54,.cells 0 [.int .i64 (i:Int)]),(60,.cells 0 (LA.map sliN++[sliN t1])),(61,.cells 0 (LB.map sliN++[sliN t2])),(62,.cells 0 (ints (nz LP)++[.int .i64 (ixT P t1:Int)])),(63,.cells 0 ((forb c i).flatMap rsC))]) (st:=.done (.exit 2)) ?hrec rfl E rfl (N (m:=1000) hk t2 hr2 R (fun _=>_) (((((hp [(51,.cells 0 [evsV c.ev,its 99 c.cs,its 114 c.rs,exs c.xs,cos c.ks]),(52,.cells 0 [sliN q.al,.int .i64 (q.n:Int),sliN q.ms,egsN q.es,.sl 60 0 0 (i+1) 1,.sl 61 0 0 (i+1) 1,.sl 62 0 0 (i+1) 1,.sl 63 0 0 (forb c i).length 4]),(53,.cells 0 [.nilsl,.int .i64 0,.nilsl,.nilsl,.nilsl,.nilsl,.nilsl,.nilsl]),(54,.cells 0 [.int .i64 (i:Int)]),(60,.cells 0 (LA.map sliN++[sliN t1])),(61,.cells 0 (LB.map sliN++[sliN t2])),(62,.cells 0 (ints (nz LP)++[.int .i64 (ixT P t1:Int)])),(63,.cells 0 ((forb c i).flatMap rsC))]).set 315 (.cells 0 (rsC (i,3,y.2,(y.1:Int))))).set 63 (.cells 1 ((forb c i).flatMap rsC++rsC (i,3,y.2,(y.1:Int))))).set 52 (.cells 0 [sliN q.al,.int .i64 (q.n:Int),sliN q.ms,egsN q.es,.sl 60 0 0 (i+1) 1,.sl 61 0 0 (i+1) 1,.sl 62 0 0 (i+1) 1,.sl 63 1 0 ((forb c i).length+1) 4])).set 150 (.loop 0 120 [(1,.ptr 51 0 0),(2,.ptr 53 0 0),(4,.fptr (stG c p q P T)),(6,.ptr 52 0 0),(7,.ptr 54 0 0),(35,tuV T),(36,.int .i64 T.length),(37,.int .i64 i),(99,rfF c (ixT P t1) t2)] [100,101] (.s lpA) (.s lpB) (.done (.exit 2)))) n ?hfr (Nat.le_of_lt hlen) ?hY (.inr ⟨y,w,?L⟩)) gg ?hQ;case hrec=>refine⟨[(51,.blk 51 0),(52,.blk 52 0),(53,.blk 53 0),(54,.blk 204 0),(60,.blk 60 1),(61,.blk 61 1),(62,.blk 62 1),(63,.blk 63 0)],rfl,Zcf,?_,Zch (Rn.x2 rfl rfl) (Zch (Rn.x2 rfl rfl) (Zch (Zb9 L) (Zch (Rn.x2 rfl rfl) (Zch (Rn.x2 rfl rfl) (Zch (Zb9 o) (Zch (Zb9 rfl) (Zch (Zb9 rfl) (Zch (Zb9 (Qgl _ _ _)) Zcg))))))))⟩;exact Zcj rfl rfl gg (Zca s) (Zcj rfl rfl gg (Zcp (Zb9 (Qaa _)) (Zcp (Zb9 rfl) (Zcp (Zb9 (Qaa _)) (Zcp (Zb9 (Qaj _)) (Zcp (Rn.x1 rfl rfl) (Zcp (Rn.x1 rfl rfl) (Zcp (Rn.x1 rfl rfl) (Zcp (Rn.x1 rfl rfl) Zco)))))))) (Zcj rfl rfl gg (Zca rfl) (Zcj rfl rfl gg (Zca rfl) (Zcj rfl rfl gg (Zca (SU.Qaw (Qav Qaa _) A)) (Zcj rfl rfl gg (Zca (SU.Qaw (Qav Qaa _) C)) (Zcj rfl rfl gg (Zca (SU.Qaw (Qab _) rfl)) (Zcj rfl rfl gg (Zca (QbQ _)) Zci)))))))
     case hfr=>exact(by repeat(first|exact Fresh.e|exact Fresh.le (by assumption) (by omega)|refine Fresh.set ?_ (by omega) (by omega)))
     case hY=>
      intro j z hj hz;have g:=Qmb h (Zae hz);have f:(c.ev z.1).c=true:=by simpa using hn3' j z hj hz
      refine RSpec.of_wS (n:=300) rfl gg rfl rfl rfl ?_;simp(disch:=first|omega|exact PairsOK.mk rfl|(simp only[lenW]<;>omega))only[upsT,f,g,Qgs,QhL,evC,Qac,Qad,Qae,wW,wV,simprocAttr];exact⟨rfl,fun x=>set3 rfl⟩
     case L=>refine RSpec.of_wS (n:=300) rfl gg rfl rfl rfl ?_;simp(disch:=first|omega|exact PairsOK.mk rfl|(simp only[lenW]<;>omega))only[upsT,f,g,Qgs,QhL,evC,G,Qac,Qad,Qae,wW,wV,simprocAttr];exact⟨rfl,fun x=>set6 rfl⟩
     case hQ=>unfold leftQ;refine⟨rfl,?_⟩;refine ZcG ?_;refine⟨i+1,by omega,by omega,?_⟩;rw[V,Y,X,hsi,B,d,hfa,Zaf,QaH,QaA];refine⟨[(51,.blk 51 0),(52,.blk 52 0),(53,.blk 53 0),(60,.blk 60 0),(61,.blk 61 0),(62,.blk 62 0),(63,.blk 63 1)],rfl,Zcf,?_,Zch (Rn.x2 rfl rfl) (Zch (Rn.x2 rfl rfl) (Zch (Zb9 L) (Zch (Rn.x2 rfl rfl) (Zch (Zb9 o) au27))))⟩;exact Zcj rfl rfl gg (Zca s) (Zcj rfl rfl gg (Zcp (Zb9 (Qaa _)) (Zcp (Zb9 rfl) (Zcp (Zb9 (Qaa _)) (Zcp (Zb9 (Qaj _)) (Zcp (Rn.x1 rfl rfl) (Zcp (Rn.x1 rfl rfl) (Zcp (Rn.x1 rfl rfl) (Zcp (Rn.x1 rfl rfl) Zco)))))))) (Zcj rfl rfl gg (Zca rfl) (Zcj rfl rfl gg (Zca (SU.Qaw (Qav Qaa _) A)) (Zcj rfl rfl gg (Zca (SU.Qaw (Qav Qaa _) C)) (Zcj rfl rfl gg (Zca (SU.Qaw (Qab _) rfl)) (Zcj rfl rfl gg (Zca (SU.Qaw (QbQ _) rfl)) Zci))))))
  have e:i=T.length:=by omega
  subst e;have hla:((spA c T).map sliN).length=T.length:=by unfold spA;simp
  have Z:((spB c T).map sliN).length=T.length:=by unfold spB;simp
  have hlp:(ints (nz (spP c P T))).length=T.length:=by unfold spP;simp[ints]
  have G:=Qqm (forb c T.length);refine ZcB S ?_;refine⟨(),[(52,.blk 52 0),(53,.blk 53 0)],rfl,Zcf,?_,Zch (Rn.x2 rfl rfl) (Zch (Rn.x2 rfl rfl) Zcg)⟩;exact Zcj rfl rfl gg (Zcp (Zb9 (Qaa _)) (Zcp (Zb9 rfl) (Zcp (Zb9 (Qaa _)) (Zcp (Zb9 (Qaj _)) (Zcp (Zcq (b:=60) (g:=0) gg rfl rfl (by simp[spA]) (by simpa using hla) (Zca (Qav Qaa _))) (Zcp (Zcq (b:=61) (g:=0) gg rfl rfl (by simp[spB]) (by simpa using Z) (Zca (Qav Qaa _))) (Zcp (Zcq (b:=62) (g:=0) gg rfl rfl (by simp[spP]) (by simpa using hlp) (Zca (Qab _))) (Zcp (Zcq (b:=63) (g:=0) gg rfl rfl rfl G (Zca (QbQ _))) Zco)))))))) (Zcj rfl rfl gg (Zca rfl) Zci)
 rintro _ _;refine ZcG ?_;exact⟨.inr trivial,_,rfl,Zb9 hns⟩
end Go.AM.SO
namespace Go.AM.TY
open Go.Proofs
set_option maxHeartbeats 4000000
noncomputable section
def cf:YA.Cf:={most:=.pure}
def s22:SFn:=by
 refine(?f:YA.Yt Tryz.prog cf 22 [[0,4],[12,13,11,14,15],[16],[1,5,6,17,18,19,20],[4,6,17],[21],[],[25,26,27],[9,28,29,30,31,32],[33],[1,22,23,24,35,36,37,34,38,39],[40],[5,7,10,6,41,42,43,44],[5,7,10,6,41,45,46,47,48,49,50]]) ?s ?h;case h=>exact YA.rr
 exact fun s _=>s
theorem ok22:okFn Tryz.prog 22 s22=true:=by kernel_rfl
end
end Go.AM.TY
namespace Go.AM.SO
open Go.Proofs Go.AM.SD Go.AM.SE
def fbs(l:List (Nat×Int×Int×Int)):List Nat:=l.map (·.1)
abbrev fbd(c:Cel):List Nat:=fbs (forb c (sync0 (allA c)).1.length)
theorem Qro{c:Cel}{i:Nat}{x:Nat×Int×Int×Int}(h:x∈rsnO c i):x.1=i:=by
 unfold rsnO rsn at h;split at h;·simp at h;rw[h]
 simp at h;obtain⟨a,b,_,rfl⟩:=h;rfl
theorem Qmc(c:Cel):∀n,(fbs (forb c n)).Pairwise (·<·)/\∀x∈fbs (forb c n),x<n
 |0=>by simp[forb,fbs]|n+1=>by
  obtain⟨h1,d⟩:=Qmc c n;rw[Qgm];unfold fbs at h1 d⊢;rw[ZaN];have hm:∀x∈(rsnO c n).map (·.1),x=n:=fun x a=>by obtain⟨y,b,rfl⟩:=Zao.1 a;exact Qro b
  have f:((rsnO c n).map (·.1)).Pairwise (·<·):=by unfold rsnO;cases rsn c n _<;>simp
  refine⟨Zba.2 ⟨h1,f,fun x a y b=>?_⟩,fun x a=>?_⟩;·rw[hm y b];exact d x a
  rcases ZaE.1 a with a|a;·have:=d x a;omega
  rw[hm x a];omega
theorem QnL(e:Nat->Evt):(uncL e 5).Pairwise (·<·)/\∀x∈uncL e 5,x<32:=by refine⟨List.pairwise_lt_range.filter _,fun x a=>?_⟩;have:=Zat.1 (Za8.1 a).1;omega
theorem qok_c(c:Cel):QOk (syncA (allA c)) (fbd c) (uncL c.ev 5):=⟨(Qmc c _).1,(Qmc c _).2,(QnL _).1,(QnL _).2⟩
theorem wfA_c(c:Cel)(h:WfCel c):WfA (syncA (allA c)):=(Qfr (QdS h) (by rw[Qcn];have:=h.c3;have:=h.r2;omega)).toWfA
def resC(c:Cel):Res:=pRes (syncA (allA c)) (fbd c) (uncL c.ev 5) true
theorem Qrp{l:List (Nat×Int×Int×Int)}{i:Nat}{x:Nat×Int×Int×Int}(h:l[i]?=some x):(l.flatMap rsC).drop (i*4)=.int .i64 (x.1:Int)::.int .i64 x.2.1::.int .i64 x.2.2.1::.int .i64 x.2.2.2::(l.drop (i+1)).flatMap rsC:=Qbf (f:=rsC) (k:=4) (fun _=>rfl) h
theorem Qrq{l:List (Nat×Int×Int×Int)}{i:Nat}{x:Nat×Int×Int×Int}(h:l[i]?=some x):fbs (l.take (i+1))=fbs (l.take i)++[x.1]:=by unfold fbs;rw[take_succ' h,ZaN];rfl
theorem Qsy{l:List (Nat×Int×Int×Int)}{i:Nat}(h:i<=l.length):(fbs (l.take i)).length=i:=by unfold fbs;rw[Zaz,Zas];omega
abbrev ni9:List AV:=[.nilsl,.nilsl,.nilsl,.int .i64 0,.nilsl,.int .i64 0,.nilsl,.nilsl,.nilsl]
abbrev ni8:List AV:=[.nilsl,.int .i64 0,.nilsl,.nilsl,.nilsl,.nilsl,.nilsl,.nilsl]
theorem _root_.Go.AM.au28{p:Prop}(h:p:=by repeat(first|exact Zcg|(refine Zch ?_ ?_;·(first|exact Rn.any|exact Rn.x1 rfl rfl|exact Rn.x2 rfl rfl|exact Rn.x3 rfl rfl|exact Rn.x4 rfl rfl|exact Rn.x5 rfl|exact Rn.x6 rfl|exact Rn.x7 rfl|(refine Rn.slot ?_ ?_;(first|rfl|(rw[ZaO];rfl));(first|rfl|(simp only[noRef,noRefs,Qag,Zad,Zac,Zah,Qab,Qan,Qaa,Qaj,QaX,Qaf,Qgf,QbQ];done)))|(refine Rn.fn ?_ ?_<;>(repeat'(first|exact Zco|refine Zcp ?_ ?_|exact Zb9 rfl|exact Rn.x6 rfl|exact Rn.x2 rfl rfl|exact Rn.x5 rfl|exact Rn.x1 rfl rfl))))))):p:=h
theorem cell22(c:Cel)(h:WfCel c):PSpec Tryz.prog 22 [celV c] (.tup [.agg (spC c),SE.rsV (resC c),.int .i64 0]):=by
 have d:=Qcc c;have a:noRefs (spC c)=true:=Qfs _ _ _ _;refine Zcb 64 TY.ok22 rfl (by rw[noRefs,SU.Qbl];rfl) (by rw[noRef,noRefs,noRef,a,noRefs,Qep];rfl) ?_;have hO:=specify18 c h;have n:=select86 c.ev h.ev;have hw:=wfA_c c h;have s:=WfA.el1 hw;have o:=result39 (syncA (allA c)) (fbd c) (uncL c.ev 5) true hw (qok_c c) (by omega);have k:=Qep (pRes (syncA (allA c)) (fbd c) (uncL c.ev 5) true);have hle:=QhK c (sync0 (allA c)).1.length;have u:(sync0 (allA c)).1.length<=4096:=hw.n5;have p:(syncA (allA c)).n=(sync0 (allA c)).1.length:=rfl;unfold resC;rw[spC,spG]at hO a⊢;unfold fbd at*;generalize forb c (sync0 (allA c)).1.length=L at*;generalize pRes (syncA (allA c)) (fbs L) (uncL c.ev 5) true=R at*;generalize syncA (allA c)=q at*;generalize(sync0 (auL c.cs)).1=P at*;generalize(sync0 (allA c)).1=T at*;have r:(spA c T).length=T.length:=by simp[spA]
 have t:(spB c T).length=T.length:=by simp[spB]
 unfold TY.s22;refine ZcG ?_;refine cp hO ?_;refine ZcG ?_;refine Qat 140 (fun i:Nat=>[(1,.ptr 51 0 0),(2,.ptr 53 0 0),(3,.ptr 54 0 0),(5,.ptr 52 0 0),(7,.sl 76 0 0 i 1),(22,rss L),(23,.int .i64 L.length),(24,.int .i64 i)]) (fun i=>[(51,.cells 0 [evsV c.ev,its 99 c.cs,its 114 c.rs,exs c.xs,cos c.ks]),(52,.cells 0 [sliN q.al,.int .i64 (q.n:Int),sliN q.ms,egsN q.es,tuV (spA c T),tuV (spB c T),sliN (spP c P T),rss L]),(53,.cells 0 ni8),(54,.cells 0 ni9),(76,.cells 0 (ints (nz (fbs (L.take i)))))]) (fun i=>i<=L.length) (fun i=>L.length-i) 0 0 200 (fun _:Unit=>[(1,.ptr 51 0 0),(2,.ptr 53 0 0),(3,.ptr 54 0 0),(5,.ptr 52 0 0),(7,sliN (fbs L))]) (fun _=>[(51,.cells 0 [evsV c.ev,its 99 c.cs,its 114 c.rs,exs c.xs,cos c.ks]),(52,.cells 0 [sliN q.al,.int .i64 (q.n:Int),sliN q.ms,egsN q.es,tuV (spA c T),tuV (spB c T),sliN (spP c P T),rss L]),(53,.cells 0 ni8),(54,.cells 0 ni9)]) (fun _=>True) ?_ (Zaj _) ?_ ?_;·refine⟨[(51,.blk 64 0),(52,.blk 73 0),(53,.blk 65 0),(54,.blk 66 0),(76,.nil)],rfl,au0,?_,au28⟩;exact Zcj rfl rfl gg (Zca d) (Zcj rfl rfl gg (Zca a) (Zcj rfl rfl gg (Zca rfl) (Zcj rfl rfl gg (Zca rfl) (Zck rfl rfl Zci))))
 ·rintro i hi;by_cases b:i<L.length
  ·obtain⟨x,m⟩:=Qaq b;have f:=Qrp m;have g:4<=((L.flatMap rsC).drop (i*4)).length:=by rw[f];simp
   have l:(ints (nz (fbs (L.take i)))).length=i:=by simp[ints,Qsy (show i<=L.length by omega)]
   refine ZcH (ZcK b f g l) ?_;refine⟨i+1,by omega,by omega,?_⟩;rw[Qrq m,QaH,QaA];refine⟨[(51,.blk 51 0),(52,.blk 52 0),(53,.blk 53 0),(54,.blk 54 0),(76,.blk 76 1)],rfl,au0,?_,au28⟩;exact Zcj rfl rfl gg (Zca d) (Zcj rfl rfl gg (Zca a) (Zcj rfl rfl gg (Zca rfl) (Zcj rfl rfl gg (Zca rfl) (Zcj rfl rfl gg (Zca (SU.Qaw (Qab _) rfl)) Zci))))
  have e:i=L.length:=by omega
  subst e;refine ZcB b ?_;refine⟨(),?_⟩;exact⟨[(51,.blk 51 0),(52,.blk 52 0),(53,.blk 53 0),(54,.blk 54 0)],rfl,Zcf,Zcj rfl rfl gg (Zca d) (Zcj rfl rfl gg (Zca a) (Zcj rfl rfl gg (Zca rfl) (Zcj rfl rfl gg (Zca rfl) Zci))),Zch (Rn.x2 rfl rfl) (Zch (Rn.x2 rfl rfl) (Zch (Rn.x2 rfl rfl) (Zch (Rn.x2 rfl rfl) (Zch (Zcq (b:=76) (g:=0) gg rfl rfl (by simp[fbs]) (by simp[ints,fbs]) (Zca (Qab _))) Zcg))))⟩
 rintro _ _;refine ZcG ?_;refine cp n ?_;refine ZcG ?_;refine cp o ?_;refine ZcG ?_;refine⟨.inr trivial,_,rfl,Zb9 ?_⟩;rw[noRef,noRefs,noRef,a,noRefs,k];rfl
end Go.AM.SO
namespace Go.AM.OD
open Go.Proofs
set_option maxHeartbeats 4000000
noncomputable section
def cf:YA.Cf:={most:=.pure,always:=[61,152].map fun k=>(k,.heap)}
def s61:SFn:=by
 refine(?f:YA.Yt Tryz.prog cf 61 [[0,4],[11,12,13],[],[14,15,16],[17,20,21,22],[23,24,25,26,27],[32,33,34,35],[32,18,19],[6,31,29,30,28],[8],[36],[],[39,40,41,42],[43,46,47,48,49,50],[51,52,53,54,55,56,62,63,70,71],[10,80,81,82,83,84,85],[10,80,44,45],[9,37,38],[1,2,5,79,76,78,77,75,72,74,73,69,68,67,64,66,65,61,60,57,59,58,7,8,86]]) ?s ?h;case h=>exact YA.rr
 exact fun s _=>s
theorem ok61:okFn Tryz.prog 61 s61=true:=by kernel_rfl
end
end Go.AM.OD
namespace Go.AM.SE
open Go.Proofs Go.AM.SD Go.AM.OD
abbrev blF(l:LB)(n:Nat):AV:=.fsl (bls l) n 1
def o0P(n:Nat)(mk:List Nat)(left:Nat->Bool)(i:Nat):List Int:=(List.range i).map (fun i=>if left i&&mk.contains i then 0 else-1)++List.replicate (n-i) 0
theorem Qsz{n:Nat}{mk:List Nat}{left:Nat->Bool}{i:Nat}(h:i<=n):(o0P n mk left i).length=n:=by unfold o0P;simp;omega
theorem QsA{n:Nat}{mk:List Nat}{left:Nat->Bool}{i:Nat}(h:i<n):(o0P n mk left i).set i (if left i&&mk.contains i then 0 else-1)=o0P n mk left (i+1):=by unfold o0P;rw[List.set_append_right _ _ (by simp),Zaz,Zby,Nat.sub_self,show n-i=(n-(i+1))+1 by omega,Za6,ZbE,ZaI,ZaN,ZaP];rfl
theorem QsB{n:Nat}{mk:List Nat}{left:Nat->Bool}:o0P n mk left n=o0 n mk left:=by unfold o0P o0;simp
theorem Qrr{es:List Ed}{left:Nat->Bool}{r i:Nat}{o:List Int}{e:Ed}(h:es[i]?=some e):rRd (es.take (i+1)) left r o=rEd left r (rRd (es.take i) left r o) e:=by unfold rRd;rw[ZaT,h,Option.toList,Za5];rfl
theorem Qi3{left:Nat->Bool}{r:Nat}(es:List Ed)(o:List Int):(rRd es left r o).1.length=o.length:=by
 have key:∀(es:List Ed)(s:List Int×Bool),(es.foldl (rEd left r) s).1.length=s.1.length:=by intro es;induction es with|nil=>intro s;rfl|cons e es a=>intro s;rw[ZaH,a];unfold rEd;split<;>simp
 exact key es _
theorem QsC{n:Nat}{o:List Int}:cntN n o<=n:=by unfold cntN;exact Zay List.countP_le_length (by simp)
theorem dist33(a:Aut)(l:LB)(q:InN a.n a.es a.ms)(hl:l.length=a.n)(hn:a.n<=4096)(Z:a.es.length<=1000000)(X:a.ms.length<=1000000):HSpec Tryz.prog 61 [aV a,blF l a.n] .e (.sl 84 0 0 a.n 1) (hp [(84,.cells 0 (ints (rDist a.es (lf l) (a.n+1) 1 (o0 a.n a.ms (lf l)))))]):=by
 refine HSpec.QbN 100 ok61 rfl ?_;have K:(a.n:Int)<=140737488355328:=by omega
 have M:(8:Int)*a.n<=140737488355328:=by omega
 unfold s61;refine ZcF (ZcJ K M @Qhz) ?_;refine Qat 120 (fun i:Nat=>[(1,blF l a.n),(2,.ptr 50 0 0),(5,.sl 84 0 0 a.n 1),(6,.int .i64 i)]) (fun i=>[(50,.cells 0 [sliN a.al,.int .i64 (a.n:Int),sliN a.ms,egsN a.es]),(84,.cells 0 (ints (o0P a.n a.ms (lf l) i)))]) (fun i=>i<=a.n) (fun i=>a.n-i) 0 0 160 (fun _:Unit=>[(1,blF l a.n),(2,.ptr 50 0 0),(5,.sl 84 0 0 a.n 1)]) (fun _=>[(50,.cells 0 [sliN a.al,.int .i64 (a.n:Int),sliN a.ms,egsN a.es]),(84,.cells 0 (ints (o0 a.n a.ms (lf l))))]) (fun _=>True) ?_ (Zaj _) ?_ ?_
 ·have e:List.replicate a.n (0:Int)=o0P a.n a.ms (lf l) 0:=by simp[o0P]
  rw[e];exact⟨[(50,.blk 100 0),(84,.blk 104 0)],rfl,au0,au11,au12⟩
 ·rintro i hi;by_cases c:i<a.n
  ·have v:i<l.length:=by omega
   have G:=Qsz (mk:=a.ms) (left:=lf l) hi;have b:=QsA (mk:=a.ms) (left:=lf l) c;generalize o0P a.n a.ms (lf l) i=o at*;have h1:i+1<=o.length:=by omega
   have N:(o.set i (-1)).set i 0=o.set i 0:=by rw[List.set_set]
   by_cases f:lf l i=true
   ·have z:=has15 (nz a.ms) i (by simp;omega);rw[Qec,QbF]at z;by_cases hc:a.ms.contains i=true;·rw[f,hc,if_pos (by rfl)]at b;rw[hc]at z;refine ZcF (ZcL c h1 @Qbo (QaK v) f) ?_;refine cp z ?_;simp(disch:=first|omega|exact PairsOK.mk rfl|(simp only[lenW]<;>omega))only[c,h1,Qbo,N,List.length_set,wW,wV,simprocAttr];refine⟨i+1,by omega,by omega,?_⟩;rw[<-b];exact⟨[(50,.blk 50 0),(84,.blk 84 0)],rfl,au0,au11,au12⟩
    rw[Zai]at hc;rw[f,hc,if_neg (by decide)]at b;rw[hc]at z;refine ZcF (ZcL c h1 @Qbo (QaK v) f) ?_;refine cp z ?_;refine ZcE ?_;refine⟨i+1,by omega,by omega,?_⟩;rw[<-b];exact⟨[(50,.blk 50 0),(84,.blk 84 0)],rfl,au0,au11,au12⟩
   rw[Zai]at f;rw[f,Bool.false_and,if_neg (by decide)]at b;refine ZcF (ZcL c h1 @Qbo (QaK v) f) ?_;refine⟨i+1,by omega,by omega,?_⟩;rw[<-b];exact⟨[(50,.blk 50 0),(84,.blk 84 0)],rfl,au0,au11,au12⟩
  have e:i=a.n:=by omega
  subst e;refine ZcF c ?_;refine⟨(),?_⟩;rw[<-QsB];exact⟨[(50,.blk 50 0),(84,.blk 84 0)],rfl,au0,au11,au12⟩
 rintro _ _;refine ZcE ?_;have O:=RI.start (left:=lf l) q;have T:cntN a.n (o0 a.n a.ms (lf l))<=a.n:=QsC;have J:=fun e he=>q.1 e he;generalize o0 a.n a.ms (lf l)=H at*;refine Qat 180 (fun t:Nat×List Int×Bool=>[(1,blF l a.n),(2,.ptr 50 0 0),(5,.sl 84 0 0 a.n 1),(7,.int .i64 ((a.n+2-t.1:Nat):Int)),(8,.bool t.2.2)]) (fun t=>[(50,.cells 0 [sliN a.al,.int .i64 (a.n:Int),sliN a.ms,egsN a.es]),(84,.cells 0 (ints t.2.1))]) (fun t=>RI a.n a.es a.ms (lf l) (a.n+2-t.1) t.2.1/\t.1<=a.n+1/\(t.2.2=true->cntN a.n t.2.1<t.1)/\(if t.2.2 then rDist a.es (lf l) t.1 (a.n+2-t.1) t.2.1 else t.2.1)=rDist a.es (lf l) (a.n+1) 1 H) (fun t=>t.1) (a.n+1,H,true) 2 200 (fun _:Unit=>[(5,.sl 84 0 0 a.n 1)]) (fun _=>[(84,.cells 0 (ints (rDist a.es (lf l) (a.n+1) 1 H)))]) (fun _=>True) ?_ ?_ ?_ ?_
 ·have e:a.n+2-(a.n+1)=1:=by omega
  dsimp only;rw[e];exact⟨[(50,.blk 50 0),(84,.blk 84 0)],rfl,au0,au11,au12⟩
 ·have e:a.n+2-(a.n+1)=1:=by omega
  dsimp only;rw[e];exact⟨O,by omega,fun _=>by omega,rfl⟩
 ·rintro⟨k,o,more⟩⟨E,hk,B,heq⟩;dsimp only at E hk B heq⊢;cases more with|false=>rw[if_neg (by decide)]at heq;refine ZcE ?_;refine⟨(),?_⟩;rw[<-heq];exact⟨[(84,.blk 84 0)],rfl,au0,au11,au12⟩|true=>
  rw[if_pos rfl]at heq;have Y:=B rfl;obtain⟨k,rfl⟩:∃U,k=U+1:=⟨k-1,by omega⟩;have S:a.n+2-k=(a.n+2-(k+1))+1:=by omega
  have y:1<=a.n+2-(k+1):=by omega
  have hrn:a.n+2-(k+1)<=4097:=by omega
  generalize V:a.n+2-(k+1)=r at*;have R:=RJ.all y q E;have F:=E.next y q;have s:∀x,x<a.n->0<=o.getD x 0->0<=(rRd a.es (lf l) r o).1.getD x 0:=fun x L Q=>by rw[R.old x L Q];exact Q
  have P:(rRd a.es (lf l) r o).2=true->cntN a.n (rRd a.es (lf l) r o).1<k:=fun hf=>by obtain⟨x,L,h1,h⟩:=R.flag hf;have:=Qo7 s L h1 h;omega
  rw[rDist]at heq;have G:=E.len;refine ZcE ?_;refine Qat 220 (fun i:Nat=>[(1,blF l a.n),(2,.ptr 50 0 0),(5,.sl 84 0 0 a.n 1),(7,.int .i64 (r:Int)),(8,.bool (rRd (a.es.take i) (lf l) r o).2),(9,.int .i64 i)]) (fun i=>[(50,.cells 0 [sliN a.al,.int .i64 (a.n:Int),sliN a.ms,egsN a.es]),(84,.cells 0 (ints (rRd (a.es.take i) (lf l) r o).1))]) (fun i=>i<=a.es.length) (fun i=>a.es.length-i) 0 4 240 (fun _:Unit=>[(1,blF l a.n),(2,.ptr 50 0 0),(5,.sl 84 0 0 a.n 1),(7,.int .i64 (r:Int)),(8,.bool (rRd a.es (lf l) r o).2)]) (fun _=>[(50,.cells 0 [sliN a.al,.int .i64 (a.n:Int),sliN a.ms,egsN a.es]),(84,.cells 0 (ints (rRd a.es (lf l) r o).1))]) (fun _=>True) ?_ (Zaj _) ?_ ?_;·exact⟨[(50,.blk 50 0),(84,.blk 84 0)],rfl,au0,au11,au12⟩
  ·rintro i hi;by_cases c:i<a.es.length
   ·obtain⟨e,he⟩:=Qaq c;obtain⟨m,p⟩:=J e (Zae he);have b:=Qrr (left:=lf l) (r:=r) (o:=o) he;have htl:=Qi3 (left:=lf l) (r:=r) (a.es.take i) o;generalize rRd (a.es.take i) (lf l) r o=t at*;have n:e.1<l.length:=by omega
    have g:e.2.2<l.length:=by omega
    have u:e.1<t.1.length:=by omega
    have A:e.2.2<t.1.length:=by omega
    by_cases h1:lf l e.1=true
    ·by_cases h:lf l e.2.2=true
     ·by_cases w:t.1.getD e.1 0<0
      ·by_cases C:t.1.getD e.2.2 0=(r:Int)-1
       ·have d:rEd (lf l) r t e=(t.1.set e.1 (r:Int),true):=by unfold rEd;rw[if_pos (by rw[h1,h,decide_eq_true w,decide_eq_true C];rfl)]
        rw[d]at b;have I:e.1+1<=t.1.length:=by omega
        refine ZcF (ZcU c (QaJ he) m p (QaK n) (QaK g) h1 h (QaW u) (QaW A) w C I @Qbo) ?_;refine⟨i+1,by omega,by omega,?_⟩;rw[b];exact⟨[(50,.blk 50 0),(84,.blk 84 0)],rfl,au0,au11,au12⟩
       have d:rEd (lf l) r t e=t:=by unfold rEd;rw[if_neg (by rw[h1,h,decide_eq_true w,decide_eq_false C];decide)]
       rw[d]at b;refine ZcF (ZcS c (QaJ he) m p (QaK n) (QaK g) h1 h (QaW u) (QaW A) w C) ?_;refine⟨i+1,by omega,by omega,?_⟩;rw[b];exact⟨[(50,.blk 50 0),(84,.blk 84 0)],rfl,au0,au11,au12⟩
      have d:rEd (lf l) r t e=t:=by unfold rEd;rw[if_neg (by rw[h1,h,decide_eq_false w];simp)]
      rw[d]at b;refine ZcF (ZcQ c (QaJ he) m p (QaK n) (QaK g) h1 h (QaW u) w) ?_;refine⟨i+1,by omega,by omega,?_⟩;rw[b];exact⟨[(50,.blk 50 0),(84,.blk 84 0)],rfl,au0,au11,au12⟩
     have d:rEd (lf l) r t e=t:=by unfold rEd;rw[if_neg (by simp[h])]
     rw[d]at b;rw[Zai]at h;refine ZcF (ZcO c (QaJ he) m p (QaK n) (QaK g) h1 h) ?_;refine⟨i+1,by omega,by omega,?_⟩;rw[b];exact⟨[(50,.blk 50 0),(84,.blk 84 0)],rfl,au0,au11,au12⟩
    have d:rEd (lf l) r t e=t:=by unfold rEd;rw[if_neg (by simp[h1])]
    rw[d]at b;rw[Zai]at h1;refine ZcF (ZcM c (QaJ he) m p (QaK n) h1) ?_;refine⟨i+1,by omega,by omega,?_⟩;rw[b];exact⟨[(50,.blk 50 0),(84,.blk 84 0)],rfl,au0,au11,au12⟩
   have e:i=a.es.length:=by omega
   subst e;refine ZcF c ?_;refine⟨(),?_⟩;exact⟨[(50,.blk 50 0),(84,.blk 84 0)],rfl,au0,au11,au12⟩
  rintro _ _;generalize rRd a.es (lf l) r o=t at*;refine ZcE ?_;refine⟨(k,t.1,t.2),by dsimp only;omega,?_,?_⟩;·dsimp only;rw[S];exact⟨F,by omega,P,heq⟩
  dsimp only;rw[S];exact⟨[(50,.blk 50 0),(84,.blk 84 0)],rfl,au0,au11,au12⟩
 rintro _ _;refine ZcE ?_;exact⟨.inr trivial,_,rfl,⟨[(84,.blk 84 0)],rfl,au0,au11,au12⟩⟩
end Go.AM.SE
namespace Go.AM.SO
open Go.Proofs Go.AM.SD Go.AM.SE
theorem Qhc{α:Type}{p k:α->Bool}:∀{l:List α},l.Pairwise (fun x y=>¬(p x=true/\p y=true))->(l.filter k).find? p=(l.find? p).filter k
 |[],_=>rfl|a::l,h=>by
  obtain⟨h1,c⟩:=Zav.1 h;have b:=Qhc (k:=k) c;cases hp:p a
  ·rw[List.find?_cons_of_neg (by simp[hp]),ZbC];split;·rw[List.find?_cons_of_neg (by simp[hp]),b]
   exact b
  have d:l.find? p=none:=ZbR.2 fun x g f=>h1 x g ⟨hp,f⟩;rw[List.find?_cons_of_pos hp,ZbC];split;·rename_i hk;rw[List.find?_cons_of_pos hp];simp[Option.filter,hk]
  rename_i hk;rw[b,d];simp[Option.filter,hk]
theorem Qqn(es:List Ed)(left:Nat->Bool)(v:Nat):sOut es left v=(sOut es (fun _=>true) v).filter fun e=>left e.2.2:=by unfold sOut;rw[List.filter_filter];refine Zbw fun x _=>?_;cases left x.2.2<;>simp
theorem QtF{a:Aut}(h:WfA a)(v ev:Nat):(sOut a.es (fun _=>true) v).Pairwise fun x y=>¬(decide (x.2.1=ev)=true/\decide (y.2.1=ev)=true):=by unfold sOut;refine(h.es.filter _).imp_of_mem fun{x y}d c f=>?_;have h1:=(Za8.1 d).2;have b:=(Za8.1 c).2;simp at h1 b⊢;omega
theorem QmF{a:Aut}{left:Nat->Bool}(h:WfA a){i v:Nat}(c:(sAll a left).1[i]?=some v)(ev:Nat):stepA (restr a left).es i ev=(stepA a.es v ev).bind fun t=>if left t then some (SD.idx (sAll a left).1 t)else none:=by rw[Qgk,Qgk,Qe3 h c,Qqn,List.find?_map];have:=Qhc (k:=fun e:Ed=>left e.2.2) (QtF h v ev);have e:(fun x:Ed=>decide (x.2.1=ev))∘num (sAll a left).1 i=fun x:Ed=>decide (x.2.1=ev):=rfl;rw[e,this];cases(sOut a.es (fun _=>true) v).find? fun x=>decide (x.2.1=ev)with|none=>rfl|some x=>
 show((if left x.2.2=true then some x else none).map _).map _=_;cases b:left x.2.2;·simp[b]
 simp[b,num]
theorem Qqo{a:Aut}{f u:List Nat}(h:WfA a){i v:Nat}(c:(sAll a (lf (fin a.n a.es a.ms f u true).1)).1[i]?=some v)(ev:Nat):(stepA a.es v ev=none/\stepA (restr a (lf (fin a.n a.es a.ms f u true).1)).es i ev=none)\/(∃t j,stepA a.es v ev=some t/\stepA (restr a (lf (fin a.n a.es a.ms f u true).1)).es i ev=some j/\(sAll a (lf (fin a.n a.es a.ms f u true).1)).1[j]?=some t)\/(∃t,stepA a.es v ev=some t/\stepA (restr a (lf (fin a.n a.es a.ms f u true).1)).es i ev=none/\ev∉u):=by have hk:=Qnb (forb:=f) (unc:=u) h.inN h.nd h.srt;have n:=(Qdb (left:=lf (fin a.n a.es a.ms f u true).1) h).1;have b:=QmF h c ev;have k:=(Zam.1 c).1;have g:=n.lft v (Zae c);cases hw:stepA a.es v ev with|none=>rw[hw]at b;exact .inl ⟨rfl,b⟩|some t=>
 rw[hw]at b;have he:∃e∈a.es,e.1=v/\e.2.1=ev/\e.2.2=t:=by unfold stepA at hw;cases hf:a.es.find? fun e=>e.1==v&&e.2.1==ev with|none=>rw[hf]at hw;cases hw|some e=>rw[hf]at hw;have h1:=List.find?_some hf;simp at h1 hw;exact⟨e,Zbn hf,h1.1,h1.2,hw⟩
 obtain⟨e,he,m,o,l⟩:=he;cases d:lf (fin a.n a.es a.ms f u true).1 t;·refine .inr (.inr ⟨t,rfl,by rw[b];simp[d],fun hu=>?_⟩);have:=hk.ctl e he (by rw[m];exact g) (by rw[o];exact hu);rw[l,d]at this;cases this
 refine .inr (.inl ⟨t,SD.idx (sAll a (lf (fin a.n a.es a.ms f u true).1)).1 t,rfl,by rw[b];simp[d],?_⟩);have hm:=n.cl i v k c e (QaY.2 ⟨he,m,by rw[l];exact d⟩);rw[l]at hm;exact QiI hm
theorem Qqp{a:Aut}{f u:List Nat}(h:WfA a){S:Aut}(hS:S=restr a (lf (fin a.n a.es a.ms f u true).1)){l:LB}(i:∀x,x<S.n->lf l x=true){x:Nat}(b:x<S.n):0<=(rDist S.es (lf l) (S.n+1) 1 (o0 S.n S.ms (lf l))).getD x 0:=by subst hS;have hw:=Qe2 (left:=lf (fin a.n a.es a.ms f u true).1) h;obtain⟨d,c⟩:=(Qpd (forb:=f) (unc:=u) h).nb x (decide_eq_true b);rw[<-QqE hw.inN hw.nd (Nat.lt_succ_self _)];exact(QjB hw.inN hw.nd b).2 ⟨d,Rch.sub (fun y g=>i y (of_decide_eq_true g)) c⟩
end Go.AM.SO
namespace Go.AM.SE
open Go.Proofs Go.AM.SD Go.AM.OD
theorem Qgn{es:List Ed}{left:Nat->Bool}:∀(k r:Nat)(o:List Int),(rDist es left k r o).length=o.length
 |0,_,_=>rfl|k+1,r,o=>by
  rw[rDist];split;·rw[Qgn k,Qi3]
  rw[Qi3]
end Go.AM.SE
namespace Go.AM.TZ
open Go.Proofs
set_option maxHeartbeats 4000000
noncomputable section
def cf:YA.Cf:={}
noncomputable def ft:FT2:=YA.tre Tryz.prog cf 20 [20,38,41,65,78,79,80,81,87,111,112,140,164,165,177,178,179,180,181,182,192,193,217,218,220,221,222,238,239,243,244,245,246,247,248,249,250,268,269,270,278]
theorem ft_ok:ft.OK Tryz.prog:=YA.QfT _ _ (YA.Qe0 (by kernel_rfl))
end
end Go.AM.TZ
namespace Go.AM.TZ
open Go.Proofs
noncomputable section
def isT:AV->Bool|.bool true=>true|_=>false
theorem QtD:∀u,isT u=true->u=.bool true:=by
 intro u h;unfold isT at h;split at h;·rfl
 cases h
theorem known20:PSpec Tryz.prog 20 [] (.bool true):=QbJ (t:=ft) ft_ok Qc7 (d:=100000) isT QtD (by kernel_rfl)
end
end Go.AM.TZ
namespace Go.AM.SO
open Go.Proofs Go.AM.SD Go.AM.SE
abbrev alB(n:Nat):LB:=List.replicate n true
theorem QtG{n x:Nat}(h:x<n):lf (alB n) x=true:=by simp[lf,alB,h]
theorem dist61P(a:Aut)(h:WfA a):PSpec Tryz.prog 61 [aV a,blF (alB a.n) a.n] (.fsl (ints (rDist a.es (lf (alB a.n)) (a.n+1) 1 (o0 a.n a.ms (lf (alB a.n))))) a.n 1):=by have g:=Qbq h.ms h.msn;have i:=h.n5;have d:=WfA.el1 h;have f:=dist33 a (alB a.n) h.inN (by simp) (by omega) (by omega) (by omega);have b:=(Qgn (es:=a.es) (left:=lf (alB a.n)) (a.n+1) 1 (o0 a.n a.ms (lf (alB a.n)))).trans (by simp[o0]:(o0 a.n a.ms (lf (alB a.n))).length=a.n);generalize rDist a.es (lf (alB a.n)) (a.n+1) 1 (o0 a.n a.ms (lf (alB a.n)))=D at*;have c:=f.freeze (b:=84) (g:=0) (ds:=ints D) gg (Qb0 _) (by simp[ints,b]) rfl;rw[ZaS (by simp[ints,b])]at c;exact⟨by simp only[noRefs,noRef,Qab,Qaf,Qah];rfl,Qab _,_,c⟩
theorem _root_.Go.AM.au29{p:Prop}(h:p:=by repeat(first|exact Zcg|(refine Zch ?_ ?_;·(first|exact Rn.any|exact Rn.x1 rfl rfl|exact Rn.x2 rfl rfl|exact Rn.x3 rfl rfl|exact Rn.x4 rfl rfl|exact Rn.x5 rfl|exact Rn.x6 rfl|exact Rn.x7 rfl|(refine Rn.slot ?_ ?_;(first|rfl|(rw[ZaO];rfl));(first|rfl|(simp only[noRef,noRefs,Qag,Zad,Zac,Zah,QaI,Qab,Qan,Qaa,Qaj,QaX,Qaf,Qgf,QbQ];done)))|(refine Rn.fn ?_ ?_<;>(repeat'(first|exact Zco|refine Zcp ?_ ?_|exact Zb9 rfl|exact Rn.x6 rfl|exact Rn.x2 rfl rfl|exact Rn.x5 rfl|exact Rn.x1 rfl rfl))))))):p:=h
theorem law13(p:Pln)(h:POk p)(hxn:p.xn<=9223372036854775807)(w:List Nat)(hwb:∀x∈w,x<256)(hwl:w.length<=9223372036854775807):W2 Tryz.prog ⟨OE.s13.n,0⟩ OE.s13.body (fun e B=>(e=.normal\/e=.ret)/\resV B.T B.h OE.s13.res=some [.bool true]) ⟨argT 0 [plnV p,.fsl (u8s w) w.length 1],.e⟩:=by
 refine(wpC.toW (n:=40) (Q:=fun e T h _=>(e=.normal\/e=.ret)/\resV T h OE.s13.res=some [.bool true]) (show wS Tryz.prog ⟨OE.s13.n,0⟩ OE.s13.body [] 40 _ _ _ from ?_)).mono fun e B⟨_,h⟩=>h;have hlen:=SU.QiS h;have hone:=SU.QiT h;have hS:PSpec Tryz.prog 25 [.agg (plnC p)] (.bool (decide (p.xn<=4))):=short25 p h hxn;have hM:PSpec Tryz.prog 26 [.agg (plnC p)] (celV (mkC p)):=SU.Make26 p h;have hw:=@Qs5 p;have hK:=TZ.known20;have htk:(plnC p).take 152=plnC p:=by rw[<-hlen,Zau]
 have hnw:=QaI w;show wS _ _ _ _ _ (argT 0 [.agg (plnC p),.fsl (u8s w) w.length 1]) _ _;generalize plnC p=C at*;generalize mkC p=c at*;by_cases h4:p.xn<=4
 ·have e4:decide (p.xn<=4)=true:=by simp[h4]
  rw[e4]at hS;by_cases h8:(8:Int)<w.length;·simp(disch:=first|omega|exact PairsOK.mk rfl|(simp only[lenW]<;>omega))only[OE.s13,hlen,hone,htk,Qac,Qad,Qae,wW,wV,simprocAttr];refine cp hK ?_;simp(disch:=first|omega|exact PairsOK.mk rfl|(simp only[lenW]<;>omega))only[hlen,htk,Qac,Qad,Qae,wW,wV,simprocAttr];refine cp hS ?_;simp(disch:=first|omega|exact PairsOK.mk rfl|(simp only[lenW]<;>omega))only[h8,Qac,Qad,Qae,wW,wV,simprocAttr];refine cp hK ?_;simp(disch:=first|omega|exact PairsOK.mk rfl|(simp only[lenW]<;>omega))only[Qac,Qad,Qae,wW,wV,simprocAttr];exact⟨.inr trivial,rfl⟩
  have hw':=wfA_c c hw;have hC:=cell22 c hw;have hnc:=Qcc c;have hns:noRefs (spC c)=true:=Qfs _ _ _ _;have hRs:(resC c).sup=restr (syncA (allA c)) (lf (fin (syncA (allA c)).n (syncA (allA c)).es (syncA (allA c)).ms (fbd c) (uncL c.ev 5) true).1):=rfl;have hRo:(resC c).orig=(sAll (syncA (allA c)) (lf (fin (syncA (allA c)).n (syncA (allA c)).es (syncA (allA c)).ms (fbd c) (uncL c.ev 5) true).1)).1:=rfl;have hstep:=fun(i v:Nat)(hv:(resC c).orig[i]?=some v)(ev:Nat)=>Qqo (f:=fbd c) (u:=uncL c.ev 5) hw' (by rw[<-hRo];exact hv) ev;rw[<-hRs,<-hRo]at hstep;have hreach:=fun(x:Nat)(hx:x<(resC c).sup.n)=>Qqp (f:=fbd c) (u:=uncL c.ev 5) hw' hRs (l:=alB (resC c).sup.n) (fun y hy=>QtG hy) hx;have hws:WfA (resC c).sup:=by rw[hRs];exact Qe2 hw'
  have hcan:restr (resC c).sup (fun _=>true)=(resC c).sup:=by rw[hRs];exact QgW hw'
  have hon:(resC c).orig.length=(resC c).sup.n:=rfl;have hnr:=Qep (resC c);have hsn:=hws.n5;have hsel:=WfA.el1 hws;have hqel:=WfA.el1 hw';have hI:=isCanon60 (resC c).sup hws (by omega) hcan;have hD:=dist61P (resC c).sup hws;have hDl:=(Qgn (es:=(resC c).sup.es) (left:=lf (alB (resC c).sup.n)) ((resC c).sup.n+1) 1 (o0 (resC c).sup.n (resC c).sup.ms (lf (alB (resC c).sup.n)))).trans (by simp[o0]:(o0 (resC c).sup.n (resC c).sup.ms (lf (alB (resC c).sup.n))).length=(resC c).sup.n);have hq1:=fun s e=>step60 (syncA (allA c)) s e (by omega);have hq2:=fun s e=>step60 (resC c).sup s e (by omega);have hslt:=fun(s e t:Nat)(ht:stepA (resC c).sup.es s e=some t)=>Qeb hws.esn ht;rw[spC,spG]at hC hns;clear hRs hRo;generalize resC c=R at*;generalize rDist R.sup.es (lf (alB R.sup.n)) (R.sup.n+1) 1 (o0 R.sup.n R.sup.ms (lf (alB R.sup.n)))=D at*;generalize forb c (sync0 (allA c)).1.length=L at*;generalize syncA (allA c)=q at*;generalize(sync0 (auL c.cs)).1=P at*;generalize(sync0 (allA c)).1=T at*;have hsa:(spA c T).length=T.length:=by simp[spA]
  have hsb:(spB c T).length=T.length:=by simp[spB]
  have hnC:noRefs [evsN (evl c.ev),its 99 c.cs,its 114 c.rs,exs c.xs,cos c.ks]=true:=hnc;obtain⟨rk,rd,rr,ro,S,O⟩:=R;dsimp only at*;have hnS:noRefs [sliN S.al,.int .i64 (S.n:Int),sliN S.ms,egsN S.es]=true:=by simp only[noRefs,noRef,Qab,Qaf];rfl
  have hn':(S.n:Int)<=140737488355328:=by omega
  simp(disch:=first|omega|exact PairsOK.mk rfl|(simp only[lenW]<;>omega))only[OE.s13,hlen,hone,htk,Qac,Qad,Qae,wW,wV,simprocAttr];refine cp hK ?_;simp(disch:=first|omega|exact PairsOK.mk rfl|(simp only[lenW]<;>omega))only[hlen,htk,Qac,Qad,Qae,wW,wV,simprocAttr];refine cp hS ?_;simp(disch:=first|omega|exact PairsOK.mk rfl|(simp only[lenW]<;>omega))only[h8,hlen,htk,Qac,Qad,Qae,wW,wV,simprocAttr];refine cp hM ?_;simp(disch:=first|omega|exact PairsOK.mk rfl|(simp only[lenW]<;>omega))only[Qac,Qad,Qae,wW,wV,simprocAttr];refine cp hC ?_;simp(disch:=first|omega|exact PairsOK.mk rfl|(simp only[lenW]<;>omega))only[Qac,Qad,Qae,wW,wV,simprocAttr];refine cp hI ?_;simp(disch:=first|omega|exact PairsOK.mk rfl|(simp only[lenW]<;>omega))only[hon,hn',reps,Qac,Qad,Qae,wW,wV,simprocAttr];rw[QiZ];refine Qat 160 (fun i:Nat=>[(1,.fsl (u8s w) w.length 1),(5,.ptr 51 0 0),(6,.ptr 52 0 0),(7,.ptr 53 0 0),(9,.ptr 54 0 0),(10,.sl 76 0 0 S.n 1),(11,.int .i64 i)]) (fun i=>[(51,.cells 0 [evsN (evl c.ev),its 99 c.cs,its 114 c.rs,exs c.xs,cos c.ks]),(52,.cells 0 [sliN q.al,.int .i64 (q.n:Int),sliN q.ms,egsN q.es,tuV (spA c T),tuV (spB c T),sliN (spP c P T),rss L]),(53,.cells 0 [sliN rk,sli rd,rms rr,.int .i64 (ro:Int),sliN S.al,.int .i64 (S.n:Int),sliN S.ms,egsN S.es,sliN O]),(54,.cells 0 [sliN S.al,.int .i64 (S.n:Int),sliN S.ms,egsN S.es]),(76,.cells 0 (bls (List.replicate i true++List.replicate (S.n-i) false)))]) (fun i=>i<=S.n) (fun i=>S.n-i) 0 0 220 (fun _:Unit=>[(1,.fsl (u8s w) w.length 1),(5,.ptr 51 0 0),(6,.ptr 52 0 0),(7,.ptr 53 0 0),(9,.ptr 54 0 0),(10,blF (alB S.n) S.n)]) (fun _=>[(51,.cells 0 [evsN (evl c.ev),its 99 c.cs,its 114 c.rs,exs c.xs,cos c.ks]),(52,.cells 0 [sliN q.al,.int .i64 (q.n:Int),sliN q.ms,egsN q.es,tuV (spA c T),tuV (spB c T),sliN (spP c P T),rss L]),(53,.cells 0 [sliN rk,sli rd,rms rr,.int .i64 (ro:Int),sliN S.al,.int .i64 (S.n:Int),sliN S.ms,egsN S.es,sliN O]),(54,.cells 0 [sliN S.al,.int .i64 (S.n:Int),sliN S.ms,egsN S.es])]) (fun _=>True) ?_ (Zaj _) ?_ ?_;·refine⟨[(51,.blk 56 0),(52,.blk 64 0),(53,.blk 65 0),(54,.blk 73 0),(76,.blk 88 0)],rfl,au0,?_,au29⟩;exact Zcj rfl rfl gg (Zca hnC) (Zcj rfl rfl gg (Zca hns) (Zcj rfl rfl gg (Zca hnr) (Zcj rfl rfl gg (Zca hnS) (Zcj rfl rfl gg (Zca (Qah _)) Zci))))
  ·rintro i hi;by_cases hlt:i<S.n
   ·have h1:i+1<=i+(S.n-i):=by omega
    simp(disch:=first|omega|exact PairsOK.mk rfl|(simp only[lenW]<;>omega))only[hlt,h1,Qgr,QlF hlt,Qac,Qad,Qae,wW,wV,simprocAttr];refine⟨i+1,by omega,by omega,?_⟩;refine⟨[(51,.blk 51 0),(52,.blk 52 0),(53,.blk 53 0),(54,.blk 54 0),(76,.blk 76 0)],rfl,au0,?_,au29⟩;exact Zcj rfl rfl gg (Zca hnC) (Zcj rfl rfl gg (Zca hns) (Zcj rfl rfl gg (Zca hnr) (Zcj rfl rfl gg (Zca hnS) (Zcj rfl rfl gg (Zca (Qah _)) Zci))))
   ·have e:i=S.n:=by omega
    subst e;simp(disch:=first|omega|exact PairsOK.mk rfl|(simp only[lenW]<;>omega))only[hlt,Nat.sub_self,List.replicate_zero,Zap,Qac,Qad,Qae,wW,wV,simprocAttr];refine⟨(),?_⟩;exact⟨[(51,.blk 51 0),(52,.blk 52 0),(53,.blk 53 0),(54,.blk 54 0)],rfl,Zcf,Zcj rfl rfl gg (Zca hnC) (Zcj rfl rfl gg (Zca hns) (Zcj rfl rfl gg (Zca hnr) (Zcj rfl rfl gg (Zca hnS) Zci))),Zch (Zb9 hnw) (Zch (Rn.x2 rfl rfl) (Zch (Rn.x2 rfl rfl) (Zch (Rn.x2 rfl rfl) (Zch (Rn.x2 rfl rfl) (Zch (Rn.fz (b:=76) (g:=0) gg rfl rfl (by rw[Qgq];simp) (Zca (Qah _))) Zcg)))))⟩
  rintro _ _;simp(disch:=first|omega|exact PairsOK.mk rfl|(simp only[lenW]<;>omega))only[Qac,Qad,Qae,wW,wV,simprocAttr];refine cp hD ?_;simp(disch:=first|omega|exact PairsOK.mk rfl|(simp only[lenW]<;>omega))only[Qac,Qad,Qae,wW,wV,simprocAttr];refine Qat 160 (fun i:Nat=>[(1,.fsl (u8s w) w.length 1),(5,.ptr 51 0 0),(6,.ptr 52 0 0),(7,.ptr 53 0 0),(9,.ptr 54 0 0),(12,.fsl (ints D) S.n 1),(13,.int .i64 i)]) (fun _=>[(51,.cells 0 [evsN (evl c.ev),its 99 c.cs,its 114 c.rs,exs c.xs,cos c.ks]),(52,.cells 0 [sliN q.al,.int .i64 (q.n:Int),sliN q.ms,egsN q.es,tuV (spA c T),tuV (spB c T),sliN (spP c P T),rss L]),(53,.cells 0 [sliN rk,sli rd,rms rr,.int .i64 (ro:Int),sliN S.al,.int .i64 (S.n:Int),sliN S.ms,egsN S.es,sliN O]),(54,.cells 0 [sliN S.al,.int .i64 (S.n:Int),sliN S.ms,egsN S.es])]) (fun i=>i<=S.n) (fun i=>S.n-i) 0 2 320 (fun _:Unit=>[(1,.fsl (u8s w) w.length 1),(5,.ptr 51 0 0),(6,.ptr 52 0 0),(7,.ptr 53 0 0),(9,.ptr 54 0 0)]) (fun _=>[(51,.cells 0 [evsN (evl c.ev),its 99 c.cs,its 114 c.rs,exs c.xs,cos c.ks]),(52,.cells 0 [sliN q.al,.int .i64 (q.n:Int),sliN q.ms,egsN q.es,tuV (spA c T),tuV (spB c T),sliN (spP c P T),rss L]),(53,.cells 0 [sliN rk,sli rd,rms rr,.int .i64 (ro:Int),sliN S.al,.int .i64 (S.n:Int),sliN S.ms,egsN S.es,sliN O]),(54,.cells 0 [sliN S.al,.int .i64 (S.n:Int),sliN S.ms,egsN S.es])]) (fun _=>True) ?_ (Zaj _) ?_ ?_;·refine⟨[(51,.blk 51 0),(52,.blk 52 0),(53,.blk 53 0),(54,.blk 54 0)],rfl,au0,?_,au29⟩;exact Zcj rfl rfl gg (Zca hnC) (Zcj rfl rfl gg (Zca hns) (Zcj rfl rfl gg (Zca hnr) (Zcj rfl rfl gg (Zca hnS) Zci)))
  ·rintro i hi;by_cases hlt:i<S.n
   ·have hdx:D[i]?=some (D.getD i 0):=by rw[Zak,Zal (show i<D.length by omega)];rfl
    have h0:¬D.getD i 0<0:=by have:=hreach i hlt;omega
    simp(disch:=first|omega|exact PairsOK.mk rfl|(simp only[lenW]<;>omega))only[hlt,QaZ hdx,h0,Qac,Qad,Qae,wW,wV,simprocAttr];refine⟨i+1,by omega,by omega,?_⟩;refine⟨[(51,.blk 51 0),(52,.blk 52 0),(53,.blk 53 0),(54,.blk 54 0)],rfl,au0,?_,au29⟩;exact Zcj rfl rfl gg (Zca hnC) (Zcj rfl rfl gg (Zca hns) (Zcj rfl rfl gg (Zca hnr) (Zcj rfl rfl gg (Zca hnS) Zci)))
   ·have e:i=S.n:=by omega
    subst e;simp(disch:=first|omega|exact PairsOK.mk rfl|(simp only[lenW]<;>omega))only[hlt,Qac,Qad,Qae,wW,wV,simprocAttr];refine⟨(),?_⟩;refine⟨[(51,.blk 51 0),(52,.blk 52 0),(53,.blk 53 0),(54,.blk 54 0)],rfl,au0,?_,au29⟩;exact Zcj rfl rfl gg (Zca hnC) (Zcj rfl rfl gg (Zca hns) (Zcj rfl rfl gg (Zca hnr) (Zcj rfl rfl gg (Zca hnS) Zci)))
  rintro _ _;simp(disch:=first|omega|exact PairsOK.mk rfl|(simp only[lenW]<;>omega))only[Qac,Qad,Qae,wW,wV,simprocAttr];refine Qat 160 (fun t:Nat×Nat=>[(1,.fsl (u8s w) w.length 1),(5,.ptr 51 0 0),(6,.ptr 52 0 0),(7,.ptr 53 0 0),(9,.ptr 54 0 0),(14,.int .i64 (t.2:Int)),(15,.int .i64 (t.1:Int))]) (fun _=>[(51,.cells 0 [evsN (evl c.ev),its 99 c.cs,its 114 c.rs,exs c.xs,cos c.ks]),(52,.cells 0 [sliN q.al,.int .i64 (q.n:Int),sliN q.ms,egsN q.es,tuV (spA c T),tuV (spB c T),sliN (spP c P T),rss L]),(53,.cells 0 [sliN rk,sli rd,rms rr,.int .i64 (ro:Int),sliN S.al,.int .i64 (S.n:Int),sliN S.ms,egsN S.es,sliN O]),(54,.cells 0 [sliN S.al,.int .i64 (S.n:Int),sliN S.ms,egsN S.es])]) (fun t=>t.1<=w.length/\(t.2<S.n\/t.2=0/\S.n=0)) (fun t=>w.length-t.1) (0,0) 4 420 (fun _:Unit=>[]) (fun _=>[]) (fun _=>True) ?_ ⟨Zaj _,by dsimp only;omega⟩ ?_ ?_;·refine⟨[(51,.blk 51 0),(52,.blk 52 0),(53,.blk 53 0),(54,.blk 54 0)],rfl,au0,?_,au29⟩;exact Zcj rfl rfl gg (Zca hnC) (Zcj rfl rfl gg (Zca hns) (Zcj rfl rfl gg (Zca hnr) (Zcj rfl rfl gg (Zca hnS) Zci)))
  ·rintro⟨i,a⟩⟨hi,ha⟩;dsimp only at hi ha⊢;by_cases hlt:i<w.length
   ·by_cases hat:a<S.n
    ·obtain⟨x,hx⟩:=Qaq hlt;obtain⟨v,hv⟩:=Qaq (l:=O) (i:=a) (by omega);simp(disch:=first|omega|exact PairsOK.mk rfl|(simp only[lenW]<;>omega))only[hlt,hat,QaF hv,Qac,Qad,Qae,wW,wV,simprocAttr];refine Qat 160 (fun k:Nat=>[(1,.fsl (u8s w) w.length 1),(5,.ptr 51 0 0),(6,.ptr 52 0 0),(7,.ptr 53 0 0),(9,.ptr 54 0 0),(14,.int .i64 (a:Int)),(15,.int .i64 (i:Int)),(16,.int .i64 (v:Int)),(17,.int .i64 (k:Int))]) (fun _=>[(51,.cells 0 [evsN (evl c.ev),its 99 c.cs,its 114 c.rs,exs c.xs,cos c.ks]),(52,.cells 0 [sliN q.al,.int .i64 (q.n:Int),sliN q.ms,egsN q.es,tuV (spA c T),tuV (spB c T),sliN (spP c P T),rss L]),(53,.cells 0 [sliN rk,sli rd,rms rr,.int .i64 (ro:Int),sliN S.al,.int .i64 (S.n:Int),sliN S.ms,egsN S.es,sliN O]),(54,.cells 0 [sliN S.al,.int .i64 (S.n:Int),sliN S.ms,egsN S.es])]) (fun k=>k<=5) (fun k=>5-k) 0 6 520 (fun _:Unit=>[(1,.fsl (u8s w) w.length 1),(5,.ptr 51 0 0),(6,.ptr 52 0 0),(7,.ptr 53 0 0),(9,.ptr 54 0 0),(14,.int .i64 (a:Int)),(15,.int .i64 (i:Int))]) (fun _=>[(51,.cells 0 [evsN (evl c.ev),its 99 c.cs,its 114 c.rs,exs c.xs,cos c.ks]),(52,.cells 0 [sliN q.al,.int .i64 (q.n:Int),sliN q.ms,egsN q.es,tuV (spA c T),tuV (spB c T),sliN (spP c P T),rss L]),(53,.cells 0 [sliN rk,sli rd,rms rr,.int .i64 (ro:Int),sliN S.al,.int .i64 (S.n:Int),sliN S.ms,egsN S.es,sliN O]),(54,.cells 0 [sliN S.al,.int .i64 (S.n:Int),sliN S.ms,egsN S.es])]) (fun _=>True) ?_ (Zaj _) ?_ ?_;·refine⟨[(51,.blk 51 0),(52,.blk 52 0),(53,.blk 53 0),(54,.blk 54 0)],rfl,au0,?_,au29⟩;exact Zcj rfl rfl gg (Zca hnC) (Zcj rfl rfl gg (Zca hns) (Zcj rfl rfl gg (Zca hnr) (Zcj rfl rfl gg (Zca hnS) Zci)))
     ·rintro k hk;have h5:(evl c.ev).length=5:=rfl;by_cases hk5:k<5
      ·have hk5':(k:Int)<5:=by omega
       have hll:k<(evl c.ev).length:=by omega
       have hdr:=QlX (Qp3 c.ev hk5);have hdl:5<=(((evl c.ev).flatMap evN).drop (k*5)).length:=by rw[hdr];simp
       have k1:=hq1 v k;have k2:=hq2 a k;rcases hstep a v hv k with⟨e1,e2⟩|⟨t,j,e1,e2,e3⟩|⟨t,e1,e2,e3⟩
       ·have f1:stepI q.es v k=-1:=by unfold stepI;rw[e1]
        have f2:stepI S.es a k=-1:=by unfold stepI;rw[e2]
        rw[f1]at k1;rw[f2]at k2;simp(disch:=first|omega|exact PairsOK.mk rfl|(simp only[lenW]<;>omega))only[hk5',h5,ZbS,Qac,Qad,Qae,wW,wV,simprocAttr];refine cp k1 ?_;simp(disch:=first|omega|exact PairsOK.mk rfl|(simp only[lenW]<;>omega))only[Qac,Qad,Qae,wW,wV,simprocAttr];refine cp k2 ?_;simp(disch:=first|omega|exact PairsOK.mk rfl|(simp only[lenW]<;>omega))only[Qac,Qad,Qae,wW,wV,simprocAttr];refine⟨k+1,by omega,by omega,?_⟩;refine⟨[(51,.blk 51 0),(52,.blk 52 0),(53,.blk 53 0),(54,.blk 54 0)],rfl,au0,?_,au29⟩;exact Zcj rfl rfl gg (Zca hnC) (Zcj rfl rfl gg (Zca hns) (Zcj rfl rfl gg (Zca hnr) (Zcj rfl rfl gg (Zca hnS) Zci)))
       ·have f1:stepI q.es v k=(t:Int):=by unfold stepI;rw[e1]
        have f2:stepI S.es a k=(j:Int):=by unfold stepI;rw[e2]
        rw[f1]at k1;rw[f2]at k2;have n1:¬(t:Int)<0:=by omega
        have n2:¬(j:Int)<0:=by omega
        have n3:(0:Int)<=(t:Int):=by omega
        have n4:(0:Int)<=(j:Int):=by omega
        simp(disch:=first|omega|exact PairsOK.mk rfl|(simp only[lenW]<;>omega))only[hk5',h5,ZbS,Qac,Qad,Qae,wW,wV,simprocAttr];refine cp k1 ?_;simp(disch:=first|omega|exact PairsOK.mk rfl|(simp only[lenW]<;>omega))only[Qac,Qad,Qae,wW,wV,simprocAttr];refine cp k2 ?_;have n5:j<O.length:=(Zam.1 e3).1;simp(disch:=first|omega|exact PairsOK.mk rfl|(simp only[lenW]<;>omega))only[n1,n2,n3,n4,n5,QaF e3,Qac,Qad,Qae,wW,wV,simprocAttr];refine⟨k+1,by omega,by omega,?_⟩;refine⟨[(51,.blk 51 0),(52,.blk 52 0),(53,.blk 53 0),(54,.blk 54 0)],rfl,au0,?_,au29⟩;exact Zcj rfl rfl gg (Zca hnC) (Zcj rfl rfl gg (Zca hns) (Zcj rfl rfl gg (Zca hnr) (Zcj rfl rfl gg (Zca hnS) Zci)))
       ·have f1:stepI q.es v k=(t:Int):=by unfold stepI;rw[e1]
        have f2:stepI S.es a k=-1:=by unfold stepI;rw[e2]
        rw[f1]at k1;rw[f2]at k2;have n1:¬(t:Int)<0:=by omega
        have n3:(0:Int)<=(t:Int):=by omega
        have hcc:(c.ev k).c=true:=by
         by_cases hc1:(c.ev k).c=true;·exact hc1
         ·exact absurd (Za8.2 ⟨Zat.2 hk5,by simp[hc1]⟩) e3
        simp(disch:=first|omega|exact PairsOK.mk rfl|(simp only[lenW]<;>omega))only[hk5',h5,ZbS,Qac,Qad,Qae,wW,wV,simprocAttr];refine cp k1 ?_;simp(disch:=first|omega|exact PairsOK.mk rfl|(simp only[lenW]<;>omega))only[Qac,Qad,Qae,wW,wV,simprocAttr];refine cp k2 ?_;simp(disch:=first|omega|exact PairsOK.mk rfl|(simp only[lenW]<;>omega))only[n1,n3,hll,hdr,hdl,hcc,Qac,Qad,Qae,wW,wV,simprocAttr];refine⟨k+1,by omega,by omega,?_⟩;refine⟨[(51,.blk 51 0),(52,.blk 52 0),(53,.blk 53 0),(54,.blk 54 0)],rfl,au0,?_,au29⟩;exact Zcj rfl rfl gg (Zca hnC) (Zcj rfl rfl gg (Zca hns) (Zcj rfl rfl gg (Zca hnr) (Zcj rfl rfl gg (Zca hnS) Zci)))
      ·have e5:k=5:=by omega
       subst e5;simp(disch:=first|omega|exact PairsOK.mk rfl|(simp only[lenW]<;>omega))only[h5,ZbS,Qac,Qad,Qae,wW,wV,simprocAttr];refine⟨(),?_⟩;refine⟨[(51,.blk 51 0),(52,.blk 52 0),(53,.blk 53 0),(54,.blk 54 0)],rfl,au0,?_,au29⟩;exact Zcj rfl rfl gg (Zca hnC) (Zcj rfl rfl gg (Zca hns) (Zcj rfl rfl gg (Zca hnr) (Zcj rfl rfl gg (Zca hnS) Zci)))
     rintro _ _;have hgu:((u8s w).drop i).head?=some (.int .u8 (x:Int)):=by rw[ZbT];exact Qf7 hx
     have hrem:aBin .rem (.int .u8 (x:Int)) (.int .u8 5)=some (.int .u8 ((x%5:Nat):Int)):=QpE (y:=5) (by decide);have k2:=hq2 a (x%5);have hsl:=hslt a (x%5);have hx5:x%5<5:=Nat.mod_lt _ (by decide);generalize x%5=y at*;unfold stepI at k2;cases hst:stepA S.es a y with|none=>rw[hst]at k2;simp(disch:=first|omega|exact PairsOK.mk rfl|(simp only[lenW]<;>omega))only[hlt,hgu,hrem,Qac,Qad,Qae,wW,wV,simprocAttr];refine cp k2 ?_;simp(disch:=first|omega|exact PairsOK.mk rfl|(simp only[lenW]<;>omega))only[Qac,Qad,Qae,wW,wV,simprocAttr];refine⟨(i+1,a),by dsimp only;omega,⟨by dsimp only;omega,by dsimp only;omega⟩,?_⟩;refine⟨[(51,.blk 51 0),(52,.blk 52 0),(53,.blk 53 0),(54,.blk 54 0)],rfl,au0,?_,au29⟩;exact Zcj rfl rfl gg (Zca hnC) (Zcj rfl rfl gg (Zca hns) (Zcj rfl rfl gg (Zca hnr) (Zcj rfl rfl gg (Zca hnS) Zci)))|some j=>
      rw[hst]at k2;have hjn:=hsl j hst;have n4:(0:Int)<=(j:Int):=by omega
      simp(disch:=first|omega|exact PairsOK.mk rfl|(simp only[lenW]<;>omega))only[hlt,hgu,hrem,Qac,Qad,Qae,wW,wV,simprocAttr];refine cp k2 ?_;simp(disch:=first|omega|exact PairsOK.mk rfl|(simp only[lenW]<;>omega))only[n4,Qac,Qad,Qae,wW,wV,simprocAttr];refine⟨(i+1,j),by dsimp only;omega,⟨by dsimp only;omega,by dsimp only;omega⟩,?_⟩;refine⟨[(51,.blk 51 0),(52,.blk 52 0),(53,.blk 53 0),(54,.blk 54 0)],rfl,au0,?_,au29⟩;exact Zcj rfl rfl gg (Zca hnC) (Zcj rfl rfl gg (Zca hns) (Zcj rfl rfl gg (Zca hnr) (Zcj rfl rfl gg (Zca hnS) Zci)))
    ·simp(disch:=first|omega|exact PairsOK.mk rfl|(simp only[lenW]<;>omega))only[hlt,hat,Qac,Qad,Qae,wW,wV,simprocAttr];exact⟨(),[],rfl,Zcf,Zci,Zcg⟩
   ·simp(disch:=first|omega|exact PairsOK.mk rfl|(simp only[lenW]<;>omega))only[hlt,Qac,Qad,Qae,wW,wV,simprocAttr];exact⟨(),[],rfl,Zcf,Zci,Zcg⟩
  rintro _ _;simp(disch:=first|omega|exact PairsOK.mk rfl|(simp only[lenW]<;>omega))only[Qac,Qad,Qae,wW,wV,simprocAttr];exact⟨.inr trivial,rfl⟩
 ·have e4:decide (p.xn<=4)=false:=by simp[h4]
  rw[e4]at hS;simp(disch:=first|omega|exact PairsOK.mk rfl|(simp only[lenW]<;>omega))only[OE.s13,hlen,hone,htk,Qac,Qad,Qae,wW,wV,simprocAttr];refine cp hK ?_;simp(disch:=first|omega|exact PairsOK.mk rfl|(simp only[lenW]<;>omega))only[hlen,htk,Qac,Qad,Qae,wW,wV,simprocAttr];refine cp hS ?_;simp(disch:=first|omega|exact PairsOK.mk rfl|(simp only[lenW]<;>omega))only[Qac,Qad,Qae,wW,wV,simprocAttr];refine cp hK ?_;simp(disch:=first|omega|exact PairsOK.mk rfl|(simp only[lenW]<;>omega))only[Qac,Qad,Qae,wW,wV,simprocAttr];exact⟨.inr trivial,rfl⟩
theorem okl13:okFn Tryz.prog 13 OE.s13=true:=OE.ok13
theorem law13_in(d0:tyPln.D)(d1:(Ty.sl (.int .u8)).D)(i:tyPln.wf d0)(h1:(Ty.sl (.int .u8)).wf d1):W2 Tryz.prog ⟨OE.s13.n,0⟩ OE.s13.body (fun e B=>(e=.normal\/e=.ret)/\resV B.T B.h OE.s13.res=some [.bool true]) ⟨argT 0 [tyPln.val d0,(Ty.sl (.int .u8)).val d1],.e⟩:=by
 obtain⟨p,hp,g,h⟩:=Qty i;obtain⟨k,c⟩:=h1;obtain⟨w,a,b,d⟩:=QbV (.arr (List.length d1) (.int .u8)) rfl d1 ⟨rfl,c⟩;have hlen:w.length=List.length d1:=by rw[a];exact Zb2 _
 have f:(Ty.sl (.int .u8)).val d1=.fsl (u8s w) w.length 1:=by show AV.fsl (List.flatMap (Ty.cells (.int .u8)) d1) (List.length d1) 1=_;rw[hlen,<-d];rfl
 rw[h,f];exact law13 p hp g w b (by omega)
end Go.AM.SO
