/- A part of the proof of SynthesisCellsCardSaid: lemmas on the way (AmHd, AmRy, AmOg, AmOd, AmOr, AmOs, AmOx, AmOy, AmOw, AmOz, AmCzh, AmRx, AmRw, AmOh). Conditions: none of ours. -/
import Derived.Test.YtmoanlnleppcpaaGreatDoorProg
import Derived.KernelRfl
import Derived.Test.YtmoanlnleppcpaaGreatDoorAmY15
set_option linter.unusedSectionVars false
set_option maxHeartbeats 32000000
set_option maxRecDepth 100000
set_option linter.unusedVariables false
set_option linter.unusedSimpArgs false
namespace Go.AM.SO
open Go.Proofs Go.AM.SD Go.AM.SE
theorem clone41(l:List Nat)(a:l.length<=1000000):PSpec Tryz.prog 41 [sliN l] (sliN l):=by
 have h:=(clone56 l a).freeze (b:=83) (g:=0) (ds:=ints (nz l)) gg (by
  have:∀m:List Int,flatVs (ints m)=true:=fun m=>by induction m with|nil=>rfl|cons x m c=>simp only[ints,ZaR,flatVs,Zab];exact⟨rfl,c⟩
  exact this _) (by simp[ints]) rfl;have e:(ints (nz l)).take (l.length*1)=ints (nz l):=by rw[ZaT (by simp[ints])]
 rw[e]at h;exact⟨by rw[noRefs,Qab];rfl,Qab _,_,h⟩
abbrev lpA:SCode:=(.seq (.region [Zm 16 100 []] [] [99,100]) (.region [Zm 17 101 []] [] [101]))
abbrev lpB:SCode:=(.block 3 (.seq (.region [Zf 102 0 1 [],Zl 103 102 [0],Zm 104 16 [],Zi 105 5 103 104 [1,2],Zf 106 1 105 [3],Zl 107 106 [4],Zz 108 (.un .not (.t 107)) [5]] [] [102,103,104,105,106,107]) (.cond (.t 108) (.seq (.region [Zf 109 7 6 [],Zl 110 109 [0],Zl 111 7 [],Zm 112 17 [],Zm 113 16 [],Zz 114 (.build [(.int .i64 0),(.int .i64 0),(.int .i64 0),(.int .i64 0)] [(0,1,(.t 111)),(1,1,(.c (.int .i64 3))),(2,1,(.t 112)),(3,1,(.t 113))]) [2,3,4],Zz 115 (.bslice false .dyn 4 1 [(.int .i64 0),(.int .i64 0),(.int .i64 0),(.int .i64 0)] [(0,4,(.t 114))]) [5],Zz 116 (.append .dyn 4 32 (.t 110) (.t 115)) [1,6],Zf 117 7 6 (Za [] 8),Zs 1 117 116 (Za [8,7,7] 8)] [] [7,16,17,108,109,110,111,112,113,114,115,116,117]) (.exit 2)) .skip)))
def rsn(c:Cel)(i:Nat)(t:List Nat):Option (Nat×Int×Int×Int):=if(vioV (t.take c.cs.length) c.xs c.ks).2.2=true then some (i,(vioV (t.take c.cs.length) c.xs c.ks).1,(vioV (t.take c.cs.length) c.xs c.ks).2.1,-1)else((yls c (ixT (sync0 (auL c.cs)).1 (t.take c.cs.length)) (t.drop c.cs.length)).find? fun y=>!(c.ev y.1).c).map fun y=>(i,3,y.2,(y.1:Int))
def rsC(x:Nat×Int×Int×Int):List AV:=[.int .i64 (x.1:Int),.int .i64 x.2.1,.int .i64 x.2.2.1,.int .i64 x.2.2.2]
def rsnO(c:Cel)(i:Nat):List (Nat×Int×Int×Int):=(rsn c i ((sync0 (allA c)).1.getD i [])).toList
def forb(c:Cel)(n:Nat):List (Nat×Int×Int×Int):=(List.range n).flatMap (rsnO c)
theorem Qgq(c:Cel)(n:Nat):forb c (n+1)=forb c n++rsnO c n:=by unfold forb;rw[ZaH,Zan];simp
theorem QfA(c:Cel):∀n,(forb c n).length<=n
 |0=>by simp[forb]|n+1=>by
  have:=QfA c n;rw[Qgq,Zae];have:(rsnO c n).length<=1:=by unfold rsnO;cases rsn c n _<;>simp
  omega
abbrev rss(l:List (Nat×Int×Int×Int)):AV:=.fsl (l.flatMap rsC) l.length 4
theorem Qqx(l:List (Nat×Int×Int×Int)):(l.flatMap rsC).length=l.length*4:=Qbd (k:=4) (fun _=>rfl) l
theorem Qb2(l:List (Nat×Int×Int×Int)):noRefs (l.flatMap rsC)=true:=by induction l with|nil=>rfl|cons x l a=>rw[Zav];exact SU.Qax rfl a
def spA(c:Cel)(T:List (List Nat)):List (List Nat):=T.map fun t=>t.take c.cs.length
def spB(c:Cel)(T:List (List Nat)):List (List Nat):=T.map fun t=>t.drop c.cs.length
def spP(c:Cel)(P T:List (List Nat)):List Nat:=T.map fun t=>ixT P (t.take c.cs.length)
abbrev spG(c:Cel)(q:Aut)(P T:List (List Nat)):List AV:=[sliN q.al,.int .i64 (q.n:Int),sliN q.ms,egsN q.es,tuV (spA c T),tuV (spB c T),sliN (spP c P T),rss (forb c T.length)]
def spC(c:Cel):List AV:=spG c (syncA (allA c)) (sync0 (auL c.cs)).1 (sync0 (allA c)).1
theorem QfB(c:Cel)(q:Aut)(P T:List (List Nat)):noRefs (spG c q P T)=true:=by
 have a:noRef (rss (forb c T.length))=true:=by rw[noRef];exact Qb2 _
 simp only[noRefs,Qab,Qam,QbH,a,Zag,Zac];rfl
theorem Qml{α:Type}{p:α->Bool}:∀{l:List α}{y:α},l.find? p=some y->∃n:Nat,l[n]?=some y/\p y=true/\∀(j:Nat)z,j<n->l[j]?=some z->p z=false|[],y,h=>by simp at h|x::l,y,h=>by rw[List.find?_cons]at h;cases hp:p x with|true=>rw[hp]at h;cases h;exact⟨0,rfl,hp,fun j z c=>absurd c (ZaD _)⟩|false=>rw[hp]at h;obtain⟨n,h1,d,f⟩:=Qml h;refine⟨n+1,by simpa using h1,d,fun j z c a=>?_⟩;cases j with|zero=>simp at a;subst a;exact hp|succ j=>exact f j z (by omega) (by simpa using a)
theorem QhP{f:Nat->Evt}{e:Nat}(h:e<5):(evsC f).drop (e*5)=evC e (f e)++(evsC f).drop ((e+1)*5):=by
 obtain rfl|rfl|rfl|rfl|rfl:e=0\/e=1\/e=2\/e=3\/e=4:=by omega
 all_goals rfl
theorem Qmm{c:Cel}(h:WfCel c){k:Nat}{r:List Nat}{y:Nat×Int}(d:y∈yls c k r):y.1<5:=by
 unfold yls at d;obtain⟨e,he,a⟩:=ZbH.1 d;unfold ylE at a;split at a;·cases a;unfold evO at he;obtain⟨x,f,rfl⟩:=Zaq.1 he;have hw:=Qfz (Qbk h) (by rw[Qa4];have:=h.c3;omega);exact hw.a5 _ (hw.ev x (Zbq.1 f).1)
 cases a
theorem QsC{c:Cel}{i:Nat}{t:List Nat}(a:(vioV (t.take c.cs.length) c.xs c.ks).2.2=true):(rsn c i t).toList=[(i,(vioV (t.take c.cs.length) c.xs c.ks).1,(vioV (t.take c.cs.length) c.xs c.ks).2.1,-1)]:=by unfold rsn;rw[if_pos a];rfl
theorem QtQ{c:Cel}{i:Nat}{t:List Nat}(a:(vioV (t.take c.cs.length) c.xs c.ks).2.2=false):(rsn c i t).toList=(((yls c (ixT (sync0 (auL c.cs)).1 (t.take c.cs.length)) (t.drop c.cs.length)).find? fun y=>!(c.ev y.1).c).map fun y=>(i,3,y.2,(y.1:Int))).toList:=by unfold rsn;rw[if_neg (by simp[a])]
theorem set3{h:Heap}{k j:Nat}{a b c:Blk}(hk:Nat.blt k 1099511627775=true):(((h.set k a).set k b).set k c).get j=(h.set k c).get j:=by
 have d:k<1099511627775:=by simpa using hk
 by_cases e:j=k;·subst e;rw[QaA d,QaA d]
 rw[QaH d e,QaH d e,QaH d e,QaH d e]
theorem set6{h:Heap}{k l f m j:Nat}{a b u v w d:Blk}(hk:(Nat.blt k 1099511627775&&Nat.blt l 1099511627775&&Nat.blt f 1099511627775&&Nat.blt m 1099511627775)=true):((((((h.set k a).set k b).set l u).set f v).set m w).set k d).get j=((((h.set l u).set f v).set m w).set k d).get j:=by
 simp only[Zab,ZbL]at hk;obtain⟨⟨⟨h1,c⟩,g⟩,i⟩:=hk;by_cases e:j=k;·subst e;rw[QaA h1,QaA h1]
 rw[QaH h1 e,QaH h1 e];by_cases o:j=m;·subst o;rw[QaA i,QaA i]
 rw[QaH i o,QaH i o];by_cases p:j=f;·subst p;rw[QaA g,QaA g]
 rw[QaH g p,QaH g p];by_cases n:j=l;·subst n;rw[QaA c,QaA c]
 rw[QaH c n,QaH c n,QaH h1 e,QaH h1 e]
theorem _root_.Go.AM.au27{p:Prop}(h:p:=by repeat(first|exact Zck|(refine Zcl ?_ ?_;·(first|exact Rn.any|exact Rn.x1 rfl rfl|exact Rn.x2 rfl rfl|exact Rn.x3 rfl rfl|exact Rn.x4 rfl rfl|exact Rn.x5 rfl|exact Rn.x6 rfl|exact Rn.x7 rfl|(refine Rn.slot ?_ ?_;(first|rfl|(rw[ZaV];rfl));(first|rfl|(simp only[noRef,noRefs,Qag,Zad,Zac,Zag,Qaa,Qan,Qab,Qam,Qa0,Qad,SU.Qbo,QbH];done)))|(refine Rn.fn ?_ ?_<;>(repeat'(first|exact Zcs|refine Zct ?_ ?_|exact Zcd rfl|exact Rn.x6 rfl|exact Rn.x2 rfl rfl|exact Rn.x5 rfl|exact Rn.x1 rfl rfl))))))):p:=h
theorem specify18(c:Cel)(h:WfCel c):PSpec Tryz.prog 18 [celV c] (.tup [.agg (spC c),.int .i64 0]):=by
 have s:=QbS c;have hns:noRef (.tup [.agg (spC c),.int .i64 0])=true:=by rw[noRef,noRefs,noRef,spC,QfB];rfl
 refine Zcf 64 TQ.ok18 rfl (by rw[noRefs,SU.Qbc];rfl) hns ?_;have h0:=h.c0;have h3:=h.c3;have h2:=h.r2;have hO:=open70 c h;have hin:=Qsz h;have hPi:=QeW (fun a ha=>(Qbk h a ha).pos) fun a ha=>(Qbk h a ha).wf.esn;have O:=QhO (QdZ h) (by rw[Qcr];omega);have hT243:=O.2.1;clear O;have hPin:∀x∈(sync0 (auL c.cs)).1,InT (auL c.cs) x:=hPi.inT;have hpn:(syncA (auL c.cs)).n=(sync0 (auL c.cs)).1.length:=rfl;have l:=fun t(u:c.cs.length<=t.length)=>split71 c t h0 u;have U:=fun t(u:InT (auL c.cs) t)=>violated73 c h u;have Q:=fun k r=>refused74 c k r;have N:=fun{k:Nat}hk r hr hrn{b m:Nat}H H' n=>@refused160 c h k hk r hr hrn b m H H' n;have hrs:∀i t,(sync0 (allA c)).1[i]?=some t->rsnO c i=(rsn c i t).toList:=fun i t u=>by unfold rsnO;rw[Zak,u];rfl
 have hrv:=fun i t=>@QtQ c i t;have hle:=QfA c;have hsu:=Qgq c;have hst:=Qex c (syncA (auL c.cs)) (syncA (allA c)) (sync0 (auL c.cs)).1 (sync0 (allA c)).1;rw[spC]at*;rw[stC]at hO l Q;generalize syncA (auL c.cs)=p at*;generalize syncA (allA c)=q at*;generalize(sync0 (auL c.cs)).1=P at*;generalize(sync0 (allA c)).1=T at*;have o:=QbH T;have L:noRef (.fptr (stG c p q P T))=true:=by rw[noRef];exact hst
 have hnc:=SU.Qbc c;unfold TQ.s18;refine ZcJ ?_;refine cp hO ?_;refine ZcJ ?_;refine Qaq 200 (fun i:Nat=>[(1,.ptr 51 0 0),(2,.ptr 53 0 0),(4,.fptr (stG c p q P T)),(6,.ptr 52 0 0),(35,tuV T),(36,.int .i64 T.length),(37,.int .i64 i)]) (fun i=>[(51,.cells 0 [evsV c.ev,its 99 c.cs,its 114 c.rs,exs c.xs,cos c.ks]),(52,.cells 0 [sliN q.al,.int .i64 (q.n:Int),sliN q.ms,egsN q.es,.sl 60 0 0 i 1,.sl 61 0 0 i 1,.sl 62 0 0 i 1,.sl 63 0 0 (forb c i).length 4]),(53,.cells 0 [.nilsl,.int .i64 0,.nilsl,.nilsl,.nilsl,.nilsl,.nilsl,.nilsl]),(60,.cells 0 ((spA c (T.take i)).map sliN)),(61,.cells 0 ((spB c (T.take i)).map sliN)),(62,.cells 0 (ints (nz (spP c P (T.take i))))),(63,.cells 0 ((forb c i).flatMap rsC))]) (fun i=>i<=T.length) (fun i=>T.length-i) 0 0 400 (fun _:Unit=>[(2,.ptr 53 0 0),(6,.ptr 52 0 0)]) (fun _=>[(52,.cells 0 (spG c q P T)),(53,.cells 0 [.nilsl,.int .i64 0,.nilsl,.nilsl,.nilsl,.nilsl,.nilsl,.nilsl])]) (fun _=>True) ?_ (Zah _) ?_ ?_;·refine⟨[(51,.blk 64 0),(52,.blk 81 0),(53,.blk 65 0),(60,.nil),(61,.nil),(62,.nil),(63,.nil)],rfl,Zcj,?_,Zcl (Rn.x2 rfl rfl) (Zcl (Rn.x2 rfl rfl) (Zcl (Zcd L) (Zcl (Rn.x2 rfl rfl) (Zcl (Zcd o) au27))))⟩;exact Zcn rfl rfl gg (Zce s) (Zcn rfl rfl gg (Zct (Zcd (Qab _)) (Zct (Zcd rfl) (Zct (Zcd (Qab _)) (Zct (Zcd (Qam _)) (Zct (Rn.x4 rfl rfl) (Zct (Rn.x4 rfl rfl) (Zct (Rn.x4 rfl rfl) (Zct (Rn.x4 rfl rfl) Zcs)))))))) (Zcn rfl rfl gg (Zce rfl) (Zco rfl rfl (Zco rfl rfl (Zco rfl rfl (Zco rfl rfl Zcm))))))
 ·rintro i hi;by_cases S:i<T.length
  ·obtain⟨t,u⟩:=Qap S;obtain⟨hit,hpt⟩:=hin t (Zaf u);have htl:c.cs.length<=t.length:=by rw[hit.1,Qcr];omega
   have I:=Qrs (A:=auL c.cs) (B:=auL c.rs) hit;have K:=Qrt (A:=auL c.cs) (B:=auL c.rs) hit;rw[Qa4]at I K;have hl1:(t.take c.cs.length).length<=3:=by rw[Zas];omega
   have hl2:(t.drop c.cs.length).length<=2:=by rw[K.1,Qa4];omega
   have hsp:=l t htl;have hky:=key72 h I;have hv:=U _ I;have hcl1:=clone41 (t.take c.cs.length) (by omega);have hcl2:=clone41 (t.drop c.cs.length) (by omega);have hk:=QiC hpt;have V:(spA c (T.take (i+1))).map sliN=(spA c (T.take i)).map sliN++[sliN (t.take c.cs.length)]:=by unfold spA;rw[take_succ' u];simp
   have Y:(spB c (T.take (i+1))).map sliN=(spB c (T.take i)).map sliN++[sliN (t.drop c.cs.length)]:=by unfold spB;rw[take_succ' u];simp
   have X:spP c P (T.take (i+1))=spP c P (T.take i)++[ixT P (t.take c.cs.length)]:=by unfold spP;rw[take_succ' u];simp
   have hla:((spA c (T.take i)).map sliN).length=i:=by unfold spA;simp;omega
   have Z:((spB c (T.take i)).map sliN).length=i:=by unfold spB;simp;omega
   have hlp:(ints (nz (spP c P (T.take i)))).length=i:=by unfold spP;simp[ints];omega
   have G:=Qqx (forb c i);have hlf2:=hle i;have B:=hrs i t u;have hsi:=hsu i;have M:=hrv i t;have F:=@QsC c i t;have hk:ixT P (t.take c.cs.length)<p.n:=by rw[hpn];exact hk
   have hr2:(t.drop c.cs.length).length=c.rs.length:=by rw[K.1,Qa4]
   have R:∀(j:Nat)y,c.rs[j]?=some y->(t.drop c.cs.length).getD j 0<y.2.n:=fun j y hy=>K.2 j y.2 (by rw[ZaJ,hy];rfl);have hfa:∀z,(forb c i++[z]).flatMap rsC=(forb c i).flatMap rsC++rsC z:=fun z=>by simp
   have A:noRefs [sliN (t.take c.cs.length)]=true:=by rw[noRefs,Qab];rfl
   have C:noRefs [sliN (t.drop c.cs.length)]=true:=by rw[noRefs,Qab];rfl
   generalize spA c (T.take i)=LA at*;generalize spB c (T.take i)=LB at*;generalize spP c P (T.take i)=LP at*;generalize t.take c.cs.length=t1 at*;generalize t.drop c.cs.length=t2 at*;generalize vioV t1 c.xs c.ks=v at*;obtain⟨v1,v2,v3⟩:=v;dsimp only at M F hv;have hrf:=Q (ixT P t1) t2;refine ZcK (ZcN S (QnS u)) ?_;refine cp hsp ?_;refine ZcJ ?_;refine cp hky ?_;refine ZcJ ?_;refine Qgm (c:=keyC) (f:=ixV P) (x:=t1) (l:=P) (Qgo (Qbk h) I hPin) hpt ?_;simp(disch:=first|omega|exact PairsOK.mk rfl|(simp only[lenW]<;>omega))only[ixV,Qac,Qae,Qaf,wW,wV,simprocAttr];refine QdI [(56,[60]),(62,[61]),(68,[62])] rfl rfl ?_;refine ZcJ ?_;refine cp hcl1 ?_;refine ZcJ ?_;refine cp hcl2 ?_;refine ZcK (ZcO hla Z hlp) ?_;refine⟨⟨⟨_,rfl,fun b hb=>hb⟩,⟨_,rfl,fun b hb=>hb⟩,⟨_,rfl,fun b hb=>hb⟩,trivial⟩,?_⟩;refine cp hv ?_;cases v3 with|true=>have d:=F rfl;refine ZcK G ?_;refine⟨i+1,by omega,by omega,?_⟩;rw[V,Y,X,hsi,B,d,hfa,Zae,QaF,Qaw];refine⟨[(51,.blk 51 0),(52,.blk 52 0),(53,.blk 53 0),(60,.blk 60 1),(61,.blk 61 1),(62,.blk 62 1),(63,.blk 63 1)],rfl,Zcj,?_,Zcl (Rn.x2 rfl rfl) (Zcl (Rn.x2 rfl rfl) (Zcl (Zcd L) (Zcl (Rn.x2 rfl rfl) (Zcl (Zcd o) au27))))⟩;exact Zcn rfl rfl gg (Zce s) (Zcn rfl rfl gg (Zct (Zcd (Qab _)) (Zct (Zcd rfl) (Zct (Zcd (Qab _)) (Zct (Zcd (Qam _)) (Zct (Rn.x1 rfl rfl) (Zct (Rn.x1 rfl rfl) (Zct (Rn.x1 rfl rfl) (Zct (Rn.x1 rfl rfl) Zcs)))))))) (Zcn rfl rfl gg (Zce rfl) (Zcn rfl rfl gg (Zce (SU.Qax (Qav Qab _) A)) (Zcn rfl rfl gg (Zce (SU.Qax (Qav Qab _) C)) (Zcn rfl rfl gg (Zce (SU.Qax (Qaa _) rfl)) (Zcn rfl rfl gg (Zce (SU.Qax (Qb2 _) rfl)) Zcm))))))|false=>
    have d:=M rfl;refine ZcJ ?_;refine cp hrf ?_;refine ZcJ ?_;have E:∀{x1 x2 x3 x4 x5 x6 x7 x8:Blk},(hp [(51,x1),(52,x2),(53,x3),(54,x4),(60,x5),(61,x6),(62,x7),(63,x8)]).get 150=none:=fun{x1 x2 x3 x4 x5 x6 x7 x8}=>by simp(disch:=omega)only[QaT,QlB,QaH,get_e]
    cases J:(yls c (ixT P t1) t2).find? fun y=>!(c.ev y.1).c with|none=>
     rw[J]at d;replace d:(rsn c i t).toList=[]:=d;refine Qkt (n':=700) (b:=150) (T':=[(1,.ptr 51 0 0),(2,.ptr 53 0 0),(4,.fptr (stG c p q P T)),(6,.ptr 52 0 0),(7,.ptr 54 0 0),(35,tuV T),(36,.int .i64 T.length),(37,.int .i64 i),(99,rfF c (ixT P t1) t2)]) (L:=[(51,.cells 0 [evsV c.ev,its 99 c.cs,its 114 c.rs,exs c.xs,cos c.ks]),(52,.cells 0 [sliN q.al,.int .i64 (q.n:Int),sliN q.ms,egsN q.es,.sl 60 0 0 (i+1) 1,.sl 61 0 0 (i+1) 1,.sl 62 0 0 (i+1) 1,.sl 63 0 0 (forb c i).length 4]),(53,.cells 0 [.nilsl,.int .i64 0,.nilsl,.nilsl,.nilsl,.nilsl,.nilsl,.nilsl]),(54,.cells 0 [.int .i64 (i:Int)]),(60,.cells 0 (LA.map sliN++[sliN t1])),(61,.cells 0 (LB.map sliN++[sliN t2])),(62,.cells 0 (ints (nz LP)++[.int .i64 (ixT P t1:Int)])),(63,.cells 0 ((forb c i).flatMap rsC))]) ?_ rfl E rfl (N (m:=1000) hk t2 hr2 R (fun _=>_) _ (yls c (ixT P t1) t2).length ?_ (ZaO _) ?_ (.inl ⟨rfl,rfl⟩)) gg ?_;·refine⟨[(51,.blk 51 0),(52,.blk 52 0),(53,.blk 53 0),(54,.blk 204 0),(60,.blk 60 1),(61,.blk 61 1),(62,.blk 62 1),(63,.blk 63 0)],rfl,Zcj,?_,Zcl (Rn.x2 rfl rfl) (Zcl (Rn.x2 rfl rfl) (Zcl (Zcd L) (Zcl (Rn.x2 rfl rfl) (Zcl (Rn.x2 rfl rfl) (Zcl (Zcd o) (Zcl (Zcd rfl) (Zcl (Zcd rfl) (Zcl (Zcd (Qgp _ _ _)) Zck))))))))⟩;exact Zcn rfl rfl gg (Zce s) (Zcn rfl rfl gg (Zct (Zcd (Qab _)) (Zct (Zcd rfl) (Zct (Zcd (Qab _)) (Zct (Zcd (Qam _)) (Zct (Rn.x1 rfl rfl) (Zct (Rn.x1 rfl rfl) (Zct (Rn.x1 rfl rfl) (Zct (Rn.x1 rfl rfl) Zcs)))))))) (Zcn rfl rfl gg (Zce rfl) (Zcn rfl rfl gg (Zce rfl) (Zcn rfl rfl gg (Zce (SU.Qax (Qav Qab _) A)) (Zcn rfl rfl gg (Zce (SU.Qax (Qav Qab _) C)) (Zcn rfl rfl gg (Zce (SU.Qax (Qaa _) rfl)) (Zcn rfl rfl gg (Zce (Qb2 _)) Zcm)))))))
     ·exact(by repeat(first|exact Fresh.e|exact Fresh.le (by assumption) (by omega)|refine Fresh.set ?_ (by omega) (by omega)))
     ·intro j y hj hy;have g:=Qmm h (Zaf hy);have f:(c.ev y.1).c=true:=by simpa using List.find?_eq_none.1 J y (Zaf hy)
      refine RSpec.of_wS (n:=300) rfl gg rfl rfl rfl ?_;simp(disch:=first|omega|exact PairsOK.mk rfl|(simp only[lenW]<;>omega))only[upsT,f,g,Qgx,QhP,evC,Qac,Qae,Qaf,wW,wV,simprocAttr];exact⟨rfl,fun x=>set3 rfl⟩
     unfold leftQ;refine ZcJ ?_;refine⟨i+1,by omega,by omega,?_⟩;rw[V,Y,X,hsi,B,d,Zao,QaF,Qaw];refine⟨[(51,.blk 51 0),(52,.blk 52 0),(53,.blk 53 0),(60,.blk 60 0),(61,.blk 61 0),(62,.blk 62 0),(63,.blk 63 0)],rfl,Zcj,?_,Zcl (Rn.x2 rfl rfl) (Zcl (Rn.x2 rfl rfl) (Zcl (Zcd L) (Zcl (Rn.x2 rfl rfl) (Zcl (Zcd o) au27))))⟩;exact Zcn rfl rfl gg (Zce s) (Zcn rfl rfl gg (Zct (Zcd (Qab _)) (Zct (Zcd rfl) (Zct (Zcd (Qab _)) (Zct (Zcd (Qam _)) (Zct (Rn.x1 rfl rfl) (Zct (Rn.x1 rfl rfl) (Zct (Rn.x1 rfl rfl) (Zct (Rn.x1 rfl rfl) Zcs)))))))) (Zcn rfl rfl gg (Zce rfl) (Zcn rfl rfl gg (Zce (SU.Qax (Qav Qab _) A)) (Zcn rfl rfl gg (Zce (SU.Qax (Qav Qab _) C)) (Zcn rfl rfl gg (Zce (SU.Qax (Qaa _) rfl)) (Zcn rfl rfl gg (Zce (Qb2 _)) Zcm))))))|some y=>
     rw[J]at d;replace d:(rsn c i t).toList=[(i,3,y.2,(y.1:Int))]:=d;obtain⟨n,w,hn2',hn3'⟩:=Qml J;have hlen:n<(yls c (ixT P t1) t2).length:=(Zam.1 w).1;have g:=Qmm h (Zaf w);have f:(c.ev y.1).c=false:=by simpa using hn2'
     refine Qkt (n':=700) (b:=150) (T':=[(1,.ptr 51 0 0),(2,.ptr 53 0 0),(4,.fptr (stG c p q P T)),(6,.ptr 52 0 0),(7,.ptr 54 0 0),(35,tuV T),(36,.int .i64 T.length),(37,.int .i64 i),(99,rfF c (ixT P t1) t2)]) (L:=[(51,.cells 0 [evsV c.ev,its 99 c.cs,its 114 c.rs,exs c.xs,cos c.ks]),(52,.cells 0 [sliN q.al,.int .i64 (q.n:Int),sliN q.ms,egsN q.es,.sl 60 0 0 (i+1) 1,.sl 61 0 0 (i+1) 1,.sl 62 0 0 (i+1) 1,.sl 63 0 0 (forb c i).length 4]),(53,.cells 0 [.nilsl,.int .i64 0,.nilsl,.nilsl,.nilsl,.nilsl,.nilsl,.nilsl]),(54,.cells 0 [.int .i64 (i:Int)]),(60,.cells 0 (LA.map sliN++[sliN t1])),(61,.cells 0 (LB.map sliN++[sliN t2])),(62,.cells 0 (ints (nz LP)++[.int .i64 (ixT P t1:Int)])),(63,.cells 0 ((forb c i).flatMap rsC))]) (st:=.done (.exit 2)) ?hrec rfl E rfl (N (m:=1000) hk t2 hr2 R (fun _=>_) (((((hp [(51,.cells 0 [evsV c.ev,its 99 c.cs,its 114 c.rs,exs c.xs,cos c.ks]),(52,.cells 0 [sliN q.al,.int .i64 (q.n:Int),sliN q.ms,egsN q.es,.sl 60 0 0 (i+1) 1,.sl 61 0 0 (i+1) 1,.sl 62 0 0 (i+1) 1,.sl 63 0 0 (forb c i).length 4]),(53,.cells 0 [.nilsl,.int .i64 0,.nilsl,.nilsl,.nilsl,.nilsl,.nilsl,.nilsl]),(54,.cells 0 [.int .i64 (i:Int)]),(60,.cells 0 (LA.map sliN++[sliN t1])),(61,.cells 0 (LB.map sliN++[sliN t2])),(62,.cells 0 (ints (nz LP)++[.int .i64 (ixT P t1:Int)])),(63,.cells 0 ((forb c i).flatMap rsC))]).set 315 (.cells 0 (rsC (i,3,y.2,(y.1:Int))))).set 63 (.cells 1 ((forb c i).flatMap rsC++rsC (i,3,y.2,(y.1:Int))))).set 52 (.cells 0 [sliN q.al,.int .i64 (q.n:Int),sliN q.ms,egsN q.es,.sl 60 0 0 (i+1) 1,.sl 61 0 0 (i+1) 1,.sl 62 0 0 (i+1) 1,.sl 63 1 0 ((forb c i).length+1) 4])).set 150 (.loop 0 120 [(1,.ptr 51 0 0),(2,.ptr 53 0 0),(4,.fptr (stG c p q P T)),(6,.ptr 52 0 0),(7,.ptr 54 0 0),(35,tuV T),(36,.int .i64 T.length),(37,.int .i64 i),(99,rfF c (ixT P t1) t2)] [100,101] (.s lpA) (.s lpB) (.done (.exit 2)))) n ?hfr (Nat.le_of_lt hlen) ?hY (.inr ⟨y,w,?L⟩)) gg ?hQ;case hrec=>refine⟨[(51,.blk 51 0),(52,.blk 52 0),(53,.blk 53 0),(54,.blk 204 0),(60,.blk 60 1),(61,.blk 61 1),(62,.blk 62 1),(63,.blk 63 0)],rfl,Zcj,?_,Zcl (Rn.x2 rfl rfl) (Zcl (Rn.x2 rfl rfl) (Zcl (Zcd L) (Zcl (Rn.x2 rfl rfl) (Zcl (Rn.x2 rfl rfl) (Zcl (Zcd o) (Zcl (Zcd rfl) (Zcl (Zcd rfl) (Zcl (Zcd (Qgp _ _ _)) Zck))))))))⟩;exact Zcn rfl rfl gg (Zce s) (Zcn rfl rfl gg (Zct (Zcd (Qab _)) (Zct (Zcd rfl) (Zct (Zcd (Qab _)) (Zct (Zcd (Qam _)) (Zct (Rn.x1 rfl rfl) (Zct (Rn.x1 rfl rfl) (Zct (Rn.x1 rfl rfl) (Zct (Rn.x1 rfl rfl) Zcs)))))))) (Zcn rfl rfl gg (Zce rfl) (Zcn rfl rfl gg (Zce rfl) (Zcn rfl rfl gg (Zce (SU.Qax (Qav Qab _) A)) (Zcn rfl rfl gg (Zce (SU.Qax (Qav Qab _) C)) (Zcn rfl rfl gg (Zce (SU.Qax (Qaa _) rfl)) (Zcn rfl rfl gg (Zce (Qb2 _)) Zcm)))))))
     case hfr=>exact(by repeat(first|exact Fresh.e|exact Fresh.le (by assumption) (by omega)|refine Fresh.set ?_ (by omega) (by omega)))
     case hY=>
      intro j z hj hz;have g:=Qmm h (Zaf hz);have f:(c.ev z.1).c=true:=by simpa using hn3' j z hj hz
      refine RSpec.of_wS (n:=300) rfl gg rfl rfl rfl ?_;simp(disch:=first|omega|exact PairsOK.mk rfl|(simp only[lenW]<;>omega))only[upsT,f,g,Qgx,QhP,evC,Qac,Qae,Qaf,wW,wV,simprocAttr];exact⟨rfl,fun x=>set3 rfl⟩
     case L=>refine RSpec.of_wS (n:=300) rfl gg rfl rfl rfl ?_;simp(disch:=first|omega|exact PairsOK.mk rfl|(simp only[lenW]<;>omega))only[upsT,f,g,Qgx,QhP,evC,G,Qac,Qae,Qaf,wW,wV,simprocAttr];exact⟨rfl,fun x=>set6 rfl⟩
     case hQ=>unfold leftQ;refine⟨rfl,?_⟩;refine ZcJ ?_;refine⟨i+1,by omega,by omega,?_⟩;rw[V,Y,X,hsi,B,d,hfa,Zae,QaF,Qaw];refine⟨[(51,.blk 51 0),(52,.blk 52 0),(53,.blk 53 0),(60,.blk 60 0),(61,.blk 61 0),(62,.blk 62 0),(63,.blk 63 1)],rfl,Zcj,?_,Zcl (Rn.x2 rfl rfl) (Zcl (Rn.x2 rfl rfl) (Zcl (Zcd L) (Zcl (Rn.x2 rfl rfl) (Zcl (Zcd o) au27))))⟩;exact Zcn rfl rfl gg (Zce s) (Zcn rfl rfl gg (Zct (Zcd (Qab _)) (Zct (Zcd rfl) (Zct (Zcd (Qab _)) (Zct (Zcd (Qam _)) (Zct (Rn.x1 rfl rfl) (Zct (Rn.x1 rfl rfl) (Zct (Rn.x1 rfl rfl) (Zct (Rn.x1 rfl rfl) Zcs)))))))) (Zcn rfl rfl gg (Zce rfl) (Zcn rfl rfl gg (Zce (SU.Qax (Qav Qab _) A)) (Zcn rfl rfl gg (Zce (SU.Qax (Qav Qab _) C)) (Zcn rfl rfl gg (Zce (SU.Qax (Qaa _) rfl)) (Zcn rfl rfl gg (Zce (SU.Qax (Qb2 _) rfl)) Zcm))))))
  have e:i=T.length:=by omega
  subst e;have hla:((spA c T).map sliN).length=T.length:=by unfold spA;simp
  have Z:((spB c T).map sliN).length=T.length:=by unfold spB;simp
  have hlp:(ints (nz (spP c P T))).length=T.length:=by unfold spP;simp[ints]
  have G:=Qqx (forb c T.length);refine ZcI S ?_;refine⟨(),[(52,.blk 52 0),(53,.blk 53 0)],rfl,Zcj,?_,Zcl (Rn.x2 rfl rfl) (Zcl (Rn.x2 rfl rfl) Zck)⟩;exact Zcn rfl rfl gg (Zct (Zcd (Qab _)) (Zct (Zcd rfl) (Zct (Zcd (Qab _)) (Zct (Zcd (Qam _)) (Zct (Zcu (b:=60) (g:=0) gg rfl rfl (by simp[spA]) (by simpa using hla) (Zce (Qav Qab _))) (Zct (Zcu (b:=61) (g:=0) gg rfl rfl (by simp[spB]) (by simpa using Z) (Zce (Qav Qab _))) (Zct (Zcu (b:=62) (g:=0) gg rfl rfl (by simp[spP]) (by simpa using hlp) (Zce (Qaa _))) (Zct (Zcu (b:=63) (g:=0) gg rfl rfl rfl G (Zce (Qb2 _))) Zcs)))))))) (Zcn rfl rfl gg (Zce rfl) Zcm)
 rintro _ _;refine ZcJ ?_;exact⟨.inr trivial,_,rfl,Zcd hns⟩
end Go.AM.SO
namespace Go.AM.TY
open Go.Proofs
set_option maxHeartbeats 4000000
noncomputable section
def cf:YA.Cf:={most:=.pure}
def s22:SFn:=by
 refine(?f:YA.Yt Tryz.prog cf 22 [[0,4],[12,13,11,14,15],[16],[1,5,6,17,18,19,20],[4,6,17],[21],[],[25,26,27],[9,28,29,30,31,32],[33],[1,22,23,24,35,36,37,34,38,39],[40],[5,7,10,6,41,42,43,44],[5,7,10,6,41,45,46,47,48,49,50]]) ?s ?h;case h=>exact YA.rr
 exact fun s _=>s
def s23:SFn:=by
 refine(?f:YA.Yt Tryz.prog cf 23 [[0,3],[1,8,9,7,10,11,12,4],[5,6,13,14,15]]) ?s ?h;case h=>exact YA.rr
 exact fun s _=>s
theorem ok22:okFn Tryz.prog 22 s22=true:=by kernel_rfl
theorem ok23:okFn Tryz.prog 23 s23=true:=by kernel_rfl
end
end Go.AM.TY
namespace Go.AM.SO
open Go.Proofs Go.AM.SD Go.AM.SE
def fbs(l:List (Nat×Int×Int×Int)):List Nat:=l.map (·.1)
abbrev fbd(c:Cel):List Nat:=fbs (forb c (sync0 (allA c)).1.length)
theorem Qrv{c:Cel}{i:Nat}{x:Nat×Int×Int×Int}(h:x∈rsnO c i):x.1=i:=by
 unfold rsnO rsn at h;split at h;·simp at h;rw[h]
 simp at h;obtain⟨a,b,_,rfl⟩:=h;rfl
theorem Qmn(c:Cel):∀n,(fbs (forb c n)).Pairwise (·<·)/\∀x∈fbs (forb c n),x<n
 |0=>by simp[forb,fbs]|n+1=>by
  obtain⟨h1,f⟩:=Qmn c n;rw[Qgq];unfold fbs at h1 f⊢;rw[ZaL];have hm:∀x∈(rsnO c n).map (·.1),x=n:=fun x a=>by obtain⟨y,d,rfl⟩:=Zaq.1 a;exact Qrv d
  have g:((rsnO c n).map (·.1)).Pairwise (·<·):=by unfold rsnO;cases rsn c n _<;>simp
  refine⟨Zbb.2 ⟨h1,g,fun x a y d=>?_⟩,fun x a=>?_⟩;·rw[hm y d];exact f x a
  rcases ZaI.1 a with a|a;·have:=f x a;omega
  rw[hm x a];omega
theorem QnV(e:Nat->Evt):(uncL e 5).Pairwise (·<·)/\∀x∈uncL e 5,x<32:=by refine⟨List.pairwise_lt_range.filter _,fun x a=>?_⟩;have:=Zau.1 (Zbq.1 a).1;omega
theorem qok_c(c:Cel):QOk (syncA (allA c)) (fbd c) (uncL c.ev 5):=⟨(Qmn c _).1,(Qmn c _).2,(QnV _).1,(QnV _).2⟩
theorem wfA_c(c:Cel)(h:WfCel c):WfA (syncA (allA c)):=(Qfz (QdZ h) (by rw[Qcr];have:=h.c3;have:=h.r2;omega)).toWfA
def resC(c:Cel):Res:=pRes (syncA (allA c)) (fbd c) (uncL c.ev 5) true
theorem Qmo{l:List (Nat×Int×Int×Int)}{i:Nat}{x:Nat×Int×Int×Int}(h:l[i]?=some x):(l.flatMap rsC).drop (i*4)=.int .i64 (x.1:Int)::.int .i64 x.2.1::.int .i64 x.2.2.1::.int .i64 x.2.2.2::(l.drop (i+1)).flatMap rsC:=Qbh (f:=rsC) (k:=4) (fun _=>rfl) h
theorem Qmp{l:List (Nat×Int×Int×Int)}{i:Nat}{x:Nat×Int×Int×Int}(h:l[i]?=some x):fbs (l.take (i+1))=fbs (l.take i)++[x.1]:=by unfold fbs;rw[take_succ' h,ZaL];rfl
theorem QnW{l:List (Nat×Int×Int×Int)}{i:Nat}(h:i<=l.length):(fbs (l.take i)).length=i:=by unfold fbs;rw[Zaw,Zas];omega
abbrev ni9:List AV:=[.nilsl,.nilsl,.nilsl,.int .i64 0,.nilsl,.int .i64 0,.nilsl,.nilsl,.nilsl]
abbrev ni8:List AV:=[.nilsl,.int .i64 0,.nilsl,.nilsl,.nilsl,.nilsl,.nilsl,.nilsl]
theorem _root_.Go.AM.au28{p:Prop}(h:p:=by repeat(first|exact Zck|(refine Zcl ?_ ?_;·(first|exact Rn.any|exact Rn.x1 rfl rfl|exact Rn.x2 rfl rfl|exact Rn.x3 rfl rfl|exact Rn.x4 rfl rfl|exact Rn.x5 rfl|exact Rn.x6 rfl|exact Rn.x7 rfl|(refine Rn.slot ?_ ?_;(first|rfl|(rw[ZaV];rfl));(first|rfl|(simp only[noRef,noRefs,Qag,Zad,Zac,Zag,Qaa,Qan,Qab,Qam,Qa0,Qad,Qki,Qb2];done)))|(refine Rn.fn ?_ ?_<;>(repeat'(first|exact Zcs|refine Zct ?_ ?_|exact Zcd rfl|exact Rn.x6 rfl|exact Rn.x2 rfl rfl|exact Rn.x5 rfl|exact Rn.x1 rfl rfl))))))):p:=h
theorem cell22(c:Cel)(h:WfCel c):PSpec Tryz.prog 22 [celV c] (.tup [.agg (spC c),SE.rsV (resC c),.int .i64 0]):=by
 have f:=QbS c;have a:noRefs (spC c)=true:=QfB _ _ _ _;refine Zcf 64 TY.ok22 rfl (by rw[noRefs,SU.Qbc];rfl) (by rw[noRef,noRefs,noRef,a,noRefs,Qev];rfl) ?_;have hO:=specify18 c h;have n:=select86 c.ev h.ev;have hw:=wfA_c c h;have s:=WfA.el1 hw;have o:=result39 (syncA (allA c)) (fbd c) (uncL c.ev 5) true hw (qok_c c) (by omega);have k:=Qev (pRes (syncA (allA c)) (fbd c) (uncL c.ev 5) true);have hle:=QfA c (sync0 (allA c)).1.length;have u:(sync0 (allA c)).1.length<=4096:=hw.n5;have p:(syncA (allA c)).n=(sync0 (allA c)).1.length:=rfl;unfold resC;rw[spC,spG]at hO a⊢;unfold fbd at*;generalize forb c (sync0 (allA c)).1.length=L at*;generalize pRes (syncA (allA c)) (fbs L) (uncL c.ev 5) true=R at*;generalize syncA (allA c)=q at*;generalize(sync0 (auL c.cs)).1=P at*;generalize(sync0 (allA c)).1=T at*;have r:(spA c T).length=T.length:=by simp[spA]
 have t:(spB c T).length=T.length:=by simp[spB]
 unfold TY.s22;refine ZcJ ?_;refine cp hO ?_;refine ZcJ ?_;refine Qaq 140 (fun i:Nat=>[(1,.ptr 51 0 0),(2,.ptr 53 0 0),(3,.ptr 54 0 0),(5,.ptr 52 0 0),(7,.sl 76 0 0 i 1),(22,rss L),(23,.int .i64 L.length),(24,.int .i64 i)]) (fun i=>[(51,.cells 0 [evsV c.ev,its 99 c.cs,its 114 c.rs,exs c.xs,cos c.ks]),(52,.cells 0 [sliN q.al,.int .i64 (q.n:Int),sliN q.ms,egsN q.es,tuV (spA c T),tuV (spB c T),sliN (spP c P T),rss L]),(53,.cells 0 ni8),(54,.cells 0 ni9),(76,.cells 0 (ints (nz (fbs (L.take i)))))]) (fun i=>i<=L.length) (fun i=>L.length-i) 0 0 200 (fun _:Unit=>[(1,.ptr 51 0 0),(2,.ptr 53 0 0),(3,.ptr 54 0 0),(5,.ptr 52 0 0),(7,sliN (fbs L))]) (fun _=>[(51,.cells 0 [evsV c.ev,its 99 c.cs,its 114 c.rs,exs c.xs,cos c.ks]),(52,.cells 0 [sliN q.al,.int .i64 (q.n:Int),sliN q.ms,egsN q.es,tuV (spA c T),tuV (spB c T),sliN (spP c P T),rss L]),(53,.cells 0 ni8),(54,.cells 0 ni9)]) (fun _=>True) ?_ (Zah _) ?_ ?_;·refine⟨[(51,.blk 64 0),(52,.blk 73 0),(53,.blk 65 0),(54,.blk 66 0),(76,.nil)],rfl,au0,?_,au28⟩;exact Zcn rfl rfl gg (Zce f) (Zcn rfl rfl gg (Zce a) (Zcn rfl rfl gg (Zce rfl) (Zcn rfl rfl gg (Zce rfl) (Zco rfl rfl Zcm))))
 ·rintro i hi;by_cases d:i<L.length
  ·obtain⟨x,m⟩:=Qap d;have g:=Qmo m;have j:4<=((L.flatMap rsC).drop (i*4)).length:=by rw[g];simp
   have l:(ints (nz (fbs (L.take i)))).length=i:=by simp[ints,QnW (show i<=L.length by omega)]
   refine ZcK (ZcP d g j l) ?_;refine⟨i+1,by omega,by omega,?_⟩;rw[Qmp m,QaF,Qaw];refine⟨[(51,.blk 51 0),(52,.blk 52 0),(53,.blk 53 0),(54,.blk 54 0),(76,.blk 76 1)],rfl,au0,?_,au28⟩;exact Zcn rfl rfl gg (Zce f) (Zcn rfl rfl gg (Zce a) (Zcn rfl rfl gg (Zce rfl) (Zcn rfl rfl gg (Zce rfl) (Zcn rfl rfl gg (Zce (SU.Qax (Qaa _) rfl)) Zcm))))
  have e:i=L.length:=by omega
  subst e;refine ZcI d ?_;refine⟨(),?_⟩;exact⟨[(51,.blk 51 0),(52,.blk 52 0),(53,.blk 53 0),(54,.blk 54 0)],rfl,Zcj,Zcn rfl rfl gg (Zce f) (Zcn rfl rfl gg (Zce a) (Zcn rfl rfl gg (Zce rfl) (Zcn rfl rfl gg (Zce rfl) Zcm))),Zcl (Rn.x2 rfl rfl) (Zcl (Rn.x2 rfl rfl) (Zcl (Rn.x2 rfl rfl) (Zcl (Rn.x2 rfl rfl) (Zcl (Zcu (b:=76) (g:=0) gg rfl rfl (by simp[fbs]) (by simp[ints,fbs]) (Zce (Qaa _))) Zck))))⟩
 rintro _ _;refine ZcJ ?_;refine cp n ?_;refine ZcJ ?_;refine cp o ?_;refine ZcJ ?_;refine⟨.inr trivial,_,rfl,Zcd ?_⟩;rw[noRef,noRefs,noRef,a,noRefs,k];rfl
theorem supervisor23(c:Cel)(h:WfCel c):PSpec Tryz.prog 23 [celV c] (.tup [aV (resC c).sup,.int .i64 0]):=by have f:=QbS c;refine Zcf 64 TY.ok23 rfl (by rw[noRefs,SU.Qbc];rfl) (by simp only[noRef,noRefs,Qaa,Qad];rfl) ?_;have hO:=cell22 c h;rw[spC,spG]at hO;generalize resC c=R at*;have d:=QbH (spA c (sync0 (allA c)).1);have a:=QbH (spB c (sync0 (allA c)).1);generalize forb c (sync0 (allA c)).1.length=L at*;generalize spP c (sync0 (auL c.cs)).1 (sync0 (allA c)).1=P at*;generalize spA c (sync0 (allA c)).1=A at*;generalize spB c (sync0 (allA c)).1=B at*;generalize syncA (allA c)=q at*;unfold TY.s23;refine ZcJ ?_;refine cp hO ?_;refine ZcJ ?_;refine⟨.inr trivial,_,rfl,Zcd ?_⟩;simp only[noRef,noRefs,Qaa,Qad];rfl
end Go.AM.SO
namespace Go.AM.OD
open Go.Proofs
set_option maxHeartbeats 4000000
noncomputable section
def cf:YA.Cf:={most:=.pure,always:=[61,152].map fun k=>(k,.heap)}
def s61:SFn:=by
 refine(?f:YA.Yt Tryz.prog cf 61 [[0,4],[11,12,13],[],[14,15,16],[17,20,21,22],[23,24,25,26,27],[32,33,34,35],[32,18,19],[6,31,29,30,28],[8],[36],[],[39,40,41,42],[43,46,47,48,49,50],[51,52,53,54,55,56,62,63,70,71],[10,80,81,82,83,84,85],[10,80,44,45],[9,37,38],[1,2,5,79,76,78,77,75,72,74,73,69,68,67,64,66,65,61,60,57,59,58,7,8,86]]) ?s ?h;case h=>exact YA.rr
 exact fun s _=>s
def s66:SFn:=by
 refine(?f:YA.Yt Tryz.prog cf 66 [[0,1,4],[2,3,5,6,7,8,9,10,11,12,13,14,15,16,17,18,19,20,21,22,23,24,25,26,27,28,29,30,31,32,33,34,35,36,37,38,39,40,41,42,43,44,45,46,47,48,49,50]]) ?s ?h;case h=>exact YA.rr
 exact fun s _=>s
def s67:SFn:=by
 refine(?f:YA.Yt Tryz.prog cf 67 [[0],[],[18,19,20],[21,22,23],[],[24,25,26],[27,30,31,32,33,34,35,36],[37,38,39,40,41],[42,43,44,45],[46,47],[46,28,29],[1,12],[50,51,52,53,54,55],[56,57],[58],[59,60,61],[62,65,66,67,68,69,70,71,72,73,74,75,76,77,78,79,80,81,82],[63,64],[14,15,83,84],[48,49],[2,3,13,85,86,87],[],[88,89,90],[91,94,95,96],[97,98,99,100,101,102,103,104,105,106,107,108,109,110,111,112,113,114,115,116],[97,117,118,119,120,121,122,123,124,125,126,127],[92,93],[4,10,11,16,17,129,130,131,128,132,133,134,135],[9,136]] [(4,[(4,8),(5,8),(4,12),(5,12),(5,13)])]) ?s ?h;case h=>exact YA.rr
 exact fun s _=>s
def s152:SFn:=by
 refine(?f:YA.Yt Tryz.prog cf 152 [[0,10],[],[],[17,18,19],[20],[23,24,25,26,27],[33,36,37,38,39,40],[41,42,43,44,45,52,53],[13,14,58,59,60,61,62,63,64,65,66],[14,58,34,35],[13,21,22],[2,4,12,57,54,56,55,51,50,49,46,48,47,32,28,31,30,29,71,67,68,69,70],[1,3,5,11,92,91,90,88,89,72,73],[10,72,74,75,76],[],[77,78,79],[80,83,84,85,86,87],[93,94,95,96,97,98,99],[93,81,82],[1,3,5,11,92,91,90,88,89,15,16,100]]) ?s ?h;case h=>exact YA.rr
 exact fun s _=>s
def s153:SFn:=by
 refine(?f:YA.Yt Tryz.prog cf 153 [[0,5],[12,13,14],[],[15,16,17,18,19,20,21],[22,23,24,25],[22],[26,27,28],[29,32,33,34,35,36,37],[38,39,40,41,42,43,44],[38],[45,46,47,48],[49,52,53,54,55,56],[57,58,59,60,61,62,63,64],[71],[72,73,74,75,76],[84,85,86],[87,88,89],[90,91,92,93,94,95],[10,11,90,96,97,98,99,100,101,102,103,104,105],[50,51],[9,30,31],[1,2,8,83,80,82,81,79,77,78,70,69,68,65,67,66,106,107,108],[6,7,109,110]]) ?s ?h;case h=>exact YA.rr
 exact fun s _=>s
theorem ok61:okFn Tryz.prog 61 s61=true:=by kernel_rfl
theorem ok66:okFn Tryz.prog 66 s66=true:=by kernel_rfl
theorem ok67:okFn Tryz.prog 67 s67=true:=by kernel_rfl
theorem ok152:okFn Tryz.prog 152 s152=true:=by kernel_rfl
theorem ok153:okFn Tryz.prog 153 s153=true:=by kernel_rfl
end
end Go.AM.OD
namespace Go.AM.SE
open Go.Proofs Go.AM.SD Go.AM.OD
abbrev blF(l:LB)(n:Nat):AV:=.fsl (bls l) n 1
def o0P(n:Nat)(mk:List Nat)(left:Nat->Bool)(i:Nat):List Int:=(List.range i).map (fun i=>if left i&&mk.contains i then 0 else-1)++List.replicate (n-i) 0
theorem QsD{n:Nat}{mk:List Nat}{left:Nat->Bool}{i:Nat}(h:i<=n):(o0P n mk left i).length=n:=by unfold o0P;simp;omega
theorem QsE{n:Nat}{mk:List Nat}{left:Nat->Bool}{i:Nat}(h:i<n):(o0P n mk left i).set i (if left i&&mk.contains i then 0 else-1)=o0P n mk left (i+1):=by unfold o0P;rw[ZbX _ _ (by simp),Zaw,Zbt,ZbT,show n-i=(n-(i+1))+1 by omega,ZaW,Zbr,ZaH,ZaL,ZaM];rfl
theorem QsF{n:Nat}{mk:List Nat}{left:Nat->Bool}:o0P n mk left n=o0 n mk left:=by unfold o0P o0;simp
theorem Qrw{es:List Ed}{left:Nat->Bool}{r i:Nat}{o:List Int}{e:Ed}(h:es[i]?=some e):rRd (es.take (i+1)) left r o=rEd left r (rRd (es.take i) left r o) e:=by unfold rRd;rw[ZaQ,h,Option.toList,ZaZ];rfl
theorem Qja{left:Nat->Bool}{r:Nat}(es:List Ed)(o:List Int):(rRd es left r o).1.length=o.length:=by
 have key:∀(es:List Ed)(s:List Int×Bool),(es.foldl (rEd left r) s).1.length=s.1.length:=by intro es;induction es with|nil=>intro s;rfl|cons e es a=>intro s;rw[ZaN,a];unfold rEd;split<;>simp
 exact key es _
theorem QsG{n:Nat}{o:List Int}:cntN n o<=n:=by unfold cntN;exact Zax ZbV (by simp)
theorem dist33(a:Aut)(l:LB)(q:InN a.n a.es a.ms)(hl:l.length=a.n)(hn:a.n<=4096)(Z:a.es.length<=1000000)(X:a.ms.length<=1000000):HSpec Tryz.prog 61 [aV a,blF l a.n] .e (.sl 84 0 0 a.n 1) (hp [(84,.cells 0 (ints (rDist a.es (lf l) (a.n+1) 1 (o0 a.n a.ms (lf l)))))]):=by
 refine HSpec.Qbu 100 ok61 rfl ?_;have K:(a.n:Int)<=140737488355328:=by omega
 have M:(8:Int)*a.n<=140737488355328:=by omega
 unfold s61;refine ZcM (ZcO K M @QhE) ?_;refine Qaq 120 (fun i:Nat=>[(1,blF l a.n),(2,.ptr 50 0 0),(5,.sl 84 0 0 a.n 1),(6,.int .i64 i)]) (fun i=>[(50,.cells 0 [sliN a.al,.int .i64 (a.n:Int),sliN a.ms,egsN a.es]),(84,.cells 0 (ints (o0P a.n a.ms (lf l) i)))]) (fun i=>i<=a.n) (fun i=>a.n-i) 0 0 160 (fun _:Unit=>[(1,blF l a.n),(2,.ptr 50 0 0),(5,.sl 84 0 0 a.n 1)]) (fun _=>[(50,.cells 0 [sliN a.al,.int .i64 (a.n:Int),sliN a.ms,egsN a.es]),(84,.cells 0 (ints (o0 a.n a.ms (lf l))))]) (fun _=>True) ?_ (Zah _) ?_ ?_
 ·have e:List.replicate a.n (0:Int)=o0P a.n a.ms (lf l) 0:=by simp[o0P]
  rw[e];exact⟨[(50,.blk 100 0),(84,.blk 104 0)],rfl,au0,au11,au12⟩
 ·rintro i hi;by_cases d:i<a.n
  ·have v:i<l.length:=by omega
   have G:=QsD (mk:=a.ms) (left:=lf l) hi;have c:=QsE (mk:=a.ms) (left:=lf l) d;generalize o0P a.n a.ms (lf l) i=o at*;have h1:i+1<=o.length:=by omega
   have N:(o.set i (-1)).set i 0=o.set i 0:=by rw[List.set_set]
   by_cases g:lf l i=true
   ·have z:=has15 (nz a.ms) i (by simp;omega);rw[Qcz,Qbi]at z;by_cases hc:a.ms.contains i=true;·rw[g,hc,if_pos (by rfl)]at c;rw[hc]at z;refine ZcM (ZcQ d h1 @Qbs (Qaz v) g) ?_;refine cp z ?_;simp(disch:=first|omega|exact PairsOK.mk rfl|(simp only[lenW]<;>omega))only[d,h1,Qbs,N,List.length_set,wW,wV,simprocAttr];refine⟨i+1,by omega,by omega,?_⟩;rw[<-c];exact⟨[(50,.blk 50 0),(84,.blk 84 0)],rfl,au0,au11,au12⟩
    rw[Zai]at hc;rw[g,hc,if_neg (by decide)]at c;rw[hc]at z;refine ZcM (ZcQ d h1 @Qbs (Qaz v) g) ?_;refine cp z ?_;refine ZcL ?_;refine⟨i+1,by omega,by omega,?_⟩;rw[<-c];exact⟨[(50,.blk 50 0),(84,.blk 84 0)],rfl,au0,au11,au12⟩
   rw[Zai]at g;rw[g,Zbl,if_neg (by decide)]at c;refine ZcM (ZcQ d h1 @Qbs (Qaz v) g) ?_;refine⟨i+1,by omega,by omega,?_⟩;rw[<-c];exact⟨[(50,.blk 50 0),(84,.blk 84 0)],rfl,au0,au11,au12⟩
  have e:i=a.n:=by omega
  subst e;refine ZcM d ?_;refine⟨(),?_⟩;rw[<-QsF];exact⟨[(50,.blk 50 0),(84,.blk 84 0)],rfl,au0,au11,au12⟩
 rintro _ _;refine ZcL ?_;have O:=RI.start (left:=lf l) q;have T:cntN a.n (o0 a.n a.ms (lf l))<=a.n:=QsG;have J:=fun e he=>q.1 e he;generalize o0 a.n a.ms (lf l)=H at*;refine Qaq 180 (fun t:Nat×List Int×Bool=>[(1,blF l a.n),(2,.ptr 50 0 0),(5,.sl 84 0 0 a.n 1),(7,.int .i64 ((a.n+2-t.1:Nat):Int)),(8,.bool t.2.2)]) (fun t=>[(50,.cells 0 [sliN a.al,.int .i64 (a.n:Int),sliN a.ms,egsN a.es]),(84,.cells 0 (ints t.2.1))]) (fun t=>RI a.n a.es a.ms (lf l) (a.n+2-t.1) t.2.1/\t.1<=a.n+1/\(t.2.2=true->cntN a.n t.2.1<t.1)/\(if t.2.2 then rDist a.es (lf l) t.1 (a.n+2-t.1) t.2.1 else t.2.1)=rDist a.es (lf l) (a.n+1) 1 H) (fun t=>t.1) (a.n+1,H,true) 2 200 (fun _:Unit=>[(5,.sl 84 0 0 a.n 1)]) (fun _=>[(84,.cells 0 (ints (rDist a.es (lf l) (a.n+1) 1 H)))]) (fun _=>True) ?_ ?_ ?_ ?_
 ·have e:a.n+2-(a.n+1)=1:=by omega
  dsimp only;rw[e];exact⟨[(50,.blk 50 0),(84,.blk 84 0)],rfl,au0,au11,au12⟩
 ·have e:a.n+2-(a.n+1)=1:=by omega
  dsimp only;rw[e];exact⟨O,by omega,fun _=>by omega,rfl⟩
 ·rintro⟨k,o,more⟩⟨E,hk,B,heq⟩;dsimp only at E hk B heq⊢;cases more with|false=>rw[if_neg (by decide)]at heq;refine ZcL ?_;refine⟨(),?_⟩;rw[<-heq];exact⟨[(84,.blk 84 0)],rfl,au0,au11,au12⟩|true=>
  rw[if_pos rfl]at heq;have Y:=B rfl;obtain⟨k,rfl⟩:∃U,k=U+1:=⟨k-1,by omega⟩;have S:a.n+2-k=(a.n+2-(k+1))+1:=by omega
  have y:1<=a.n+2-(k+1):=by omega
  have hrn:a.n+2-(k+1)<=4097:=by omega
  generalize V:a.n+2-(k+1)=r at*;have R:=RJ.all y q E;have F:=E.next y q;have s:∀x,x<a.n->0<=o.getD x 0->0<=(rRd a.es (lf l) r o).1.getD x 0:=fun x L Q=>by rw[R.old x L Q];exact Q
  have P:(rRd a.es (lf l) r o).2=true->cntN a.n (rRd a.es (lf l) r o).1<k:=fun hf=>by obtain⟨x,L,h1,j⟩:=R.flag hf;have:=Qpl s L h1 j;omega
  rw[rDist]at heq;have G:=E.len;refine ZcL ?_;refine Qaq 220 (fun i:Nat=>[(1,blF l a.n),(2,.ptr 50 0 0),(5,.sl 84 0 0 a.n 1),(7,.int .i64 (r:Int)),(8,.bool (rRd (a.es.take i) (lf l) r o).2),(9,.int .i64 i)]) (fun i=>[(50,.cells 0 [sliN a.al,.int .i64 (a.n:Int),sliN a.ms,egsN a.es]),(84,.cells 0 (ints (rRd (a.es.take i) (lf l) r o).1))]) (fun i=>i<=a.es.length) (fun i=>a.es.length-i) 0 4 240 (fun _:Unit=>[(1,blF l a.n),(2,.ptr 50 0 0),(5,.sl 84 0 0 a.n 1),(7,.int .i64 (r:Int)),(8,.bool (rRd a.es (lf l) r o).2)]) (fun _=>[(50,.cells 0 [sliN a.al,.int .i64 (a.n:Int),sliN a.ms,egsN a.es]),(84,.cells 0 (ints (rRd a.es (lf l) r o).1))]) (fun _=>True) ?_ (Zah _) ?_ ?_;·exact⟨[(50,.blk 50 0),(84,.blk 84 0)],rfl,au0,au11,au12⟩
  ·rintro i hi;by_cases d:i<a.es.length
   ·obtain⟨e,he⟩:=Qap d;obtain⟨m,p⟩:=J e (Zaf he);have c:=Qrw (left:=lf l) (r:=r) (o:=o) he;have htl:=Qja (left:=lf l) (r:=r) (a.es.take i) o;generalize rRd (a.es.take i) (lf l) r o=t at*;have n:e.1<l.length:=by omega
    have h:e.2.2<l.length:=by omega
    have u:e.1<t.1.length:=by omega
    have A:e.2.2<t.1.length:=by omega
    by_cases h1:lf l e.1=true
    ·by_cases j:lf l e.2.2=true
     ·by_cases w:t.1.getD e.1 0<0
      ·by_cases C:t.1.getD e.2.2 0=(r:Int)-1
       ·have f:rEd (lf l) r t e=(t.1.set e.1 (r:Int),true):=by unfold rEd;rw[if_pos (by rw[h1,j,decide_eq_true w,decide_eq_true C];rfl)]
        rw[f]at c;have I:e.1+1<=t.1.length:=by omega
        refine ZcM (ZcZ d (QaB he) m p (Qaz n) (Qaz h) h1 j (QaV u) (QaV A) w C I @Qbs) ?_;refine⟨i+1,by omega,by omega,?_⟩;rw[c];exact⟨[(50,.blk 50 0),(84,.blk 84 0)],rfl,au0,au11,au12⟩
       have f:rEd (lf l) r t e=t:=by unfold rEd;rw[if_neg (by rw[h1,j,decide_eq_true w,decide_eq_false C];decide)]
       rw[f]at c;refine ZcM (ZcX d (QaB he) m p (Qaz n) (Qaz h) h1 j (QaV u) (QaV A) w C) ?_;refine⟨i+1,by omega,by omega,?_⟩;rw[c];exact⟨[(50,.blk 50 0),(84,.blk 84 0)],rfl,au0,au11,au12⟩
      have f:rEd (lf l) r t e=t:=by unfold rEd;rw[if_neg (by rw[h1,j,decide_eq_false w];simp)]
      rw[f]at c;refine ZcM (ZcV d (QaB he) m p (Qaz n) (Qaz h) h1 j (QaV u) w) ?_;refine⟨i+1,by omega,by omega,?_⟩;rw[c];exact⟨[(50,.blk 50 0),(84,.blk 84 0)],rfl,au0,au11,au12⟩
     have f:rEd (lf l) r t e=t:=by unfold rEd;rw[if_neg (by simp[j])]
     rw[f]at c;rw[Zai]at j;refine ZcM (ZcT d (QaB he) m p (Qaz n) (Qaz h) h1 j) ?_;refine⟨i+1,by omega,by omega,?_⟩;rw[c];exact⟨[(50,.blk 50 0),(84,.blk 84 0)],rfl,au0,au11,au12⟩
    have f:rEd (lf l) r t e=t:=by unfold rEd;rw[if_neg (by simp[h1])]
    rw[f]at c;rw[Zai]at h1;refine ZcM (ZcR d (QaB he) m p (Qaz n) h1) ?_;refine⟨i+1,by omega,by omega,?_⟩;rw[c];exact⟨[(50,.blk 50 0),(84,.blk 84 0)],rfl,au0,au11,au12⟩
   have e:i=a.es.length:=by omega
   subst e;refine ZcM d ?_;refine⟨(),?_⟩;exact⟨[(50,.blk 50 0),(84,.blk 84 0)],rfl,au0,au11,au12⟩
  rintro _ _;generalize rRd a.es (lf l) r o=t at*;refine ZcL ?_;refine⟨(k,t.1,t.2),by dsimp only;omega,?_,?_⟩;·dsimp only;rw[S];exact⟨F,by omega,P,heq⟩
  dsimp only;rw[S];exact⟨[(50,.blk 50 0),(84,.blk 84 0)],rfl,au0,au11,au12⟩
 rintro _ _;refine ZcL ?_;exact⟨.inr trivial,_,rfl,⟨[(84,.blk 84 0)],rfl,au0,au11,au12⟩⟩
end Go.AM.SE
namespace Go.AM.SE
open Go.Proofs Go.AM.SD Go.AM.OD
def rLp(left:Nat->Bool)(unc:List Nat)(st:Nat)(e:Ed):Bool:=e.1==st&&!left e.2.2&&unc.contains e.2.1
theorem QoC{n:Nat}{es:List Ed}{left:Nat->Bool}{unc:List Nat}:rLost (n+1) es left unc=rLost n es left unc++(rL1 es left unc n).toList:=by unfold rLost;rw[ZaH,ZbJ];cases h:rL1 es left unc n<;>simp[h]
theorem Qku(n:Nat)(es:List Ed)(left:Nat->Bool)(unc:List Nat):(rLost n es left unc).length<=n:=by unfold rLost;exact Zax (ZbA _ _) (by simp)
theorem Qmq{p:Ed->Bool}:∀{es:List Ed}{j:Nat}{e:Ed},(∀x∈es.take j,p x=false)->es[j]?=some e->p e=true->es.find? p=some e|[],_,_,_,h,_=>by simp at h|x::es,0,e,_,h,hp=>by simp at h;subst h;rw[List.find?_cons,hp]|x::es,j+1,e,a,h,hp=>by simp at h;rw[List.find?_cons,a x (by simp)];exact Qmq (fun y c=>a y (by rw[ZaY];exact List.mem_cons_of_mem _ c)) h hp
theorem Qrx{p:Ed->Bool}{es:List Ed}(h:∀x∈es,p x=false):es.find? p=none:=by rw[List.find?_eq_none];intro x a;rw[h x a];decide
theorem Qgr{es:List Ed}{left:Nat->Bool}:∀(k r:Nat)(o:List Int),(rDist es left k r o).length=o.length
 |0,_,_=>rfl|k+1,r,o=>by
  rw[rDist];split;·rw[Qgr k,Qja]
  rw[Qja]
theorem Qgs{p:Ed->Bool}{es:List Ed}{j:Nat}{e:Ed}(h:∀x∈es.take j,p x=false)(he:es[j]?=some e)(hp:p e=false):∀x∈es.take (j+1),p x=false:=by
 intro x a;rw[ZaQ,he,Option.toList]at a;rcases ZaI.1 a with h1|h1;·exact h x h1
 simp at h1;rw[h1];exact hp
theorem next19(a:Aut)(u:List Nat)(l:LB)(rank:Int)(closed:Bool)(z:InN a.n a.es a.ms)(O:l.length=a.n)(P:a.n<=4096)(H:a.es.length<=1000000)(G:a.ms.length<=1000000)(M:u.length<=1000000):HSpec Tryz.prog 152 [aV a,blF l a.n,sliN u,.int .i64 rank,.bool closed] .e (.sl 85 0 0 (rNext a.n a.es a.ms (lf l) u rank closed).length 4) (hp [(85,.cells 0 ((rNext a.n a.es a.ms (lf l) u rank closed).flatMap rmC))]):=by
 have N:=dist33 a l z O P H G;have J:(rDist a.es (lf l) (a.n+1) 1 (o0 a.n a.ms (lf l))).length=a.n:=by rw[Qgr];simp[o0]
 have hlen:(lostF rank (rLost a.n a.es (lf l) u)).length=(rLost a.n a.es (lf l) u).length:=by unfold lostF;rw[Zaw]
 unfold rNext;generalize rDist a.es (lf l) (a.n+1) 1 (o0 a.n a.ms (lf l))=d at*;refine HSpec.Qbu 100 ok152 rfl ?_;have F:=fun e he=>z.1 e he;unfold s152;refine ZcL ?_;refine Qaq 120 (fun i:Nat=>[(1,blF l a.n),(2,sliN u),(3,.int .i64 rank),(4,.bool closed),(5,.ptr 50 0 0),(11,.sl 82 0 0 (rLost i a.es (lf l) u).length 4),(12,.int .i64 i)]) (fun i=>[(50,.cells 0 [sliN a.al,.int .i64 (a.n:Int),sliN a.ms,egsN a.es]),(82,.cells 0 ((rLost i a.es (lf l) u).flatMap (lsC rank)))]) (fun i=>i<=a.n) (fun i=>a.n-i) 0 0 160 (fun _:Unit=>[(1,blF l a.n),(3,.int .i64 rank),(4,.bool closed),(5,.ptr 50 0 0),(11,.sl 82 0 0 (rLost a.n a.es (lf l) u).length 4)]) (fun _=>[(50,.cells 0 [sliN a.al,.int .i64 (a.n:Int),sliN a.ms,egsN a.es]),(82,.cells 0 ((rLost a.n a.es (lf l) u).flatMap (lsC rank)))]) (fun _=>True) ?_ (Zah _) ?_ ?_;·exact⟨[(50,.blk 100 0),(82,.nil)],rfl,au0,au11,au12⟩
 ·rintro i hi;by_cases c:i<a.n
  ·have f:=QoC (n:=i) (es:=a.es) (left:=lf l) (unc:=u);have C:=Qku i a.es (lf l) u;generalize rLost i a.es (lf l) u=o at*;have k:i<l.length:=by omega
   have w:=QlP rank o;refine ZcM c ?_;refine Qaq 180 (fun j:Nat=>[(1,blF l a.n),(2,sliN u),(3,.int .i64 rank),(4,.bool closed),(5,.ptr 50 0 0),(11,.sl 82 0 0 o.length 4),(12,.int .i64 i),(13,.int .i64 j)]) (fun j=>[(50,.cells 0 [sliN a.al,.int .i64 (a.n:Int),sliN a.ms,egsN a.es]),(82,.cells 0 (o.flatMap (lsC rank)))]) (fun j=>j<=a.es.length/\(lf l i=false->j=0)/\∀x∈a.es.take j,rLp (lf l) u i x=false) (fun j=>a.es.length-j) 0 2 200 (fun _:Unit=>[(1,blF l a.n),(2,sliN u),(3,.int .i64 rank),(4,.bool closed),(5,.ptr 50 0 0),(11,.sl 82 0 0 (rLost (i+1) a.es (lf l) u).length 4),(12,.int .i64 i)]) (fun _=>[(50,.cells 0 [sliN a.al,.int .i64 (a.n:Int),sliN a.ms,egsN a.es]),(82,.cells 0 ((rLost (i+1) a.es (lf l) u).flatMap (lsC rank)))]) (fun _=>True) ?_ ⟨Zah _,fun _=>rfl,fun x K=>by simp at K⟩ ?_ ?_;·exact⟨[(50,.blk 50 0),(82,.blk 82 0)],rfl,au0,au11,au12⟩
   ·rintro j⟨R,L,q⟩;by_cases g:lf l i=true
    ·by_cases p:j<a.es.length
     ·obtain⟨e,m⟩:=Qap p;obtain⟨v,t⟩:=F e (Zaf m);have Q:e.1<l.length:=by omega
      have y:e.2.2<l.length:=by omega
      have hc:=has15 (nz u) e.2.1 (by simp;omega);rw[Qcz,Qbi]at hc;by_cases h1:e.1=i
      ·by_cases r:lf l e.2.2=true;·skip;refine ZcM (ZcV c p (QaB m) v t (Qaz k) g h1 (Qaz y) r) ?_;skip;refine⟨j+1,by omega,⟨by omega,fun h=>(h:False).elim,Qgs q m (by unfold rLp;rw[r];simp)⟩,?_⟩;exact⟨[(50,.blk 50 0),(82,.blk 82 0)],rfl,au0,au11,au12⟩
       rw[Zai]at r;by_cases E:u.contains e.2.1=true
       ·rw[E]at hc;have s:rL1 a.es (lf l) u i=some (i,e.2.1):=by unfold rL1;rw[if_pos g];have:a.es.find? (rLp (lf l) u i)=some e:=Qmq q m (by unfold rLp;rw[h1,r,E];simp);have t2:(a.es.find? fun e=>e.1==i&&!lf l e.2.2&&u.contains e.2.1)=some e:=this;rw[t2];rfl
        rw[s]at f;refine ZcM (ZcV c p (QaB m) v t (Qaz k) g h1 (Qaz y) r) ?_;refine cp hc ?_;refine ZcM w ?_;refine⟨(),?_⟩;rw[f,Option.toList,Zan,Zae];exact⟨[(50,.blk 50 0),(82,.blk 82 1)],rfl,au0,au11,au12⟩
       rw[Zai]at E;rw[E]at hc;refine ZcM (ZcV c p (QaB m) v t (Qaz k) g h1 (Qaz y) r) ?_;refine cp hc ?_;simp(disch:=first|omega|exact PairsOK.mk rfl|(simp only[lenW]<;>omega))only[wW,wV,simprocAttr];refine⟨j+1,by omega,⟨by omega,fun h=>(h:False).elim,Qgs q m (by unfold rLp;rw[E,Bool.and_false])⟩,?_⟩;exact⟨[(50,.blk 50 0),(82,.blk 82 0)],rfl,au0,au11,au12⟩
      skip;refine ZcM (ZcT c p (QaB m) v t (Qaz k) g h1) ?_;skip;refine⟨j+1,by omega,⟨by omega,fun h=>(h:False).elim,Qgs q m (by simp[rLp,h1])⟩,?_⟩;exact⟨[(50,.blk 50 0),(82,.blk 82 0)],rfl,au0,au11,au12⟩
     have e:j=a.es.length:=by omega
     subst e;rw[Zay]at q;have s:rL1 a.es (lf l) u i=none:=by unfold rL1;rw[if_pos g];have t2:(a.es.find? fun e=>e.1==i&&!lf l e.2.2&&u.contains e.2.1)=none:=Qrx (p:=rLp (lf l) u i) q;rw[t2];rfl
     rw[s,Option.toList,Zao]at f;refine ZcM (ZcP c p (Qaz k) g) ?_;refine⟨(),?_⟩;rw[f];exact⟨[(50,.blk 50 0),(82,.blk 82 0)],rfl,au0,au11,au12⟩
    rw[Zai]at g;have s:rL1 a.es (lf l) u i=none:=by unfold rL1;rw[if_neg (by simp[g])]
    rw[s,Option.toList,Zao]at f;refine ZcM (ZcO c (Qaz k) g) ?_;refine⟨(),?_⟩;rw[f];exact⟨[(50,.blk 50 0),(82,.blk 82 0)],rfl,au0,au11,au12⟩
   rintro _ _;refine ZcL ?_;exact⟨i+1,by omega,by omega,⟨[(50,.blk 50 0),(82,.blk 82 0)],rfl,au0,au11,au12⟩⟩
  have e:i=a.n:=by omega
  subst e;refine ZcM c ?_;refine⟨(),?_⟩;exact⟨[(50,.blk 50 0),(82,.blk 82 0)],rfl,au0,au11,au12⟩
 rintro _ _;have C:=Qku a.n a.es (lf l) u;by_cases A:0<(rLost a.n a.es (lf l) u).length;·rw[if_pos (by simp[A]),<-ls_rm,hlen];generalize rLost a.n a.es (lf l) u=o at*;refine ZcM A ?_;exact⟨.inr trivial,_,rfl,⟨[(85,.blk 82 0)],rfl,au0,au11,au12⟩⟩
 cases closed with|true=>rw[if_pos (by simp),<-ls_rm,hlen];generalize rLost a.n a.es (lf l) u=o at*;refine ZcM A ?_;exact⟨.inr trivial,_,rfl,⟨[(85,.blk 82 0)],rfl,au0,au11,au12⟩⟩|false=>
  rw[if_neg (by simp[A])];have I:rLost a.n a.es (lf l) u=[]:=Zbx (by omega);rw[I];refine ZcM A ?_;refine ch (HSpec.of_O (b:=84) (by(try simp only[noRefs,QaI,Qai,Qal,Qaa,Qaj,Qad,Qak,Qao,Qah,noRef,Zad,Zac])<;>rfl) N (by repeat(first|exact Fresh.e|exact Fresh.le (by assumption) (by omega)|refine Fresh.set ?_ (by omega) (by omega))) rfl) ?_;rw[<-bk_rm,QiQ,Zaw,J];refine ZcL ?_;refine Qaq 260 (fun i:Nat=>[(1,blF l a.n),(3,.int .i64 rank),(5,.ptr 50 0 0),(11,.sl 85 0 0 (blkP (lf l) d i).length 4),(15,.sl 84 0 0 a.n 1),(16,.int .i64 i)]) (fun i=>[(50,.cells 0 [sliN a.al,.int .i64 (a.n:Int),sliN a.ms,egsN a.es]),(84,.cells 0 (ints d)),(85,.cells 0 ((blkP (lf l) d i).flatMap (bkC rank)))]) (fun i=>i<=a.n) (fun i=>a.n-i) 0 4 280 (fun _:Unit=>[(11,.sl 85 0 0 (blkP (lf l) d a.n).length 4)]) (fun _=>[(85,.cells 0 ((blkP (lf l) d a.n).flatMap (bkC rank)))]) (fun _=>True) ?_ (Zah _) ?_ ?_;·exact⟨[(50,.blk 50 0),(84,.blk 84 0),(85,.blk 82 0)],rfl,au0,au11,au12⟩
  ·rintro i hi;by_cases c:i<a.n
   ·have n:=Qj0 (left:=lf l) (d:=d) (i:=i);have C:=QlQ (lf l) d i;generalize blkP (lf l) d i=o at*;have k:i<l.length:=by omega
    have B:i<d.length:=by omega
    have w:=QpF rank o;by_cases h1:lf l i=true
    ·by_cases r:d.getD i 0<0;·rw[if_pos (by rw[h1,decide_eq_true r];rfl)]at n;refine ZcM (ZcR c (QaV B) (Qaz k) h1 r w) ?_;refine⟨i+1,by omega,by omega,?_⟩;rw[n,Zan,Zae];exact⟨[(50,.blk 50 0),(84,.blk 84 0),(85,.blk 85 1)],rfl,au0,au11,au12⟩
     rw[if_neg (by rw[h1,decide_eq_false r];decide),Zao]at n;refine ZcM (ZcQ c (QaV B) (Qaz k) h1 r) ?_;refine⟨i+1,by omega,by omega,?_⟩;rw[n];exact⟨[(50,.blk 50 0),(84,.blk 84 0),(85,.blk 85 0)],rfl,au0,au11,au12⟩
    rw[if_neg (by simp[h1]),Zao]at n;rw[Zai]at h1;refine ZcM (ZcO c (Qaz k) h1) ?_;refine⟨i+1,by omega,by omega,?_⟩;rw[n];exact⟨[(50,.blk 50 0),(84,.blk 84 0),(85,.blk 85 0)],rfl,au0,au11,au12⟩
   have e:i=a.n:=by omega
   subst e;refine ZcM c ?_;refine⟨(),?_⟩;exact⟨[(85,.blk 85 0)],rfl,au0,au11,au12⟩
  rintro _ _;refine ZcL ?_;exact⟨.inr trivial,_,rfl,⟨[(85,.blk 85 0)],rfl,au0,au11,au12⟩⟩
end Go.AM.SE
namespace Go.AM.SE
open Go.Proofs Go.AM.SD Go.AM.OD
theorem restrict40(a:Aut)(l:LB)(hw:WfA a)(hl:l.length=a.n)(hel:a.es.length<=1000000):PSpec Tryz.prog 153 [aV a,blF l a.n] (.tup [aV (restr a (lf l)),sliN (sAll a (lf l)).1]):=by
 have hn5:=hw.n5;have hms:a.ms.length<=a.n:=QaS a.n a.ms hw.nd hw.msn;refine Zcf 60 ok153 rfl (by(try simp only[noRefs,QaI,Qai,Qal,Qaa,Qaj,Qad,Qak,Qao,Qah,noRef,Zad,Zac])<;>rfl) (by simp only[noRef,noRefs,Qaa,Qad];rfl) ?_;have d:SI a.n a.es (lf l) 0 ((if decide (0<a.n)&&lf l 0 then[0]else[],[]):OE):=by
  refine⟨?_,fun x N=>?_,Zah _,fun j v hj=>by omega,by simp⟩
  ·split;·rename_i hc;simp only[Zab,decide_eq_true_eq]at hc;exact⟨by simp,fun x N=>by simp at N;omega⟩
   exact⟨by simp,fun x N=>by cases N⟩
  dsimp only at N;split at N;·rename_i hc;simp only[Zab]at hc;simp at N;subst N;exact hc.2
  cases N
 have P:sQ a.es (lf l) (a.n+1) 0 (if decide (0<a.n)&&lf l 0 then[0]else[],[])=sAll a (lf l):=rfl;by_cases I:(decide (0<a.n)&&lf l 0)=true
 ·rw[if_pos I]at d P;simp only[Zab,decide_eq_true_eq]at I;have O:(0:Int)<(a.n:Int):=by omega
  have U:(bls l).head?=some (.bool (lf l 0)):=by have:=Qaz (l:=l) (i:=0) (by omega);simpa using this
  have T:=I.2;unfold s153;refine ZcM (ZcQ O U T @Qej @QhD) ?_;refine Qaq 100 (fun t:Nat×OE=>[(1,blF l a.n),(2,.ptr 50 0 0),(4,.ptr 60 0 0),(6,.ptr 69 0 0),(7,.sl 75 0 0 t.2.1.length 1),(8,.int .i64 t.1)]) (fun t=>[(50,.cells 0 (rsA a)),(60,.cells 0 rsN),(69,.cells 0 (rsB a (mks a t.1 t.2.1).length t.2.2.length)),(75,.cells 0 (ints (nz t.2.1))),(76,.cells 0 (t.2.2.flatMap edC)),(77,.cells 0 (ints (nz (mks a t.1 t.2.1))))]) (fun t=>t.1<=a.n/\SI a.n a.es (lf l) t.1 t.2/\t.2.2.length<=t.1*1000000/\sQ a.es (lf l) (a.n+1-t.1) t.1 t.2=sAll a (lf l)) (fun t=>a.n+1-t.1) (0,([0],[])) 0 200 (fun _:Unit=>[(4,.ptr 60 0 0),(6,.ptr 69 0 0),(7,.sl 75 0 0 (sAll a (lf l)).1.length 1)]) (fun _=>[(60,.cells 0 rsN),(69,.cells 0 (rsB a (restr a (lf l)).ms.length (restr a (lf l)).es.length)),(75,.cells 0 (ints (nz (sAll a (lf l)).1))),(76,.cells 0 ((restr a (lf l)).es.flatMap edC)),(77,.cells 0 (ints (nz (restr a (lf l)).ms)))]) (fun _=>True) ?_ ⟨Zah _,d,Zah _,P⟩ ?_ ?_;·dsimp only;have hms0:mks a 0 [0]=[]:=rfl;rw[hms0];exact⟨[(50,.blk 60 0),(60,.blk 61 0),(69,.blk 66 0),(75,.blk 79 0),(76,.nil),(77,.nil)],rfl,au0,au11,au12⟩
  ·rintro⟨i,s⟩⟨hi,d,hsl,w⟩;dsimp only at hi d hsl w⊢;have hfl:=d.fi.len;have hile:=d.le;by_cases A:i<s.1.length
   ·obtain⟨v,L⟩:=Qap A;have hvn:=d.fi.lt v (Zaf L);have Q:i<a.n:=by omega
    have R:=d.step hw.esn L;have hq':sQ a.es (lf l) (a.n+1-(i+1)) (i+1) (sRow a.es (lf l) i v s)=sAll a (lf l):=by rw[<-w,show a.n+1-i=(a.n+1-(i+1))+1 by omega];simp only[sQ,L]
    have K:=Qfk (a:=a) L;have hmsl:=@QeT a i s.1;have hmsl':=@QeT a (i+1) s.1;have G:mks a (i+1) (sRow a.es (lf l) i v s).1=mks a (i+1) s.1:=by obtain⟨_,_,⟨t,ht⟩,_⟩:=Qb7 (n:=a.n) (left:=lf l) i (sOut a.es (lf l) v) s (fun e he=>⟨(hw.esn e (QaU.1 he).1).2,(QaU.1 he).2.2⟩) d.fi d.lft;have ht:(sRow a.es (lf l) i v s).1=s.1++t:=ht;rw[ht,QiR (by omega)]
    have hc:=has15 (nz a.ms) v (by simp;omega);rw[Qbi,Qcz]at hc;generalize hM0:mks a i s.1=M0 at*;generalize hM:mks a (i+1) s.1=M at*;refine ZcM (ZcN A (QaZ (nz_at L))) ?_;refine cp hc ?_;by_cases C:a.ms.contains v=true
    ·rw[if_pos C]at K;rw[C];refine ZcL ?_;refine Qaq 300 (fun j:Nat=>[(1,blF l a.n),(2,.ptr 50 0 0),(4,.ptr 60 0 0),(6,.ptr 69 0 0),(7,.sl 75 0 0 ((sOut (a.es.take j) (lf l) v).foldl (sEd i) s).1.length 1),(8,.int .i64 i),(9,.int .i64 j)]) (fun j=>[(50,.cells 0 (rsA a)),(60,.cells 0 rsN),(69,.cells 0 (rsB a M.length ((sOut (a.es.take j) (lf l) v).foldl (sEd i) s).2.length)),(75,.cells 0 (ints (nz ((sOut (a.es.take j) (lf l) v).foldl (sEd i) s).1))),(76,.cells 0 (((sOut (a.es.take j) (lf l) v).foldl (sEd i) s).2.flatMap edC)),(77,.cells 0 (ints (nz M)))]) (fun j=>j<=a.es.length) (fun j=>a.es.length-j) 0 2 460 (fun _:Unit=>[(1,blF l a.n),(2,.ptr 50 0 0),(4,.ptr 60 0 0),(6,.ptr 69 0 0),(7,.sl 75 0 0 (sRow a.es (lf l) i v s).1.length 1),(8,.int .i64 i)]) (fun _=>[(50,.cells 0 (rsA a)),(60,.cells 0 rsN),(69,.cells 0 (rsB a M.length (sRow a.es (lf l) i v s).2.length)),(75,.cells 0 (ints (nz (sRow a.es (lf l) i v s).1))),(76,.cells 0 ((sRow a.es (lf l) i v s).2.flatMap edC)),(77,.cells 0 (ints (nz M)))]) (fun _=>True) ?_ (Zah _) ?_ ?_;·rw[K,Zae,QaF,Qaw];exact⟨[(50,.blk 50 0),(60,.blk 60 0),(69,.blk 69 0),(75,.blk 75 0),(76,.blk 76 0),(77,.blk 77 1)],rfl,au0,au11,au12⟩
     ·rintro j hj;by_cases f:j<a.es.length
      ·obtain⟨e,g⟩:=Qap f;obtain⟨hfr,B⟩:=hw.esn e (Zaf g);have S:=Qf9 (left:=lf l) g v;obtain⟨k1,_,⟨tt,htt⟩,_,_⟩:=Qb7 (n:=a.n) (left:=lf l) i (sOut (a.es.take j) (lf l) v) s (fun e he=>⟨(hw.esn e (ZaP (QaU.1 he).1)).2,(QaU.1 he).2.2⟩) d.fi d.lft;have hsl2:=QbJ (i:=i) (sOut (a.es.take j) (lf l) v) s;have Y:=Qb9 (a.es.take j) (lf l) v;rw[Zas]at Y;have c:(sOut (a.es.take (j+1)) (lf l) v).foldl (sEd i) s=if e.1=v/\lf l e.2.2=true then sEd i ((sOut (a.es.take j) (lf l) v).foldl (sEd i) s) e else((sOut (a.es.take j) (lf l) v).foldl (sEd i) s):=by rw[S,ZaZ];split<;>rfl
       have hfi:=k1.len;have Z:=k1.nd;generalize((sOut (a.es.take j) (lf l) v).foldl (sEd i) s)=t at*;have p:t.1[i]?=some v:=by rw[htt,Za5 A];exact L
       have u:i<t.1.length:=(Zam.1 p).1;have H:e.2.2<l.length:=by omega
       have r:=Qbp t.2;by_cases h1:e.1=v
       ·by_cases E:lf l e.2.2=true
        ·rw[if_pos ⟨h1,E⟩]at c;refine ZcM (ZcT f (QaB g) u (QaZ (nz_at p)) B (Qaz H) h1 E) ?_;refine Qaq 400 (fun k:Nat=>[(1,blF l a.n),(2,.ptr 50 0 0),(4,.ptr 60 0 0),(6,.ptr 69 0 0),(7,.sl 75 0 0 t.1.length 1),(8,.int .i64 i),(9,.int .i64 j),(10,.ptr 79 0 0),(11,.int .i64 k)]) (fun k=>[(50,.cells 0 (rsA a)),(60,.cells 0 rsN),(69,.cells 0 (rsB a M.length t.2.length)),(79,.cells 0 [.int .i64 (v:Int),.int .i64 (e.2.1:Int),.int .i64 (e.2.2:Int)]),(75,.cells 0 (ints (nz t.1))),(76,.cells 0 (t.2.flatMap edC)),(77,.cells 0 (ints (nz M)))]) (fun k=>k<=t.1.length/\∀(q:Nat)y,q<k->t.1[q]?=some y->y≠e.2.2) (fun k=>t.1.length-k) 0 4 440 (fun _:Unit=>[(1,blF l a.n),(2,.ptr 50 0 0),(4,.ptr 60 0 0),(6,.ptr 69 0 0),(7,.sl 75 0 0 t.1.length 1),(8,.int .i64 i),(9,.int .i64 j),(10,.ptr 79 0 0),(11,.int .i64 (idx t.1 e.2.2:Nat))]) (fun _=>[(50,.cells 0 (rsA a)),(60,.cells 0 rsN),(69,.cells 0 (rsB a M.length t.2.length)),(79,.cells 0 [.int .i64 (v:Int),.int .i64 (e.2.1:Int),.int .i64 (e.2.2:Int)]),(75,.cells 0 (ints (nz t.1))),(76,.cells 0 (t.2.flatMap edC)),(77,.cells 0 (ints (nz M)))]) (fun _=>True) ?_ ⟨Zah _,fun q y w=>absurd w (ZaD _)⟩ ?_ ?_;·exact⟨[(50,.blk 50 0),(60,.blk 60 0),(69,.blk 69 0),(79,.blk 310 0),(75,.blk 75 0),(76,.blk 76 0),(77,.blk 77 0)],rfl,au0,au11,au12⟩
         ·rintro k⟨hk,F⟩;by_cases n:k<t.1.length
          ·obtain⟨y,J⟩:=Qap n;by_cases m:y=e.2.2;·have o:=Qlv Z J;rw[m]at o;refine ZcM (ZcO n (QaZ (nz_at J)) m) ?_;refine⟨(),?_⟩;rw[o];exact⟨[(50,.blk 50 0),(60,.blk 60 0),(69,.blk 69 0),(79,.blk 79 0),(75,.blk 75 0),(76,.blk 76 0),(77,.blk 77 0)],rfl,au0,au11,au12⟩
           refine ZcM (ZcO n (QaZ (nz_at J)) m) ?_;refine⟨k+1,by omega,⟨by omega,fun q z w hz=>?_⟩,⟨[(50,.blk 50 0),(60,.blk 60 0),(69,.blk 69 0),(79,.blk 79 0),(75,.blk 75 0),(76,.blk 76 0),(77,.blk 77 0)],rfl,au0,au11,au12⟩⟩;by_cases e3:q=k;·subst e3;rw[J]at hz;cases hz;exact m
           exact F q z (by omega) hz
          have o:idx t.1 e.2.2=t.1.length:=Qgw fun h=>by obtain⟨q,w,hql⟩:=Qcy h;exact F q _ (by omega) w rfl
          have e3:k=t.1.length:=by omega
          refine ZcM n ?_;refine⟨(),?_⟩;rw[o,<-e3];exact⟨[(50,.blk 50 0),(60,.blk 60 0),(69,.blk 69 0),(79,.blk 79 0),(75,.blk 75 0),(76,.blk 76 0),(77,.blk 77 0)],rfl,au0,au11,au12⟩
         rintro _ _;have hidl:=QpR (l:=t.1) (x:=e.2.2);by_cases hc:e.2.2∈t.1
         ·have hlt3:=Qei hc;have X:¬((idx t.1 e.2.2:Nat):Int)=(t.1.length:Int):=by omega
          have h4:sEd i t e=(t.1,t.2++[(i,e.2.1,idx t.1 e.2.2)]):=if_pos (by simpa using hc);rw[h4]at c;generalize idx t.1 e.2.2=q at*;refine ZcM (ZcN X r) ?_;refine⟨j+1,by omega,by omega,?_⟩;rw[c,Zan,Zae];exact⟨[(50,.blk 50 0),(60,.blk 60 0),(69,.blk 69 0),(75,.blk 75 0),(76,.blk 76 1),(77,.blk 77 0)],rfl,au0,au11,au12⟩
         have X:=Qgw hc;have h4:sEd i t e=(t.1++[e.2.2],t.2++[(i,e.2.1,t.1.length)]):=if_neg (by simpa using hc);rw[h4]at c;rw[X];refine ZcM r ?_;refine⟨j+1,by omega,by omega,?_⟩;rw[c,Zan,Zae];dsimp only;rw[Zae,QaF,Qaw];exact⟨[(50,.blk 50 0),(60,.blk 60 0),(69,.blk 69 0),(75,.blk 75 1),(76,.blk 76 1),(77,.blk 77 0)],rfl,au0,au11,au12⟩
        rw[if_neg (fun h=>E h.2)]at c;rw[Zai]at E;refine ZcM (ZcT f (QaB g) u (QaZ (nz_at p)) B (Qaz H) h1 E) ?_;refine⟨j+1,by omega,by omega,?_⟩;rw[c];exact⟨[(50,.blk 50 0),(60,.blk 60 0),(69,.blk 69 0),(75,.blk 75 0),(76,.blk 76 0),(77,.blk 77 0)],rfl,au0,au11,au12⟩
       rw[if_neg (fun h=>h1 h.1)]at c;refine ZcM (ZcQ f (QaB g) u (QaZ (nz_at p)) h1) ?_;refine⟨j+1,by omega,by omega,?_⟩;rw[c];exact⟨[(50,.blk 50 0),(60,.blk 60 0),(69,.blk 69 0),(75,.blk 75 0),(76,.blk 76 0),(77,.blk 77 0)],rfl,au0,au11,au12⟩
      have e:j=a.es.length:=by omega
      subst e;refine ZcM f ?_;refine⟨(),?_⟩;exact⟨[(50,.blk 50 0),(60,.blk 60 0),(69,.blk 69 0),(75,.blk 75 0),(76,.blk 76 0),(77,.blk 77 0)],rfl,au0,au11,au12⟩
     rintro _ _;have hsl3:(sRow a.es (lf l) i v s).2.length=s.2.length+(sOut a.es (lf l) v).length:=QbJ _ _;have hol3:=Qb9 a.es (lf l) v;refine ZcL ?_;refine⟨(i+1,sRow a.es (lf l) i v s),by dsimp only;omega,⟨Q,R,by dsimp only;omega,hq'⟩,?_⟩;dsimp only;rw[G];exact⟨[(50,.blk 50 0),(60,.blk 60 0),(69,.blk 69 0),(75,.blk 75 0),(76,.blk 76 0),(77,.blk 77 0)],rfl,au0,au11,au12⟩
    rw[if_neg C,Zao]at K;rw[Zai]at C;rw[C];refine ZcL ?_;refine Qaq 300 (fun j:Nat=>[(1,blF l a.n),(2,.ptr 50 0 0),(4,.ptr 60 0 0),(6,.ptr 69 0 0),(7,.sl 75 0 0 ((sOut (a.es.take j) (lf l) v).foldl (sEd i) s).1.length 1),(8,.int .i64 i),(9,.int .i64 j)]) (fun j=>[(50,.cells 0 (rsA a)),(60,.cells 0 rsN),(69,.cells 0 (rsB a M.length ((sOut (a.es.take j) (lf l) v).foldl (sEd i) s).2.length)),(75,.cells 0 (ints (nz ((sOut (a.es.take j) (lf l) v).foldl (sEd i) s).1))),(76,.cells 0 (((sOut (a.es.take j) (lf l) v).foldl (sEd i) s).2.flatMap edC)),(77,.cells 0 (ints (nz M)))]) (fun j=>j<=a.es.length) (fun j=>a.es.length-j) 0 2 460 (fun _:Unit=>[(1,blF l a.n),(2,.ptr 50 0 0),(4,.ptr 60 0 0),(6,.ptr 69 0 0),(7,.sl 75 0 0 (sRow a.es (lf l) i v s).1.length 1),(8,.int .i64 i)]) (fun _=>[(50,.cells 0 (rsA a)),(60,.cells 0 rsN),(69,.cells 0 (rsB a M.length (sRow a.es (lf l) i v s).2.length)),(75,.cells 0 (ints (nz (sRow a.es (lf l) i v s).1))),(76,.cells 0 ((sRow a.es (lf l) i v s).2.flatMap edC)),(77,.cells 0 (ints (nz M)))]) (fun _=>True) ?_ (Zah _) ?_ ?_;·rw[K];exact⟨[(50,.blk 50 0),(60,.blk 60 0),(69,.blk 69 0),(75,.blk 75 0),(76,.blk 76 0),(77,.blk 77 0)],rfl,au0,au11,au12⟩
    ·rintro j hj;by_cases f:j<a.es.length
     ·obtain⟨e,g⟩:=Qap f;obtain⟨hfr,B⟩:=hw.esn e (Zaf g);have S:=Qf9 (left:=lf l) g v;obtain⟨k1,_,⟨tt,htt⟩,_,_⟩:=Qb7 (n:=a.n) (left:=lf l) i (sOut (a.es.take j) (lf l) v) s (fun e he=>⟨(hw.esn e (ZaP (QaU.1 he).1)).2,(QaU.1 he).2.2⟩) d.fi d.lft;have hsl2:=QbJ (i:=i) (sOut (a.es.take j) (lf l) v) s;have Y:=Qb9 (a.es.take j) (lf l) v;rw[Zas]at Y;have c:(sOut (a.es.take (j+1)) (lf l) v).foldl (sEd i) s=if e.1=v/\lf l e.2.2=true then sEd i ((sOut (a.es.take j) (lf l) v).foldl (sEd i) s) e else((sOut (a.es.take j) (lf l) v).foldl (sEd i) s):=by rw[S,ZaZ];split<;>rfl
      have hfi:=k1.len;have Z:=k1.nd;generalize((sOut (a.es.take j) (lf l) v).foldl (sEd i) s)=t at*;have p:t.1[i]?=some v:=by rw[htt,Za5 A];exact L
      have u:i<t.1.length:=(Zam.1 p).1;have H:e.2.2<l.length:=by omega
      have r:=Qbp t.2;by_cases h1:e.1=v
      ·by_cases E:lf l e.2.2=true
       ·rw[if_pos ⟨h1,E⟩]at c;refine ZcM (ZcT f (QaB g) u (QaZ (nz_at p)) B (Qaz H) h1 E) ?_;refine Qaq 400 (fun k:Nat=>[(1,blF l a.n),(2,.ptr 50 0 0),(4,.ptr 60 0 0),(6,.ptr 69 0 0),(7,.sl 75 0 0 t.1.length 1),(8,.int .i64 i),(9,.int .i64 j),(10,.ptr 79 0 0),(11,.int .i64 k)]) (fun k=>[(50,.cells 0 (rsA a)),(60,.cells 0 rsN),(69,.cells 0 (rsB a M.length t.2.length)),(79,.cells 0 [.int .i64 (v:Int),.int .i64 (e.2.1:Int),.int .i64 (e.2.2:Int)]),(75,.cells 0 (ints (nz t.1))),(76,.cells 0 (t.2.flatMap edC)),(77,.cells 0 (ints (nz M)))]) (fun k=>k<=t.1.length/\∀(q:Nat)y,q<k->t.1[q]?=some y->y≠e.2.2) (fun k=>t.1.length-k) 0 4 440 (fun _:Unit=>[(1,blF l a.n),(2,.ptr 50 0 0),(4,.ptr 60 0 0),(6,.ptr 69 0 0),(7,.sl 75 0 0 t.1.length 1),(8,.int .i64 i),(9,.int .i64 j),(10,.ptr 79 0 0),(11,.int .i64 (idx t.1 e.2.2:Nat))]) (fun _=>[(50,.cells 0 (rsA a)),(60,.cells 0 rsN),(69,.cells 0 (rsB a M.length t.2.length)),(79,.cells 0 [.int .i64 (v:Int),.int .i64 (e.2.1:Int),.int .i64 (e.2.2:Int)]),(75,.cells 0 (ints (nz t.1))),(76,.cells 0 (t.2.flatMap edC)),(77,.cells 0 (ints (nz M)))]) (fun _=>True) ?_ ⟨Zah _,fun q y w=>absurd w (ZaD _)⟩ ?_ ?_;·exact⟨[(50,.blk 50 0),(60,.blk 60 0),(69,.blk 69 0),(79,.blk 310 0),(75,.blk 75 0),(76,.blk 76 0),(77,.blk 77 0)],rfl,au0,au11,au12⟩
        ·rintro k⟨hk,F⟩;by_cases n:k<t.1.length
         ·obtain⟨y,J⟩:=Qap n;by_cases m:y=e.2.2;·have o:=Qlv Z J;rw[m]at o;refine ZcM (ZcO n (QaZ (nz_at J)) m) ?_;refine⟨(),?_⟩;rw[o];exact⟨[(50,.blk 50 0),(60,.blk 60 0),(69,.blk 69 0),(79,.blk 79 0),(75,.blk 75 0),(76,.blk 76 0),(77,.blk 77 0)],rfl,au0,au11,au12⟩
          refine ZcM (ZcO n (QaZ (nz_at J)) m) ?_;refine⟨k+1,by omega,⟨by omega,fun q z w hz=>?_⟩,⟨[(50,.blk 50 0),(60,.blk 60 0),(69,.blk 69 0),(79,.blk 79 0),(75,.blk 75 0),(76,.blk 76 0),(77,.blk 77 0)],rfl,au0,au11,au12⟩⟩;by_cases e3:q=k;·subst e3;rw[J]at hz;cases hz;exact m
          exact F q z (by omega) hz
         have o:idx t.1 e.2.2=t.1.length:=Qgw fun h=>by obtain⟨q,w,hql⟩:=Qcy h;exact F q _ (by omega) w rfl
         have e3:k=t.1.length:=by omega
         refine ZcM n ?_;refine⟨(),?_⟩;rw[o,<-e3];exact⟨[(50,.blk 50 0),(60,.blk 60 0),(69,.blk 69 0),(79,.blk 79 0),(75,.blk 75 0),(76,.blk 76 0),(77,.blk 77 0)],rfl,au0,au11,au12⟩
        rintro _ _;have hidl:=QpR (l:=t.1) (x:=e.2.2);by_cases hc:e.2.2∈t.1
        ·have hlt3:=Qei hc;have X:¬((idx t.1 e.2.2:Nat):Int)=(t.1.length:Int):=by omega
         have h4:sEd i t e=(t.1,t.2++[(i,e.2.1,idx t.1 e.2.2)]):=if_pos (by simpa using hc);rw[h4]at c;generalize idx t.1 e.2.2=q at*;refine ZcM (ZcN X r) ?_;refine⟨j+1,by omega,by omega,?_⟩;rw[c,Zan,Zae];exact⟨[(50,.blk 50 0),(60,.blk 60 0),(69,.blk 69 0),(75,.blk 75 0),(76,.blk 76 1),(77,.blk 77 0)],rfl,au0,au11,au12⟩
        have X:=Qgw hc;have h4:sEd i t e=(t.1++[e.2.2],t.2++[(i,e.2.1,t.1.length)]):=if_neg (by simpa using hc);rw[h4]at c;rw[X];refine ZcM r ?_;refine⟨j+1,by omega,by omega,?_⟩;rw[c,Zan,Zae];dsimp only;rw[Zae,QaF,Qaw];exact⟨[(50,.blk 50 0),(60,.blk 60 0),(69,.blk 69 0),(75,.blk 75 1),(76,.blk 76 1),(77,.blk 77 0)],rfl,au0,au11,au12⟩
       rw[if_neg (fun h=>E h.2)]at c;rw[Zai]at E;refine ZcM (ZcT f (QaB g) u (QaZ (nz_at p)) B (Qaz H) h1 E) ?_;refine⟨j+1,by omega,by omega,?_⟩;rw[c];exact⟨[(50,.blk 50 0),(60,.blk 60 0),(69,.blk 69 0),(75,.blk 75 0),(76,.blk 76 0),(77,.blk 77 0)],rfl,au0,au11,au12⟩
      rw[if_neg (fun h=>h1 h.1)]at c;refine ZcM (ZcQ f (QaB g) u (QaZ (nz_at p)) h1) ?_;refine⟨j+1,by omega,by omega,?_⟩;rw[c];exact⟨[(50,.blk 50 0),(60,.blk 60 0),(69,.blk 69 0),(75,.blk 75 0),(76,.blk 76 0),(77,.blk 77 0)],rfl,au0,au11,au12⟩
     have e:j=a.es.length:=by omega
     subst e;refine ZcM f ?_;refine⟨(),?_⟩;exact⟨[(50,.blk 50 0),(60,.blk 60 0),(69,.blk 69 0),(75,.blk 75 0),(76,.blk 76 0),(77,.blk 77 0)],rfl,au0,au11,au12⟩
    rintro _ _;have hsl3:(sRow a.es (lf l) i v s).2.length=s.2.length+(sOut a.es (lf l) v).length:=QbJ _ _;have hol3:=Qb9 a.es (lf l) v;refine ZcL ?_;refine⟨(i+1,sRow a.es (lf l) i v s),by dsimp only;omega,⟨Q,R,by dsimp only;omega,hq'⟩,?_⟩;dsimp only;rw[G];exact⟨[(50,.blk 50 0),(60,.blk 60 0),(69,.blk 69 0),(75,.blk 75 0),(76,.blk 76 0),(77,.blk 77 0)],rfl,au0,au11,au12⟩
   have L:s.1[i]?=none:=Zat (by omega);have V:s=sAll a (lf l):=by rw[<-w,show a.n+1-i=(a.n-i)+1 by omega];simp only[sQ,L]
   have hil:i=s.1.length:=by omega
   have hmf:mks a i s.1=(restr a (lf l)).ms:=by rw[hil,V];rfl
   have hef:s.2=(restr a (lf l)).es:=by rw[V];rfl
   refine ZcM A ?_;refine⟨(),?_⟩;rw[hmf,hef,<-V];exact⟨[(60,.blk 60 0),(69,.blk 69 0),(75,.blk 75 0),(76,.blk 76 0),(77,.blk 77 0)],rfl,au0,au11,au12⟩
  rintro _ _;have hra:(restr a (lf l)).al=a.al:=rfl;have hrn2:(restr a (lf l)).n=(sAll a (lf l)).1.length:=rfl;refine ZcL ?_;refine⟨.inr trivial,_,rfl,?_⟩;exact Rn.tup (Zct (Rn.agg (Zct (Zcd (Qab _)) (Zct (Zcd rfl) (Zct (Zcv (g:=0) rfl (by simp[ints]) (Zce (Qaa _))) (Zct (Zcv (g:=0) rfl (Qbp _) (Zce (Qad _))) Zcs))))) (Zct (Zcv (g:=0) rfl (by simp[ints]) (Zce (Qaa _))) Zcs))
 rw[if_neg I]at d P;have es:sAll a (lf l)=([],[]):=by rw[<-P];unfold sQ;rfl
 have er:restr a (lf l)=⟨a.al,0,[],[]⟩:=by unfold restr;rw[es];rfl
 rw[er,es];by_cases O:(0:Int)<(a.n:Int)
 ·have T:lf l 0=false:=by rw[<-Zai];intro h;exact I (by simp[h];omega)
  have U:(bls l).head?=some (.bool (lf l 0)):=by have:=Qaz (l:=l) (i:=0) (by omega);simpa using this
  unfold s153;refine ZcM (ZcO O U T) ?_;refine Qaq 100 (fun _:Unit=>[(2,.ptr 50 0 0),(4,.ptr 60 0 0),(6,.ptr 69 0 0),(7,.nilsl),(8,.int .i64 0)]) (fun t=>[(50,.cells 0 (rsA a)),(60,.cells 0 rsN),(69,.cells 0 [sliN a.al,.int .i64 0,.nilsl,.nilsl])]) (fun t=>True) (fun t=>0) () 0 200 (fun _:Unit=>[(4,.ptr 60 0 0),(6,.ptr 69 0 0),(7,.nilsl)]) (fun _=>[(60,.cells 0 rsN),(69,.cells 0 [sliN a.al,.int .i64 0,.nilsl,.nilsl])]) (fun _=>True) ?_ trivial ?_ ?_;·exact⟨[(50,.blk 60 0),(60,.blk 61 0),(69,.blk 66 0)],rfl,au0,au11,au12⟩
  ·rintro _ _;refine ZcL ?_;exact⟨(),⟨[(60,.blk 60 0),(69,.blk 69 0)],rfl,au0,au11,au12⟩⟩
  rintro _ _;refine ZcL ?_;refine⟨.inr trivial,_,rfl,?_⟩;exact Rn.tup (Zct (Rn.agg (Zct (Zcd (Qab _)) (Zct (Zcd rfl) (Zct Rn.nilK (Zct Rn.nilK Zcs))))) (Zct Rn.nilK Zcs))
 unfold s153;refine ZcM O ?_;refine Qaq 100 (fun _:Unit=>[(2,.ptr 50 0 0),(4,.ptr 60 0 0),(6,.ptr 69 0 0),(7,.nilsl),(8,.int .i64 0)]) (fun t=>[(50,.cells 0 (rsA a)),(60,.cells 0 rsN),(69,.cells 0 [sliN a.al,.int .i64 0,.nilsl,.nilsl])]) (fun t=>True) (fun t=>0) () 0 200 (fun _:Unit=>[(4,.ptr 60 0 0),(6,.ptr 69 0 0),(7,.nilsl)]) (fun _=>[(60,.cells 0 rsN),(69,.cells 0 [sliN a.al,.int .i64 0,.nilsl,.nilsl])]) (fun _=>True) ?_ trivial ?_ ?_;·exact⟨[(50,.blk 60 0),(60,.blk 61 0),(69,.blk 66 0)],rfl,au0,au11,au12⟩
 ·rintro _ _;refine ZcL ?_;exact⟨(),⟨[(60,.blk 60 0),(69,.blk 69 0)],rfl,au0,au11,au12⟩⟩
 rintro _ _;refine ZcL ?_;refine⟨.inr trivial,_,rfl,?_⟩;exact Rn.tup (Zct (Rn.agg (Zct (Zcd (Qab _)) (Zct (Zcd rfl) (Zct Rn.nilK (Zct Rn.nilK Zcs))))) (Zct Rn.nilK Zcs))
end Go.AM.SE
namespace Go.AM.SE
open Go.Proofs Go.AM.SD Go.AM.OD
abbrev rrN:Rm:=⟨0,0,0,0⟩
theorem Qqy{n:Nat}{F:List Nat}:(List.range n).map (fun x=>!F.contains x)=left0 n F:=by
 refine List.ext_getElem (by simp[QdB]) fun i h1 a=>?_;have hi:i<n:=by simpa using h1
 have e:(left0 n F)[i]=lf (left0 n F) i:=by simp[lf,a]
 rw[e,ZbU,QhA];simp[hi]
def lfP(n:Nat)(F:List Nat)(i:Nat):LB:=(List.range i).map (fun x=>!F.contains x)++List.replicate (n-i) false
theorem QsH{n i:Nat}{F:List Nat}(h:i<=n):(lfP n F i).length=n:=by unfold lfP;simp;omega
theorem QsI{n i:Nat}{F:List Nat}(h:i<n):(lfP n F i).set i (!F.contains i)=lfP n F (i+1):=by unfold lfP;rw[ZbX _ _ (by simp),Zaw,Zbt,ZbT,show n-i=(n-(i+1))+1 by omega,ZaW,Zbr,ZaH,ZaL,ZaM];rfl
theorem QsJ{n:Nat}{F:List Nat}:lfP n F n=left0 n F:=by unfold lfP;rw[ZbT,Qqy];simp
theorem repR(n:Nat):(List.replicate n [AV.int .i64 0,AV.int .i64 0,AV.int .i64 0,AV.int .i64 0]).flatten=(List.replicate n rrN).flatMap rmC:=by induction n with|zero=>rfl|succ n a=>rw[ZaW,Zbs,a,ZaW,Zav];rfl
def rrP(n i:Nat):List Rm:=(List.range i).map rm0++List.replicate (n-i) rrN
theorem QsK{n i:Nat}(h:i<=n):(rrP n i).length=n:=by unfold rrP;simp;omega
theorem QsL{n i:Nat}(h:i<n):(rrP n i).set i (rm0 i)=rrP n (i+1):=by unfold rrP;rw[ZbX _ _ (by simp),Zaw,Zbt,ZbT,show n-i=(n-(i+1))+1 by omega,ZaW,Zbr,ZaH,ZaL,ZaM];rfl
theorem QsM{n:Nat}:rrP n n=(List.range n).map rm0:=by unfold rrP;simp
def kf(f:List Nat)(i:Nat):Nat:=if(List.range i).any (fun x=>f.contains x)then 1 else 0
theorem QsN{f:List Nat}{i:Nat}:kf f (i+1)=if f.contains i=true then 1 else kf f i:=by unfold kf;rw[ZaH,List.any_append];generalize(List.range i).any (fun x=>f.contains x)=b;simp only[List.any_cons,List.any_nil,Bool.or_false];cases b<;>cases f.contains i<;>rfl
theorem QtR{f:List Nat}{n:Nat}(hf:∀x∈f,x<n):kf f n=if f.length=0 then 0 else 1:=by unfold kf;cases f with|nil=>simp|cons x f=>rw[if_pos,if_neg (by simp)];rw[List.any_eq_true];exact⟨x,Zau.2 (hf x (by simp)),by simp⟩
theorem Qqz{rs a:List Rm}{j:Nat}{x:Rm}(h:a[j]?=some x):SD.putR rs (a.take (j+1))=(SD.putR rs (a.take j)).set x.st x:=by unfold SD.putR;rw[ZaQ,h,Option.toList,ZaZ];rfl
theorem Qry{i:Nat}{l:LB}{rr:List Rm}:asm (i+1) l rr=asm i l rr++(if lf l i then none else rr[i]?).toList:=by unfold asm;rw[ZaH,ZbJ];cases h:(if lf l i then none else rr[i]?)<;>simp[h]
theorem QnX{i:Nat}{l:LB}{rr:List Rm}:(asm i l rr).length<=i:=by unfold asm;exact Zax (ZbA _ _) (by simp)
def dFin(a:Aut)(f u:List Nat)(closed:Bool):LB×List Rm×Nat:=rRounds a.n a.es a.ms u closed (a.n+1) 2 (left0 a.n f) ((List.range a.n).map rm0) (if f.length=0 then 0 else 1)
def dRes(a:Aut)(f u:List Nat)(closed:Bool):Res:=let F:=dFin a f u closed
 ⟨kept a.n F.1,dists a.n F.1 (rDist a.es (lf F.1) (a.n+1) 1 (o0 a.n a.ms (lf F.1))),asm a.n F.1 F.2.1,F.2.2,restr a (lf F.1),(sAll a (lf F.1)).1⟩
def dH(a:Aut)(l:LB)(rr:List Rm)(k:Nat):HL:=[(41,.cells 0 nine),(50,.cells 0 (rsA a)),(61,.cells 0 [.nilsl,.nilsl,.nilsl,.int .i64 (k:Int),.nilsl,.int .i64 0,.nilsl,.nilsl,.nilsl]),(72,.cells 0 (bls l)),(73,.cells 0 (rr.flatMap rmC))]
abbrev St5:=Nat×LB×List Rm×Nat
def dT(a:Aut)(f u:List Nat)(closed:Bool)(i:Nat):Tmps:=[(1,sliN f),(2,sliN u),(3,.bool closed),(4,.ptr 50 0 0),(8,.ptr 41 0 0),(9,.ptr 61 0 0),(10,.sl 72 0 0 a.n 1),(11,.sl 73 0 0 a.n 4),(12,.int .i64 i)]
def dT1(a:Aut)(u:List Nat)(closed:Bool):Tmps:=[(2,sliN u),(3,.bool closed),(4,.ptr 50 0 0),(8,.ptr 41 0 0),(9,.ptr 61 0 0),(10,.sl 72 0 0 a.n 1),(11,.sl 73 0 0 a.n 4)]
def dT2(a:Aut):Tmps:=[(4,.ptr 50 0 0),(8,.ptr 41 0 0),(9,.ptr 61 0 0),(10,.sl 72 0 0 a.n 1),(11,.sl 73 0 0 a.n 4)]
theorem result26(a:Aut)(f u:List Nat)(closed:Bool)(h:WfA a)(Y:QOk a f u)(I:a.es.length<=1000000):PSpec Tryz.prog 67 [aV a,sliN f,sliN u,.bool closed] (rsV (dRes a f u closed)):=by
 have hn5:=h.n5;have hfl:=Qa3 Y.fS Y.fn;have hul:=Qa3 Y.uS Y.un;have hml:a.ms.length<=a.n:=QaS a.n a.ms h.nd h.msn;have hn':(a.n:Int)<=140737488355328:=by omega
 have Z:(32:Int)*(a.n:Int)<=140737488355328:=by omega
 refine Zcf 40 ok67 rfl (by(try simp only[noRefs,QaI,Qai,Qal,Qaa,Qaj,Qad,Qak,Qao,Qah,noRef,Zad,Zac])<;>rfl) (Qev _) ?_;unfold s67;refine ZcM (ZcP hn' Z @reps @repR) ?_;refine Qaq 110 (fun i:Nat=>dT a f u closed i) (fun i=>dH a (lfP a.n f i) (rrP a.n i) (kf f i)) (fun i=>i<=a.n) (fun i=>a.n-i) 0 0 160 (fun _:Unit=>dT1 a u closed) (fun _=>dH a (left0 a.n f) ((List.range a.n).map rm0) (kf f a.n)) (fun _=>True) ?_ (Zah _) ?_ ?_
 ·have e:List.replicate a.n false=lfP a.n f 0:=by simp[lfP]
  have e2:List.replicate a.n rrN=rrP a.n 0:=by simp[rrP]
  rw[e,e2];try dsimp only[dT,dH]
  exact⟨[(41,.blk 41 0),(50,.blk 40 0),(61,.blk 42 0),(72,.blk 45 0),(73,.blk 49 0)],rfl,au0,au11,au12⟩
 ·rintro i hi;try dsimp only[dT,dH]
  by_cases p:i<a.n
  ·have n:=QsI (F:=f) p;have s:=QsL p;have q:=QsN (f:=f) (i:=i);have hln:=QsH (F:=f) hi;have hln2:=QsK hi;generalize lfP a.n f i=o at*;generalize rrP a.n i=rr at*;generalize kf f i=k at*;have w:i<o.length:=by omega
   have P:i+1<=o.length:=by omega
   have z:=Qcm rr;have g1:i*4+4<=rr.length*4:=by omega
   have hc:=has15 (nz f) i (by simp;omega);rw[Qcz,Qbi]at hc;have pp:(rr.flatMap rmC).take (i*4)++[.int .i64 (i:Int),.int .i64 1,.int .i64 1,.int .i64 (-1)]++(rr.flatMap rmC).drop (i*4+4)=(rr.set i (rm0 i)).flatMap rmC:=put_rm' (l:=rr) (i:=i) (r:=rm0 i) (by omega)
   refine ZcM p ?_;refine cp hc ?_;cases N:f.contains i with|true=>
    rw[N,Bool.not_true]at n;rw[N,if_pos rfl]at q;have J:(bls (lfP a.n f (i+1)))[i]?=some (.bool false):=by rw[<-n,<-QcM,List.getElem?_set_self (by rw[QcL];exact w)]
    refine ZcM (ZcU p P @QcM n J z g1 pp s) ?_;refine⟨i+1,by omega,by omega,?_⟩;try dsimp only[dT,dH]
    rw[q];exact⟨[(41,.blk 41 0),(50,.blk 50 0),(61,.blk 61 0),(72,.blk 72 0),(73,.blk 73 0)],rfl,au0,au11,au12⟩|false=>
    rw[N,Bool.not_false]at n;rw[N,if_neg (by decide)]at q;have J:(bls (lfP a.n f (i+1)))[i]?=some (.bool true):=by rw[<-n,<-QcM,List.getElem?_set_self (by rw[QcL];exact w)]
    refine ZcM (ZcU p P @QcM n J z g1 pp s) ?_;refine⟨i+1,by omega,by omega,?_⟩;try dsimp only[dT,dH]
    rw[q];exact⟨[(41,.blk 41 0),(50,.blk 50 0),(61,.blk 61 0),(72,.blk 72 0),(73,.blk 73 0)],rfl,au0,au11,au12⟩
  have e:i=a.n:=by omega
  subst e;refine ZcM p ?_;refine⟨(),?_⟩;try dsimp only[dT1,dH]
  rw[<-QsJ,<-QsM];exact⟨[(41,.blk 41 0),(50,.blk 50 0),(61,.blk 61 0),(72,.blk 72 0),(73,.blk 73 0)],rfl,au0,au11,au12⟩
 rintro _ _;rw[QtR Y.fn];have hc0:cntL a.n (left0 a.n f)<a.n+1:=by
  have:cntL a.n (left0 a.n f)<=a.n:=by unfold cntL;exact Zax ZbV (by simp)
  omega
 try dsimp only[dT1,dH]
 refine ZcL ?_;refine Qaq 170 (fun t:St5=>dT1 a u closed++[(13,.int .i64 t.1)]) (fun t=>dH a t.2.1 t.2.2.1 t.2.2.2) (fun t=>t.2.1.length=a.n/\t.2.2.1.length=a.n/\t.1+cntL a.n t.2.1<=a.n+2/\∃M,cntL a.n t.2.1<M/\rRounds a.n a.es a.ms u closed M t.1 t.2.1 t.2.2.1 t.2.2.2=dFin a f u closed) (fun t=>cntL a.n t.2.1) (2,left0 a.n f,(List.range a.n).map rm0,if f.length=0 then 0 else 1) 2 260 (fun _:St5=>dT2 a) (fun t=>dH a t.2.1 t.2.2.1 t.2.2.2) (fun t=>t.2=dFin a f u closed/\t.2.1.length=a.n/\t.2.2.1.length=a.n) ?_ ⟨QdB,by simp,by dsimp only;omega,a.n+1,hc0,rfl⟩ ?_ ?_
 ·try dsimp only[dT1,dH,List.cons_append,List.nil_append]
  exact⟨[(41,.blk 41 0),(50,.blk 50 0),(61,.blk 61 0),(72,.blk 72 0),(73,.blk 73 0)],rfl,au0,au11,au12⟩
 ·rintro⟨c,l,rr,k⟩⟨A,v,hrk,M,hfu,y⟩;dsimp only at A v hrk hfu y⊢;try dsimp only[dT1,dH]
  have hN:=next19 a u l c closed h.inN A (by omega) I (by omega) (by omega);have n:=Qhy (left:=lf l) (unc:=u) (rank:=c) (all:=!closed) h.inN h.nd h.srt;rw[Qlu h.inN h.nd h.srt,Bool.not_not]at n;obtain⟨M,rfl⟩:∃m,M=m+1:=⟨M-1,by omega⟩;have V:∀r∈rNext a.n a.es a.ms (lf l) u c closed,cntL a.n (offs l ((rNext a.n a.es a.ms (lf l) u c closed).map (·.st)))<cntL a.n l:=fun r B=>by
   obtain⟨h1,h2⟩:=n.2 r B;refine Qno (fun i _ hi=>?_) h1 h2 ?_;·rw[QdT]at hi;simp only[Zab]at hi;exact hi.1
   rw[QdT,Qeq (Zaq.2 ⟨r,B,rfl⟩)];simp
  unfold rRounds at y;have hnl:(rNext a.n a.es a.ms (lf l) u c closed).length<=a.n:=by
   have h1:((rNext a.n a.es a.ms (lf l) u c closed).map (·.st)).length<=a.n:=QaS a.n _ (by rw[ZaK,Zbp];exact n.1.imp fun h=>by omega) fun x hx=>by obtain⟨r,B,rfl⟩:=Zaq.1 hx;exact(n.2 r B).1
   simpa using h1
  generalize rNext a.n a.es a.ms (lf l) u c closed=g at*;refine ZcM (ZcN @ZaC @ZaB) ?_;refine ch (HSpec.of_F (ZcA (Zch _) (ZcA (FrzTo.all (g:=0) (cs:=bls l) gg (by rw[QcL,A,ZbD])) (ZcA (Zch _) (ZcA (Zch _) (ZcA (Zch _) Zcz))))) (FSpec.Qbu hN (by(try simp only[noRefs,QaI,Qai,Qal,Qaa,Qaj,Qad,Qak,Qao,Qah,noRef,Zad,Zac])<;>rfl) (QnB _) (Qcm _) rfl)) ?_;by_cases h0:g.length=0
  ·rw[if_pos h0]at y;refine ZcM h0 ?_;refine⟨(c,l,rr,k),⟨y,A,v⟩,?_⟩;try dsimp only[dT2,dH]
   exact⟨[(41,.blk 41 0),(50,.blk 50 0),(61,.blk 61 0),(72,.blk 72 0),(73,.blk 73 0)],rfl,au0,au11,au12⟩
  rw[if_neg h0]at y;obtain⟨r0,hr0⟩:∃r,r∈g:=by cases g with|nil=>exact absurd rfl h0|cons r _=>exact⟨r,by simp⟩
  have hd0:=V r0 hr0;have h0':¬(g.length:Int)=0:=by omega
  refine ZcM h0' ?_;refine Qaq 300 (fun j:Nat=>dT1 a u closed++[(13,.int .i64 c),(14,rms g),(15,.int .i64 j)]) (fun j=>dH a (offs l ((g.map (·.st)).take j)) (SD.putR rr (g.take j)) k) (fun j=>j<=g.length) (fun j=>g.length-j) 0 4 400 (fun _:Unit=>dT1 a u closed++[(13,.int .i64 c),(14,rms g)]) (fun _=>dH a (offs l (g.map (·.st))) (SD.putR rr g) k) (fun _=>True) ?_ (Zah _) ?_ ?_
  ·try dsimp only[dT1,dH,List.cons_append,List.nil_append]
   exact⟨[(41,.blk 41 0),(50,.blk 50 0),(61,.blk 61 0),(72,.blk 72 0),(73,.blk 73 0)],rfl,au0,au11,au12⟩
  ·rintro j hj;try dsimp only[dT1,dH]
   by_cases H:j<g.length
   ·obtain⟨r,B⟩:=Qap H;have hrn:=(n.2 r (Zaf B)).1;have s:=Qj8 (l:=l) (xs:=g.map (·.st)) (i:=j) (x:=r.st) (by rw[ZaJ,B];rfl);have hst3:=Qqz (rs:=rr) B;have hol:(offs l ((g.map (·.st)).take j)).length=a.n:=by rw[Qdb];exact A
    have hpl:(SD.putR rr (g.take j)).length=a.n:=by rw[SD.Qhz];exact v
    generalize offs l ((g.map (·.st)).take j)=L at*;generalize SD.putR rr (g.take j)=R at*;have h1:r.st+1<=L.length:=by omega
    have z:=Qcm R;have g1:r.st*4+4<=R.length*4:=by omega
    have pp:=put_rm' (l:=R) (i:=r.st) (r:=r) (by omega);refine ZcM (ZcV @ZaC @ZaB H (QcD B) hrn h1 @QcM z g1 pp) ?_;refine⟨j+1,by omega,by omega,?_⟩;try dsimp only[dT1,dH,List.cons_append,List.nil_append]
    rw[s,hst3];exact⟨[(41,.blk 41 0),(50,.blk 50 0),(61,.blk 61 0),(72,.blk 72 0),(73,.blk 73 0)],rfl,au0,au11,au12⟩
   have e:j=g.length:=by omega
   have e2:(g.map (·.st)).take j=g.map (·.st):=by rw[ZaT];simp;omega
   have e3:g.take j=g:=by rw[ZaT];omega
   rw[e2,e3];refine ZcM (ZcO @ZaC @ZaB H) ?_;refine⟨(),?_⟩;try dsimp only[dT1,dH,List.cons_append,List.nil_append]
   exact⟨[(41,.blk 41 0),(50,.blk 50 0),(61,.blk 61 0),(72,.blk 72 0),(73,.blk 73 0)],rfl,au0,au11,au12⟩
  rintro _ _;try dsimp only[dT1,dH]
  refine ZcM (ZcN @ZaC @ZaB) ?_;refine⟨(c+1,offs l (g.map (·.st)),SD.putR rr g,c),by dsimp only;exact hd0,⟨by dsimp only;rw[Qdb];exact A,by dsimp only;rw[SD.Qhz];exact v,by dsimp only;omega,M,by dsimp only;omega,y⟩,?_⟩;try dsimp only[dT1,dH,List.cons_append,List.nil_append]
  exact⟨[(41,.blk 41 0),(50,.blk 50 0),(61,.blk 61 0),(72,.blk 72 0),(73,.blk 73 0)],rfl,au0,au11,au12⟩
 rintro⟨c,l,rr,k⟩⟨G,A,v⟩;dsimp only at G A v⊢;have T:=restrict40 a l h A I;have hdi:=dist33 a l h.inN A (by omega) I (by omega);have hdl:(rDist a.es (lf l) (a.n+1) 1 (o0 a.n a.ms (lf l))).length=a.n:=by rw[Qgr];simp[o0]
 have U:dRes a f u closed=⟨kept a.n l,dists a.n l (rDist a.es (lf l) (a.n+1) 1 (o0 a.n a.ms (lf l))),asm a.n l rr,k,restr a (lf l),(sAll a (lf l)).1⟩:=by unfold dRes;rw[<-G]
 rw[U];generalize rDist a.es (lf l) (a.n+1) 1 (o0 a.n a.ms (lf l))=d at*;try dsimp only[dT2,dH]
 refine ZcL ?_;refine ch (HSpec.of_F (ZcA (Zch _) (ZcA (FrzTo.all (g:=0) (cs:=bls l) gg (by rw[QcL,A,ZbD])) Zcz)) (FSpec.Qbu hdi (by(try simp only[noRefs,QaI,Qai,Qal,Qaa,Qaj,Qad,Qak,Qao,Qah,noRef,Zad,Zac])<;>rfl) (Qb0 _) (by rw[Qb8,hdl,ZbD]) rfl)) ?_;refine ZcL ?_;refine Qaq 500 (fun i:Nat=>dT2 a++[(16,.fsl (ints d) a.n 1),(17,.int .i64 i)]) (fun i=>[(41,.cells 0 nine),(50,.cells 0 (rsA a)),(61,.cells 0 [.sl 76 0 0 (kept i l).length 1,.sl 77 0 0 (kept i l).length 1,.sl 78 0 0 (asm i l rr).length 4,.int .i64 (k:Int),.nilsl,.int .i64 0,.nilsl,.nilsl,.nilsl]),(72,.cells 0 (bls l)),(73,.cells 0 (rr.flatMap rmC)),(76,.cells 0 (ints (nz (kept i l)))),(77,.cells 0 (ints (dists i l d))),(78,.cells 0 ((asm i l rr).flatMap rmC))]) (fun i=>i<=a.n) (fun i=>a.n-i) 0 6 600 (fun _:Unit=>[(10,.fsl (bls l) a.n 1),(4,.ptr 50 0 0),(8,.ptr 41 0 0),(9,.ptr 61 0 0)]) (fun _=>[(41,.cells 0 nine),(50,.cells 0 (rsA a)),(61,.cells 0 [.sl 76 0 0 (kept a.n l).length 1,.sl 77 0 0 (kept a.n l).length 1,.sl 78 0 0 (asm a.n l rr).length 4,.int .i64 (k:Int),.nilsl,.int .i64 0,.nilsl,.nilsl,.nilsl]),(76,.cells 0 (ints (nz (kept a.n l)))),(77,.cells 0 (ints (dists a.n l d))),(78,.cells 0 ((asm a.n l rr).flatMap rmC))]) (fun _=>True) ?_ (Zah _) ?_ ?_
 ·try dsimp only[dT2,List.cons_append,List.nil_append]
  exact⟨[(41,.blk 41 0),(50,.blk 50 0),(61,.blk 61 0),(72,.blk 72 0),(73,.blk 73 0),(76,.nil),(77,.nil),(78,.nil)],rfl,au0,au11,au12⟩
 ·rintro i hi;try dsimp only[dT2]
  by_cases p:i<a.n
  ·have q:=Qgc (i:=i) (l:=l);have C:=Qip (i:=i) (l:=l) (d:=d);have has:=Qry (i:=i) (l:=l) (rr:=rr);have hkl:=@QhG i l;have F:=@QdC i l d;have hal:=@QnX i l rr;generalize kept i l=K at*;generalize dists i l d=D at*;generalize asm i l rr=E at*;have w:i<l.length:=by omega
   have hid:i<d.length:=by omega
   have Q:d[i]?=some (d.getD i 0):=by rw[Zal hid];simp[hid]
   by_cases h1:lf l i=true;·rw[if_pos h1]at q C;rw[h1,if_pos rfl,Option.toList,Zao]at has;refine ZcM (ZcS @ZaC @ZaB p (QeO w) (QaP Q) h1 F) ?_;refine QdI [(100,[76])] rfl rfl ?_;refine ZcM (ZcS @ZaC @ZaB p (QeO w) (QaP Q) h1 F) ?_;refine⟨⟨⟨_,rfl,fun b N=>N⟩,trivial⟩,i+1,by omega,by omega,?_⟩;rw[q,C,has,Zae,QaF,Qaw,Qaw];exact⟨[(41,.blk 41 0),(50,.blk 50 0),(61,.blk 61 0),(72,.blk 72 0),(73,.blk 73 0),(76,.blk 76 1),(77,.blk 77 1),(78,.blk 78 0)],rfl,au0,au11,au12⟩
   rw[if_neg h1,Zao]at q C;rw[Zai]at h1;obtain⟨r,B⟩:=Qap (l:=rr) (i:=i) (by omega);rw[h1,if_neg (by decide),B,Option.toList]at has;have X:=Qcm E;have z:=Qcm rr;have g1:i*4+4<=rr.length*4:=by omega
   refine ZcM (ZcU @ZaC @ZaB p (QeO w) h1 (QcD B) X z g1) ?_;refine⟨i+1,by omega,by omega,?_⟩;rw[q,C,has,Zan,Zae];exact⟨[(41,.blk 41 0),(50,.blk 50 0),(61,.blk 61 0),(72,.blk 72 0),(73,.blk 73 0),(76,.blk 76 0),(77,.blk 77 0),(78,.blk 78 1)],rfl,au0,au11,au12⟩
  have e:i=a.n:=by omega
  subst e;refine ZcM (ZcO @ZaC @ZaB p) ?_;refine⟨(),?_⟩;exact⟨[(41,.blk 41 0),(50,.blk 50 0),(61,.blk 61 0),(76,.blk 76 0),(77,.blk 77 0),(78,.blk 78 0)],rfl,Zcj,au11,Zcl (Rn.fz (b:=72) (g:=0) gg rfl rfl (by rw[QcL,A,ZbD]) (Zce (Qah _))) au12⟩
 rintro _ _;have hdl3:=@QdC a.n l d;generalize restr a (lf l)=S at*;generalize(sAll a (lf l)).1=O at*;refine ZcL ?_;refine cp T ?_;refine ZcL ?_;refine⟨.inr trivial,_,rfl,?_⟩;refine Rn.agg (Zct (Zcv (g:=0) rfl (by simp[ints]) (Zce (Qaa _))) (Zct ?_ (Zct (Zcv (g:=0) rfl (Qcm _) (Zce (Qak _))) (Zce (by simp only[noRef,noRefs,Qaa,Qad];rfl)))));have:(dists a.n l d).length=(kept a.n l).length:=hdl3;show Rn 0 π0 _ (.fsl (ints (dists a.n l d)) (dists a.n l d).length 1) _;rw[this];exact Zcv (g:=0) rfl (by rw[Qb8,this,ZbD]) (Zce (Qaa _))
end Go.AM.SE
namespace Go.AM.SE
open Go.Proofs Go.AM.SD Go.AM.OD
theorem same27(x y:Res)(a:ROk x)(g:ROk y):PSpec Tryz.prog 66 [rsV x,rsV y] (.bool (resB x y)):=by refine Zcg 64 ok66 rfl (by(try simp only[noRefs,QaI,Qai,Qal,Qaa,Qaj,Qad,Qak,Qao,Qah,noRef,Zad,Zac])<;>rfl) rfl ?_;have c1:=eq14N x.kept y.kept a.kept;have c2:=sameInts x.dist y.dist (by have:=a.dist;omega);have h:=sameRems18 x.rem y.rem a.rem;have f:=same30 x.sup y.sup a.sup g.sup;have j:=eq14N x.orig y.orig a.orig;unfold resB;generalize autB x.sup y.sup=d at*;generalize decide (x.kept=y.kept)=i at*;generalize decide (x.dist=y.dist)=b2 at*;generalize decide (x.rem=y.rem)=k at*;generalize decide (x.orig=y.orig)=l at*;unfold s66;refine ZcL ?_;refine cp c1 ?_;cases i with|false=>rw[Zbl];refine ZcL ?_;exact⟨.inr trivial,_,rfl,rfl⟩|true=>rw[Zag];refine ZcL ?_;refine cp c2 ?_;cases b2 with|false=>rw[Zbl];refine ZcL ?_;exact⟨.inr trivial,_,rfl,rfl⟩|true=>rw[Zag];refine ZcL ?_;refine cp h ?_;cases k with|false=>rw[Zbl];refine ZcL ?_;exact⟨.inr trivial,_,rfl,rfl⟩|true=>
 rw[Zag];by_cases c:x.rounds=y.rounds;·rw[decide_eq_true c,Zag];refine ZcM c ?_;refine cp f ?_;cases d with|false=>rw[Zbl];refine ZcL ?_;exact⟨.inr trivial,_,rfl,rfl⟩|true=>rw[Zag];refine ZcL ?_;refine cp j ?_;refine ZcL ?_;exact⟨.inr trivial,_,rfl,rfl⟩
 rw[decide_eq_false c,Zbl];refine ZcM c ?_;exact⟨.inr trivial,_,rfl,rfl⟩
end Go.AM.SE
namespace Go.AM.SE
open Go.Proofs Go.AM.SD Go.AM.OD
theorem QsO{a:Aut}{f u:List Nat}(all:Bool)(h:WfA a)(d:QOk a f u):dRes a f u (!all)=pRes a f u all:=by have c:=Agr0 (n:=a.n) d.fn (by rw[ZaK];exact d.fS.imp fun h=>by omega);obtain⟨h1,j,k,i⟩:=Qpp (unc:=u) (all:=all) h.inN h.nd h.srt (a.n+1) 2 (left0 a.n f) (f.map rm0) ((List.range a.n).map rm0) (if f.length=0 then 0 else 1) QdB c;have g:=QsZ i (Qj6 _) (Qj5 _);unfold dRes pRes dFin fin;dsimp only;rw[g,Qls h.inN h.nd (k:=a.n+1) (by omega),h1,j]
theorem QsP{a:Aut}{f u:List Nat}{closed:Bool}(h:WfA a):ROk (dRes a f u closed):=by have c:=h.n5;unfold dRes;generalize dFin a f u closed=F;have w:=Qlw (left:=lf F.1) h;have d:=(QeM (left:=lf F.1) h).1.fi.len;have h1:=@QhG a.n F.1;have l:=@QdC a.n F.1 (rDist a.es (lf F.1) (a.n+1) 1 (o0 a.n a.ms (lf F.1)));have k:=@QnX a.n F.1 F.2.1;have j:=Qa3 w.al w.al5;have g:=Qa3 w.ms w.msn;have i:=w.n5;have m:=WfA.el1 w;exact⟨by dsimp only;omega,by dsimp only;omega,by dsimp only;omega,by dsimp only;omega,by dsimp only;omega,by dsimp only;omega,by dsimp only;omega⟩
end Go.AM.SE
namespace Go.AM.SO
open Go.Proofs Go.AM.SD Go.AM.SE
theorem QtT{a b:List UInt8}:aBin .eql (.str a) (.str b)=some (.bool (decide (a=b))):=rfl
end Go.AM.SO
namespace Go.AM.TZ
open Go.Proofs
set_option maxHeartbeats 4000000
noncomputable section
def cf:YA.Cf:={}
noncomputable def ft:FT2:=YA.tre Tryz.prog cf 20 [20,38,41,65,78,79,80,81,87,111,112,140,164,165,177,178,179,180,181,182,192,193,217,218,220,221,222,238,239,243,244,245,246,247,248,249,250,268,269,270,278]
theorem ft_ok:ft.OK Tryz.prog:=YA.Qf1 _ _ (YA.Qfa (by kernel_rfl))
end
end Go.AM.TZ
namespace Go.AM.TZ
open Go.Proofs
noncomputable section
def isT:AV->Bool|.bool true=>true|_=>false
theorem QtP:∀u,isT u=true->u=.bool true:=by
 intro u h;unfold isT at h;split at h;·rfl
 cases h
theorem known20:PSpec Tryz.prog 20 [] (.bool true):=QbL (t:=ft) ft_ok Qda (d:=100000) isT QtP (by kernel_rfl)
end
end Go.AM.TZ
namespace Go.AM.SO
open Go.Proofs Go.AM.SD Go.AM.SE
theorem sets63(c:Cel)(h:WfCel c):PSpec Tryz.prog 63 [celV c,.agg (spC c)] (.tup [sliN (fbd c),sliN (uncL c.ev 5)]):=by
 have a:=QbS c;have l:noRefs (spC c)=true:=QfB _ _ _ _;have w:=QdM (evl c.ev);refine Zcf 64 OE.ok63 rfl (by rw[noRefs,SU.Qbc,noRefs,noRef,l];rfl) (by simp only[noRef,noRefs,Qaa];rfl) ?_;have hle:=QfA c (sync0 (allA c)).1.length;have y:(sync0 (allA c)).1.length<=4096:=(wfA_c c h).n5;rw[spC,spG]at l⊢;unfold fbd at*;generalize forb c (sync0 (allA c)).1.length=L at*;generalize syncA (allA c)=q at*;generalize(sync0 (auL c.cs)).1=P at*;generalize(sync0 (allA c)).1=T at*;have u:(spA c T).length=T.length:=by simp[spA]
 have s:(spB c T).length=T.length:=by simp[spB]
 unfold OE.s63;refine ZcJ ?_;refine Qaq 140 (fun i:Nat=>[(2,.ptr 51 0 0),(3,.ptr 52 0 0),(6,.sl 76 0 0 i 1),(7,.nilsl),(8,.int .i64 i)]) (fun i=>[(51,.cells 0 [evsV c.ev,its 99 c.cs,its 114 c.rs,exs c.xs,cos c.ks]),(52,.cells 0 [sliN q.al,.int .i64 (q.n:Int),sliN q.ms,egsN q.es,tuV (spA c T),tuV (spB c T),sliN (spP c P T),rss L]),(76,.cells 0 (ints (nz (fbs (L.take i)))))]) (fun i=>i<=L.length) (fun i=>L.length-i) 0 0 200 (fun _:Unit=>[(2,.ptr 51 0 0),(6,sliN (fbs L)),(7,.nilsl)]) (fun _=>[(51,.cells 0 [evsV c.ev,its 99 c.cs,its 114 c.rs,exs c.xs,cos c.ks])]) (fun _=>True) ?_ (Zah _) ?_ ?_;·refine⟨[(51,.blk 64 0),(52,.blk 65 0),(76,.nil)],rfl,au0,?_,au28⟩;exact Zcn rfl rfl gg (Zce a) (Zcn rfl rfl gg (Zce l) (Zco rfl rfl Zcm))
 ·rintro i hi;by_cases g:i<L.length
  ·obtain⟨x,r⟩:=Qap g;have f:=Qmo r;have j:4<=((L.flatMap rsC).drop (i*4)).length:=by rw[f];simp
   have k:(ints (nz (fbs (L.take i)))).length=i:=by simp[ints,QnW (show i<=L.length by omega)]
   refine ZcK (ZcP g f j k) ?_;refine⟨i+1,by omega,by omega,?_⟩;rw[Qmp r,QaF,Qaw];refine⟨[(51,.blk 51 0),(52,.blk 52 0),(76,.blk 76 1)],rfl,au0,?_,au28⟩;exact Zcn rfl rfl gg (Zce a) (Zcn rfl rfl gg (Zce l) (Zcn rfl rfl gg (Zce (SU.Qax (Qaa _) rfl)) Zcm))
  have e:i=L.length:=by omega
  subst e;refine ZcI g ?_;refine⟨(),?_⟩;exact⟨[(51,.blk 51 0)],rfl,Zcj,Zcn rfl rfl gg (Zce a) Zcm,Zcl (Rn.x2 rfl rfl) (Zcl (Zcu (b:=76) (g:=0) gg rfl rfl (by simp[fbs]) (by simp[ints,fbs]) (Zce (Qaa _))) au28)⟩
 rintro _ _;refine ZcJ ?_;rw[Qi5]at a⊢;refine Qaq 140 (fun i:Nat=>[(2,.ptr 51 0 0),(6,sliN (fbs L)),(7,.sl 77 0 0 (uncL c.ev i).length 1),(9,.int .i64 i)]) (fun i=>[(51,.cells 0 [evsN (evl c.ev),its 99 c.cs,its 114 c.rs,exs c.xs,cos c.ks]),(77,.cells 0 (ints (nz (uncL c.ev i))))]) (fun i=>i<=5) (fun i=>5-i) 0 2 300 (fun _:Unit=>[(2,.ptr 51 0 0),(6,sliN (fbs L)),(7,sliN (uncL c.ev 5))]) (fun _=>[(51,.cells 0 [evsN (evl c.ev),its 99 c.cs,its 114 c.rs,exs c.xs,cos c.ks])]) (fun _=>True) ?_ (Zah _) ?_ ?_;·refine⟨[(51,.blk 51 0),(77,.nil)],rfl,au0,?_,au28⟩;exact Zcn rfl rfl gg (Zce a) (Zco rfl rfl Zcm)
 ·rintro i hi;have v:=QnO c.ev i;have p:(evl c.ev).length=5:=rfl;by_cases g:i<5
  ·have f:=Ql8 (Qqc c.ev g);have j:5<=(((evl c.ev).flatMap evN).drop (i*5)).length:=by rw[f];simp
   have d:=Ql9 c.ev i;have m:(i:Int)<5:=by omega
   have n:i<(evl c.ev).length:=by omega
   have k:(ints (nz (uncL c.ev i))).length=(uncL c.ev i).length:=by simp[ints]
   cases o:(c.ev i).c;·rw[o]at d;refine ZcK (ZcT m n f j o k p @Int.cast_ofNat_Int) ?_;refine⟨i+1,by omega,by omega,?_⟩;rw[d,if_neg (by simp),Zae,QaF,Qaw];refine⟨[(51,.blk 51 0),(77,.blk 77 1)],rfl,au0,?_,au28⟩;exact Zcn rfl rfl gg (Zce a) (Zcn rfl rfl gg (Zce (SU.Qax (Qaa _) rfl)) Zcm)
   rw[o]at d;refine ZcK (ZcT m n f j o k p @Int.cast_ofNat_Int) ?_;refine⟨i+1,by omega,by omega,?_⟩;rw[d,if_pos rfl,Zao];refine⟨[(51,.blk 51 0),(77,.blk 77 0)],rfl,au0,?_,au28⟩;exact Zcn rfl rfl gg (Zce a) (Zcn rfl rfl gg (Zce (Qaa _)) Zcm)
  have t:i=5:=by omega
  subst t;refine ZcK (ZcN p @Int.cast_ofNat_Int) ?_;refine⟨(),?_⟩;exact⟨[(51,.blk 51 0)],rfl,Zcj,Zcn rfl rfl gg (Zce a) Zcm,Zcl (Rn.x2 rfl rfl) (Zcl (Zcd (Qab _)) (Zcl (Zcu (b:=77) (g:=0) gg rfl rfl (by simp) (by simp[ints]) (Zce (Qaa _))) Zck))⟩
 rintro _ _;refine ZcJ ?_;refine⟨.inr trivial,_,rfl,Zcd ?_⟩;simp only[noRef,noRefs,Qaa];rfl
theorem QqA{a:Aut}(w:WfA a):AOk a:=by have d:=Qa3 w.al w.al5;have g:=Qa3 w.ms w.msn;have c:=w.n5;have f:=WfA.el1 w;exact⟨by omega,by omega,by omega⟩
theorem QtS(c:Cel)(h:WfCel c):dRes (syncA (allA c)) (fbd c) (uncL c.ev 5) false=resC c:=QsO true (wfA_c c h) (qok_c c)
theorem law14(p:Pln)(h:POk p)(m:p.xn<=9223372036854775807):W2 Tryz.prog ⟨OE.s14.n,0⟩ OE.s14.body (fun e B=>(e=.normal\/e=.ret)/\resV B.T B.h OE.s14.res=some [.bool true]) ⟨argT 0 [plnV p],.e⟩:=by
 refine(wpC.toW (n:=40) (Q:=fun e T h _=>(e=.normal\/e=.ret)/\resV T h OE.s14.res=some [.bool true]) (show wS Tryz.prog ⟨OE.s14.n,0⟩ OE.s14.body [] 40 _ _ _ from ?_)).mono fun e B⟨_,h⟩=>h;have hlen:=SU.QiX h;have f:=SU.QiY h;have l:PSpec Tryz.prog 25 [.agg (plnC p)] (.bool (decide (p.xn<=4))):=short25 p h m;have x:PSpec Tryz.prog 26 [.agg (plnC p)] (celV (mkC p)):=SU.Make26 p h;have hw:=@Qth p;have o:=TZ.known20;have d:(plnC p).take 152=plnC p:=by rw[<-hlen,Zay]
 show wS _ _ _ _ _ (argT 0 [.agg (plnC p)]) _ _;generalize plnC p=C at*;generalize mkC p=c at*;by_cases t:p.xn<=4
 ·have n:decide (p.xn<=4)=true:=by simp[t]
  rw[n]at l;have a:=wfA_c c hw;have s:=cell22 c hw;have hO:=specify18 c hw;have y:=supervisor23 c hw;have u:=sets63 c hw;have r:=same30 (syncA (allA c)) (syncA (allA c)) (QqA a) (QqA a);rw[QdD]at r;have v:=result26 (syncA (allA c)) (fbd c) (uncL c.ev 5) false a (qok_c c) (by have:=WfA.el1 a;omega);have j:=QsP (f:=fbd c) (u:=uncL c.ev 5) (closed:=false) a;rw[QtS c hw]at v j;have i:=same27 (resC c) (resC c) j j;rw[QpP]at i;have k:=same30 (resC c).sup (resC c).sup j.sup j.sup;rw[QdD]at k;have g:=eq14N (spP c (sync0 (auL c.cs)).1 (sync0 (allA c)).1) (spP c (sync0 (auL c.cs)).1 (sync0 (allA c)).1) (by have:=a.n5;simp[spP];exact Zax this (by decide));rw[decide_eq_true rfl]at g;rw[spC,spG]at s hO u;generalize resC c=R at*;generalize fbd c=F at*;generalize forb c (sync0 (allA c)).1.length=L at*;generalize syncA (allA c)=q at*;generalize(sync0 (auL c.cs)).1=P at*;generalize(sync0 (allA c)).1=T at*;have w:(spA c T).length=T.length:=by simp[spA]
  have z:(spB c T).length=T.length:=by simp[spB]
  unfold OE.s14;refine ZcK (ZcO hlen f d) ?_;refine cp o ?_;refine ZcK (ZcN hlen d) ?_;refine cp l ?_;refine ZcK (ZcN hlen d) ?_;refine cp x ?_;refine ZcJ ?_;refine cp s ?_;refine ZcJ ?_;refine cp hO ?_;refine ZcJ ?_;refine cp y ?_;refine ZcJ ?_;refine cp u ?_;refine ZcJ ?_;refine cp r ?_;refine ZcJ ?_;refine cp g ?_;refine ZcJ ?_;refine cp v ?_;refine ZcJ ?_;refine cp i ?_;refine ZcJ ?_;refine cp k ?_;refine ZcJ ?_;exact⟨.inr trivial,rfl⟩
 have n:decide (p.xn<=4)=false:=by simp[t]
 rw[n]at l;unfold OE.s14;refine ZcK (ZcO hlen f d) ?_;refine cp o ?_;refine ZcK (ZcN hlen d) ?_;refine cp l ?_;refine ZcJ ?_;refine cp o ?_;refine ZcJ ?_;exact⟨.inr trivial,rfl⟩
theorem okl14:okFn Tryz.prog 14 OE.s14=true:=OE.ok14
theorem law14_in(d0:tyPln.D)(d:tyPln.wf d0):W2 Tryz.prog ⟨OE.s14.n,0⟩ OE.s14.body (fun e B=>(e=.normal\/e=.ret)/\resV B.T B.h OE.s14.res=some [.bool true]) ⟨argT 0 [tyPln.val d0],.e⟩:=by obtain⟨p,hp,a,c⟩:=QtK d;rw[c];exact law14 p hp a
end Go.AM.SO
