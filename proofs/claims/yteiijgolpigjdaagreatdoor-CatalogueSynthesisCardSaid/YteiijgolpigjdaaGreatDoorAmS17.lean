/- A part of the proof of CatalogueSynthesisCardSaid: lemmas on the way (AnZf, AnOe, AnRy, AnOg, AnZg, AnHm, AnHz, AnHn, AnZh, AmTx, AmUc, AnZo). Conditions: none of ours. -/
import Derived.Test.YteiijgolpigjdaaGreatDoorProg
import Derived.KernelRfl
import Derived.Test.YteiijgolpigjdaaGreatDoorAmS16
set_option linter.unusedSectionVars false
set_option maxHeartbeats 32000000
set_option maxRecDepth 100000
set_option linter.unusedVariables false
set_option linter.unusedSimpArgs false
namespace Go.AM.SO
open Go.Proofs Go.AM.SD Go.AM.SE
def grs(c:CelA)(i:Nat)(t:List Nat):Option (Nat×Int×Int×Int):=if(vioG (t.take c.cs.length) c.ks).2.2=true then some (i,(vioG (t.take c.cs.length) c.ks).1,(vioG (t.take c.cs.length) c.ks).2.1,-1)else((gys c (ixT (sync0 (auN c.cs)).1 (t.take c.cs.length)) (t.drop c.cs.length)).find? fun y=>!(c.ev.getD y.1 ev0).c).map fun y=>(i,3,y.2,(y.1:Int))
def grsO(c:CelA)(i:Nat):List (Nat×Int×Int×Int):=(grs c i ((sync0 (allN c)).1.getD i [])).toList
def gforb(c:CelA)(n:Nat):List (Nat×Int×Int×Int):=(List.range n).flatMap (grsO c)
theorem Qfo(c:CelA)(n:Nat):gforb c (n+1)=gforb c n++grsO c n:=by unfold gforb;rw[List.range_succ,List.flatMap_append];simp
theorem Qgf(c:CelA):∀n,(gforb c n).length<=n
 |0=>by simp[gforb]|n+1=>by
  have:=Qgf c n;rw[Qfo,List.length_append];have:(grsO c n).length<=1:=by unfold grsO;cases grs c n _<;>simp
  omega
def gpA(c:CelA)(T:List (List Nat)):List (List Nat):=T.map fun t=>t.take c.cs.length
def gpB(c:CelA)(T:List (List Nat)):List (List Nat):=T.map fun t=>t.drop c.cs.length
def gpP(c:CelA)(P T:List (List Nat)):List Nat:=T.map fun t=>ixT P (t.take c.cs.length)
abbrev gpG(c:CelA)(q:Aut)(P T:List (List Nat)):List AV:=[sliN q.al,.int .i64 (q.n:Int),sliN q.ms,egsN q.es,tuV (gpA c T),tuV (gpB c T),sliN (gpP c P T),rss (gforb c T.length)]
def gpC(c:CelA):List AV:=gpG c (syncA (allN c)) (sync0 (auN c.cs)).1 (sync0 (allN c)).1
theorem Qim(c:CelA)(q:Aut)(P T:List (List Nat)):noRefs (gpG c q P T)=true:=by
 have a:noRef (rss (gforb c T.length))=true:=by rw[noRef];exact Qb1 _
 simp only[noRefs,Qaa,Qaj,QbA,a,Bool.true_and,Bool.and_true];rfl
theorem QlT{c:CelA}(h:WfG c){k:Nat}{r:List Nat}{y:Nat×Int}(f:y∈gys c k r):y.1<c.ev.length:=by
 unfold gys at f;obtain⟨e,he,b⟩:=List.mem_filterMap.1 f;unfold gyE at b;split at b;·cases b;unfold evO at he;obtain⟨x,i,rfl⟩:=List.mem_map.1 he;obtain⟨a,g,d⟩:=((Qdl h.cj).2 x.2.1).1 ((Qef h.cj h.pl).ev x (List.mem_filter.1 i).1);exact h.eb a (List.mem_append.2 (.inl g)) _ d
 cases b
theorem QrH{c:CelA}{i:Nat}{t:List Nat}(a:(vioG (t.take c.cs.length) c.ks).2.2=true):(grs c i t).toList=[(i,(vioG (t.take c.cs.length) c.ks).1,(vioG (t.take c.cs.length) c.ks).2.1,-1)]:=by unfold grs;rw[if_pos a];rfl
theorem Qsf{c:CelA}{i:Nat}{t:List Nat}(a:(vioG (t.take c.cs.length) c.ks).2.2=false):(grs c i t).toList=(((gys c (ixT (sync0 (auN c.cs)).1 (t.take c.cs.length)) (t.drop c.cs.length)).find? fun y=>!(c.ev.getD y.1 ev0).c).map fun y=>(i,3,y.2,(y.1:Int))).toList:=by unfold grs;rw[if_neg (by simp[a])]
theorem _root_.Go.AM.au28{p:Prop}(h:p:=by repeat(first|exact RT.nil|(refine RT.cons ?_ ?_;·(first|exact Rn.any|exact Rn.x1 rfl rfl|exact Rn.x2 rfl rfl|exact Rn.x3 rfl rfl|exact Rn.x4 rfl rfl|exact Rn.x5 rfl|exact Rn.x6 rfl|exact Rn.x7 rfl|(refine Rn.slot ?_ ?_;(first|rfl|(rw[Int.natCast_add];rfl));(first|rfl|(simp only[noRef,noRefs,Qag,Bool.and_self,Bool.and_true,Bool.true_and,Qab,Qao,Qaa,Qaj,Qa0,Qaf,Qcx,Qcf,Qbf,QbA,Qb1];done)))|(refine Rn.fn ?_ ?_<;>(repeat'(first|exact RnL.nil|refine RnL.cons ?_ ?_|exact Rn.same rfl|exact Rn.x6 rfl|exact Rn.x2 rfl rfl|exact Rn.x5 rfl|exact Rn.x1 rfl rfl))))))):p:=h
theorem specG(c:CelA)(h:WfG c):PSpec Tryz.prog 26 [celG c] (.tup [.agg (gpC c),.int .i64 0]):=by
 have w:=QbQ c;have hns:noRef (.tup [.agg (gpC c),.int .i64 0])=true:=by rw[noRef,noRefs,noRef,gpC,Qim];rfl
 refine PSpec.of_rn 64 TQ.ok26 rfl (by rw[noRefs,QcC];rfl) hns ?_;have h0:=h.c0;have h3:=h.l12;have hO:=openG c h;have hin:=gproj h;have hPi:=Qgk (fun a ha=>(h.cj a ha).pos) fun a ha=>(h.cj a ha).wf.esn;have hT243:=h.ql;have hPin:∀x∈(sync0 (auN c.cs)).1,InT (auN c.cs) x:=hPi.inT;have hpn:(syncA (auN c.cs)).n=(sync0 (auN c.cs)).1.length:=rfl;have s:=fun t(A:c.cs.length<=t.length)=>gsplit c t h0 A;have Y:=fun t(A:InT (auN c.cs) t)=>violG c h A;have S:=fun k r=>grefF c k r;have Q:=fun{k:Nat}hk r hr hrn{b m:Nat}H H' n=>@grefused c h k hk r hr hrn b m H H' n;have hrs:∀i t,(sync0 (allN c)).1[i]?=some t->grsO c i=(grs c i t).toList:=fun i t A=>by unfold grsO;rw[List.getD_eq_getElem?_getD,A];rfl
 have hrv:=fun i t=>@Qsf c i t;have hle:=Qgf c;have hsu:=Qfo c;have hst:=Qet c (syncA (auN c.cs)) (syncA (allN c)) (sync0 (auN c.cs)).1 (sync0 (allN c)).1;rw[gpC]at*;rw[gtC]at hO s S;generalize syncA (auN c.cs)=p at*;generalize syncA (allN c)=q at*;generalize(sync0 (auN c.cs)).1=P at*;generalize(sync0 (allN c)).1=T at*;have u:=QbA T;have R:noRef (.fptr (gtG c p q P T))=true:=by rw[noRef];exact hst
 have hnc:=QcC c;simp(disch:=first|omega|exact PairsOK.mk rfl|(simp only[lenW]<;>omega))only[TQ.s26,Qac,Qad,Qae,Qah,Qal,Qap,wW,wV,simprocAttr];refine cp hO ?_;simp(disch:=first|omega|exact PairsOK.mk rfl|(simp only[lenW]<;>omega))only[Qac,Qad,Qae,Qah,Qal,Qap,wW,wV,simprocAttr];refine Qay 200 (fun i:Nat=>[(1,.ptr 51 0 0),(2,.ptr 53 0 0),(4,.fptr (gtG c p q P T)),(6,.ptr 52 0 0),(35,tuV T),(36,.int .i64 T.length),(37,.int .i64 i)]) (fun i=>[(51,.cells 0 [evns c.ev,itsN c.cs,itsN c.rs,exsZ [],cosZ c.ks]),(52,.cells 0 [sliN q.al,.int .i64 (q.n:Int),sliN q.ms,egsN q.es,.sl 60 0 0 i 1,.sl 61 0 0 i 1,.sl 62 0 0 i 1,.sl 63 0 0 (gforb c i).length 4]),(53,.cells 0 [.nilsl,.int .i64 0,.nilsl,.nilsl,.nilsl,.nilsl,.nilsl,.nilsl]),(60,.cells 0 ((gpA c (T.take i)).map sliN)),(61,.cells 0 ((gpB c (T.take i)).map sliN)),(62,.cells 0 (ints (nz (gpP c P (T.take i))))),(63,.cells 0 ((gforb c i).flatMap rsC))]) (fun i=>i<=T.length) (fun i=>T.length-i) 0 0 400 (fun _:Unit=>[(2,.ptr 53 0 0),(6,.ptr 52 0 0)]) (fun _=>[(52,.cells 0 (gpG c q P T)),(53,.cells 0 [.nilsl,.int .i64 0,.nilsl,.nilsl,.nilsl,.nilsl,.nilsl,.nilsl])]) (fun _=>True) ?_ (Nat.zero_le _) ?_ ?_;·refine⟨[(51,.blk 64 0),(52,.blk 81 0),(53,.blk 65 0),(60,.nil),(61,.nil),(62,.nil),(63,.nil)],rfl,RO.zero,?_,RT.cons (Rn.x2 rfl rfl) (RT.cons (Rn.x2 rfl rfl) (RT.cons (Rn.same R) (RT.cons (Rn.x2 rfl rfl) (RT.cons (Rn.same u) au28))))⟩;exact RB.cells rfl rfl gg (RnL.same w) (RB.cells rfl rfl gg (RnL.cons (Rn.same (Qaa _)) (RnL.cons (Rn.same rfl) (RnL.cons (Rn.same (Qaa _)) (RnL.cons (Rn.same (Qaj _)) (RnL.cons (Rn.x4 rfl rfl) (RnL.cons (Rn.x4 rfl rfl) (RnL.cons (Rn.x4 rfl rfl) (RnL.cons (Rn.x4 rfl rfl) RnL.nil)))))))) (RB.cells rfl rfl gg (RnL.same rfl) (RB.newnil rfl rfl (RB.newnil rfl rfl (RB.newnil rfl rfl (RB.newnil rfl rfl RB.nil))))))
 ·rintro i hi;by_cases hlt:i<T.length
  ·obtain⟨t,A⟩:=Qav hlt;obtain⟨hit,hpt⟩:=hin t (List.mem_of_getElem? A);have htl:c.cs.length<=t.length:=by rw[hit.1,Qee];omega
   have O:=QqI (A:=auN c.cs) (B:=auN c.rs) hit;have M:=QqJ (A:=auN c.cs) (B:=auN c.rs) hit;rw[Qbz]at O M;have hl1:(t.take c.cs.length).length<=12:=by rw[List.length_take];omega
   have hl2:(t.drop c.cs.length).length<=12:=by rw[M.1,Qbz];omega
   have hsp:=s t htl;have hky:=key115G h.cj (by rw[Qbz];omega) O;have hv:=Y _ O;have hcl1:=clone41 (t.take c.cs.length) (by omega);have hcl2:=clone41 (t.drop c.cs.length) (by omega);have hk:=Qii hpt;have Z:(gpA c (T.take (i+1))).map sliN=(gpA c (T.take i)).map sliN++[sliN (t.take c.cs.length)]:=by unfold gpA;rw[take_succ' A];simp
   have X:(gpB c (T.take (i+1))).map sliN=(gpB c (T.take i)).map sliN++[sliN (t.drop c.cs.length)]:=by unfold gpB;rw[take_succ' A];simp
   have hip:gpP c P (T.take (i+1))=gpP c P (T.take i)++[ixT P (t.take c.cs.length)]:=by unfold gpP;rw[take_succ' A];simp
   have hla:((gpA c (T.take i)).map sliN).length=i:=by unfold gpA;simp;omega
   have hlb:((gpB c (T.take i)).map sliN).length=i:=by unfold gpB;simp;omega
   have hlp:(ints (nz (gpP c P (T.take i)))).length=i:=by unfold gpP;simp[ints];omega
   have L:=QpM (gforb c i);have hlf2:=hle i;have J:=hrs i t A;have hsi:=hsu i;have V:=hrv i t;have K:=@QrH c i t;have hk:ixT P (t.take c.cs.length)<p.n:=by rw[hpn];exact hk
   have hr2:(t.drop c.cs.length).length=c.rs.length:=by rw[M.1,Qbz]
   have U:∀(j:Nat)y,c.rs[j]?=some y->(t.drop c.cs.length).getD j 0<y.2.n:=fun j y hy=>M.2 j y.2 (by rw[List.getElem?_map,hy];rfl);have hfa:∀z,(gforb c i++[z]).flatMap rsC=(gforb c i).flatMap rsC++rsC z:=fun z=>by simp
   have G:noRefs [sliN (t.take c.cs.length)]=true:=by rw[noRefs,Qaa];rfl
   have I:noRefs [sliN (t.drop c.cs.length)]=true:=by rw[noRefs,Qaa];rfl
   generalize gpA c (T.take i)=LA at*;generalize gpB c (T.take i)=LB at*;generalize gpP c P (T.take i)=LP at*;generalize t.take c.cs.length=t1 at*;generalize t.drop c.cs.length=t2 at*;generalize vioG t1 c.ks=v at*;obtain⟨v1,v2,v3⟩:=v;dsimp only at V K hv;have hrf:=S (ixT P t1) t2;simp(disch:=first|omega|exact PairsOK.mk rfl|(simp only[lenW]<;>omega))only[hlt,Qnj A,Qac,Qad,Qae,Qah,Qal,Qap,wW,wV,simprocAttr];refine cp hsp ?_;simp(disch:=first|omega|exact PairsOK.mk rfl|(simp only[lenW]<;>omega))only[Qac,Qad,Qae,Qah,Qal,Qap,wW,wV,simprocAttr];refine cp hky ?_;simp(disch:=first|omega|exact PairsOK.mk rfl|(simp only[lenW]<;>omega))only[Qac,Qad,Qae,Qah,Qal,Qap,wW,wV,simprocAttr];refine Qf1 (c:=keyC) (f:=ixV P) (x:=t1) (l:=P) (Qf9 h.cj O hPin) hpt ?_;simp(disch:=first|omega|exact PairsOK.mk rfl|(simp only[lenW]<;>omega))only[ixV,Qac,Qad,Qae,Qah,Qal,Qap,wW,wV,simprocAttr];refine QdD [(56,[60]),(62,[61]),(68,[62])] rfl rfl ?_;simp(disch:=first|omega|exact PairsOK.mk rfl|(simp only[lenW]<;>omega))only[Qac,Qad,Qae,Qah,Qal,Qap,wW,wV,simprocAttr];refine cp hcl1 ?_;simp(disch:=first|omega|exact PairsOK.mk rfl|(simp only[lenW]<;>omega))only[Qac,Qad,Qae,Qah,Qal,Qap,wW,wV,simprocAttr];refine cp hcl2 ?_;simp(disch:=first|omega|exact PairsOK.mk rfl|(simp only[lenW]<;>omega))only[hla,hlb,hlp,Qac,Qad,Qae,Qah,Qal,Qap,wW,wV,simprocAttr];refine⟨⟨⟨_,rfl,fun b hb=>hb⟩,⟨_,rfl,fun b hb=>hb⟩,⟨_,rfl,fun b hb=>hb⟩,trivial⟩,?_⟩;refine cp hv ?_;cases v3 with|true=>have g:=K rfl;simp(disch:=first|omega|exact PairsOK.mk rfl|(simp only[lenW]<;>omega))only[L,Qac,Qad,Qae,Qah,Qal,Qap,wW,wV,simprocAttr];refine⟨i+1,by omega,by omega,?_⟩;rw[Z,X,hip,hsi,J,g,hfa,List.length_append,QaV,QaK];refine⟨[(51,.blk 51 0),(52,.blk 52 0),(53,.blk 53 0),(60,.blk 60 1),(61,.blk 61 1),(62,.blk 62 1),(63,.blk 63 1)],rfl,RO.zero,?_,RT.cons (Rn.x2 rfl rfl) (RT.cons (Rn.x2 rfl rfl) (RT.cons (Rn.same R) (RT.cons (Rn.x2 rfl rfl) (RT.cons (Rn.same u) au28))))⟩;exact RB.cells rfl rfl gg (RnL.same w) (RB.cells rfl rfl gg (RnL.cons (Rn.same (Qaa _)) (RnL.cons (Rn.same rfl) (RnL.cons (Rn.same (Qaa _)) (RnL.cons (Rn.same (Qaj _)) (RnL.cons (Rn.x1 rfl rfl) (RnL.cons (Rn.x1 rfl rfl) (RnL.cons (Rn.x1 rfl rfl) (RnL.cons (Rn.x1 rfl rfl) RnL.nil)))))))) (RB.cells rfl rfl gg (RnL.same rfl) (RB.cells rfl rfl gg (RnL.same (Qa1 (Qax Qaa _) G)) (RB.cells rfl rfl gg (RnL.same (Qa1 (Qax Qaa _) I)) (RB.cells rfl rfl gg (RnL.same (Qa1 (Qab _) rfl)) (RB.cells rfl rfl gg (RnL.same (Qa1 (Qb1 _) rfl)) RB.nil))))))|false=>
    have g:=V rfl;simp(disch:=first|omega|exact PairsOK.mk rfl|(simp only[lenW]<;>omega))only[Qac,Qad,Qae,Qah,Qal,Qap,wW,wV,simprocAttr];refine cp hrf ?_;simp(disch:=first|omega|exact PairsOK.mk rfl|(simp only[lenW]<;>omega))only[Qac,Qad,Qae,Qah,Qal,Qap,wW,wV,simprocAttr];have B:∀{x1 x2 x3 x4 x5 x6 x7 x8:Blk},(hp [(51,x1),(52,x2),(53,x3),(54,x4),(60,x5),(61,x6),(62,x7),(63,x8)]).get 150=none:=fun{x1 x2 x3 x4 x5 x6 x7 x8}=>by simp(disch:=omega)only[Qa4,Qk2,QaE,get_e]
    cases N:(gys c (ixT P t1) t2).find? fun y=>!(c.ev.getD y.1 ev0).c with|none=>
     rw[N]at g;replace g:(grs c i t).toList=[]:=g;refine QcV (n':=700) (b:=150) (T':=[(1,.ptr 51 0 0),(2,.ptr 53 0 0),(4,.fptr (gtG c p q P T)),(6,.ptr 52 0 0),(7,.ptr 54 0 0),(35,tuV T),(36,.int .i64 T.length),(37,.int .i64 i),(99,grF c (ixT P t1) t2)]) (L:=[(51,.cells 0 [evns c.ev,itsN c.cs,itsN c.rs,exsZ [],cosZ c.ks]),(52,.cells 0 [sliN q.al,.int .i64 (q.n:Int),sliN q.ms,egsN q.es,.sl 60 0 0 (i+1) 1,.sl 61 0 0 (i+1) 1,.sl 62 0 0 (i+1) 1,.sl 63 0 0 (gforb c i).length 4]),(53,.cells 0 [.nilsl,.int .i64 0,.nilsl,.nilsl,.nilsl,.nilsl,.nilsl,.nilsl]),(54,.cells 0 [.int .i64 (i:Int)]),(60,.cells 0 (LA.map sliN++[sliN t1])),(61,.cells 0 (LB.map sliN++[sliN t2])),(62,.cells 0 (ints (nz LP)++[.int .i64 (ixT P t1:Int)])),(63,.cells 0 ((gforb c i).flatMap rsC))]) ?_ rfl B rfl (Q (m:=1000) hk t2 hr2 U (fun _=>_) _ (gys c (ixT P t1) t2).length ?_ (Nat.le_refl _) ?_ (.inl ⟨rfl,rfl⟩)) gg ?_;·refine⟨[(51,.blk 51 0),(52,.blk 52 0),(53,.blk 53 0),(54,.blk 204 0),(60,.blk 60 1),(61,.blk 61 1),(62,.blk 62 1),(63,.blk 63 0)],rfl,RO.zero,?_,RT.cons (Rn.x2 rfl rfl) (RT.cons (Rn.x2 rfl rfl) (RT.cons (Rn.same R) (RT.cons (Rn.x2 rfl rfl) (RT.cons (Rn.x2 rfl rfl) (RT.cons (Rn.same u) (RT.cons (Rn.same rfl) (RT.cons (Rn.same rfl) (RT.cons (Rn.same (Qge _ _ _)) RT.nil))))))))⟩;exact RB.cells rfl rfl gg (RnL.same w) (RB.cells rfl rfl gg (RnL.cons (Rn.same (Qaa _)) (RnL.cons (Rn.same rfl) (RnL.cons (Rn.same (Qaa _)) (RnL.cons (Rn.same (Qaj _)) (RnL.cons (Rn.x1 rfl rfl) (RnL.cons (Rn.x1 rfl rfl) (RnL.cons (Rn.x1 rfl rfl) (RnL.cons (Rn.x1 rfl rfl) RnL.nil)))))))) (RB.cells rfl rfl gg (RnL.same rfl) (RB.cells rfl rfl gg (RnL.same rfl) (RB.cells rfl rfl gg (RnL.same (Qa1 (Qax Qaa _) G)) (RB.cells rfl rfl gg (RnL.same (Qa1 (Qax Qaa _) I)) (RB.cells rfl rfl gg (RnL.same (Qa1 (Qab _) rfl)) (RB.cells rfl rfl gg (RnL.same (Qb1 _)) RB.nil)))))))
     ·exact(by repeat(first|exact Fresh.e|exact Fresh.le (by assumption) (by omega)|refine Fresh.set ?_ (by omega) (by omega)))
     ·intro j y hj hy;have d:=QlT h (List.mem_of_getElem? hy);have f:(c.ev.getD y.1 ev0).c=true:=by simpa using List.find?_eq_none.1 N y (List.mem_of_getElem? hy)
      obtain⟨E,o⟩:=Qav d;have l:=Qed o;have C:5<=((c.ev.flatMap evnC).drop (y.1*5)).length:=by rw[l];simp
      rw[Qa5 o]at f;refine RSpec.of_wS (n:=300) rfl gg rfl rfl rfl ?_;simp(disch:=first|omega|exact PairsOK.mk rfl|(simp only[lenW]<;>omega))only[upsT,f,d,l,C,Qac,Qad,Qae,Qah,Qal,Qap,wW,wV,simprocAttr];exact⟨rfl,fun x=>set3 rfl⟩
     unfold leftQ;simp(disch:=first|omega|exact PairsOK.mk rfl|(simp only[lenW]<;>omega))only[Qac,Qad,Qae,Qah,Qal,Qap,wW,wV,simprocAttr];refine⟨i+1,by omega,by omega,?_⟩;rw[Z,X,hip,hsi,J,g,List.append_nil,QaV,QaK];refine⟨[(51,.blk 51 0),(52,.blk 52 0),(53,.blk 53 0),(60,.blk 60 0),(61,.blk 61 0),(62,.blk 62 0),(63,.blk 63 0)],rfl,RO.zero,?_,RT.cons (Rn.x2 rfl rfl) (RT.cons (Rn.x2 rfl rfl) (RT.cons (Rn.same R) (RT.cons (Rn.x2 rfl rfl) (RT.cons (Rn.same u) au28))))⟩;exact RB.cells rfl rfl gg (RnL.same w) (RB.cells rfl rfl gg (RnL.cons (Rn.same (Qaa _)) (RnL.cons (Rn.same rfl) (RnL.cons (Rn.same (Qaa _)) (RnL.cons (Rn.same (Qaj _)) (RnL.cons (Rn.x1 rfl rfl) (RnL.cons (Rn.x1 rfl rfl) (RnL.cons (Rn.x1 rfl rfl) (RnL.cons (Rn.x1 rfl rfl) RnL.nil)))))))) (RB.cells rfl rfl gg (RnL.same rfl) (RB.cells rfl rfl gg (RnL.same (Qa1 (Qax Qaa _) G)) (RB.cells rfl rfl gg (RnL.same (Qa1 (Qax Qaa _) I)) (RB.cells rfl rfl gg (RnL.same (Qa1 (Qab _) rfl)) (RB.cells rfl rfl gg (RnL.same (Qb1 _)) RB.nil))))))|some y=>
     rw[N]at g;replace g:(grs c i t).toList=[(i,3,y.2,(y.1:Int))]:=g;obtain⟨n,F,hn2',hn3'⟩:=QlS N;have hlen:n<(gys c (ixT P t1) t2).length:=(List.getElem?_eq_some_iff.1 F).1;have d:=QlT h (List.mem_of_getElem? F);have f:(c.ev.getD y.1 ev0).c=false:=by simpa using hn2'
     obtain⟨E,o⟩:=Qav d;have l:=Qed o;have C:5<=((c.ev.flatMap evnC).drop (y.1*5)).length:=by rw[l];simp
     rw[Qa5 o]at f;refine QcV (n':=700) (b:=150) (T':=[(1,.ptr 51 0 0),(2,.ptr 53 0 0),(4,.fptr (gtG c p q P T)),(6,.ptr 52 0 0),(7,.ptr 54 0 0),(35,tuV T),(36,.int .i64 T.length),(37,.int .i64 i),(99,grF c (ixT P t1) t2)]) (L:=[(51,.cells 0 [evns c.ev,itsN c.cs,itsN c.rs,exsZ [],cosZ c.ks]),(52,.cells 0 [sliN q.al,.int .i64 (q.n:Int),sliN q.ms,egsN q.es,.sl 60 0 0 (i+1) 1,.sl 61 0 0 (i+1) 1,.sl 62 0 0 (i+1) 1,.sl 63 0 0 (gforb c i).length 4]),(53,.cells 0 [.nilsl,.int .i64 0,.nilsl,.nilsl,.nilsl,.nilsl,.nilsl,.nilsl]),(54,.cells 0 [.int .i64 (i:Int)]),(60,.cells 0 (LA.map sliN++[sliN t1])),(61,.cells 0 (LB.map sliN++[sliN t2])),(62,.cells 0 (ints (nz LP)++[.int .i64 (ixT P t1:Int)])),(63,.cells 0 ((gforb c i).flatMap rsC))]) (st:=.done (.exit 2)) ?hrec rfl B rfl (Q (m:=1000) hk t2 hr2 U (fun _=>_) (((((hp [(51,.cells 0 [evns c.ev,itsN c.cs,itsN c.rs,exsZ [],cosZ c.ks]),(52,.cells 0 [sliN q.al,.int .i64 (q.n:Int),sliN q.ms,egsN q.es,.sl 60 0 0 (i+1) 1,.sl 61 0 0 (i+1) 1,.sl 62 0 0 (i+1) 1,.sl 63 0 0 (gforb c i).length 4]),(53,.cells 0 [.nilsl,.int .i64 0,.nilsl,.nilsl,.nilsl,.nilsl,.nilsl,.nilsl]),(54,.cells 0 [.int .i64 (i:Int)]),(60,.cells 0 (LA.map sliN++[sliN t1])),(61,.cells 0 (LB.map sliN++[sliN t2])),(62,.cells 0 (ints (nz LP)++[.int .i64 (ixT P t1:Int)])),(63,.cells 0 ((gforb c i).flatMap rsC))]).set 315 (.cells 0 (rsC (i,3,y.2,(y.1:Int))))).set 63 (.cells 1 ((gforb c i).flatMap rsC++rsC (i,3,y.2,(y.1:Int))))).set 52 (.cells 0 [sliN q.al,.int .i64 (q.n:Int),sliN q.ms,egsN q.es,.sl 60 0 0 (i+1) 1,.sl 61 0 0 (i+1) 1,.sl 62 0 0 (i+1) 1,.sl 63 1 0 ((gforb c i).length+1) 4])).set 150 (.loop 0 120 [(1,.ptr 51 0 0),(2,.ptr 53 0 0),(4,.fptr (gtG c p q P T)),(6,.ptr 52 0 0),(7,.ptr 54 0 0),(35,tuV T),(36,.int .i64 T.length),(37,.int .i64 i),(99,grF c (ixT P t1) t2)] [100,101] (.s lpA) (.s lpB) (.done (.exit 2)))) n ?hfr (Nat.le_of_lt hlen) ?hY (.inr ⟨y,F,?R⟩)) gg ?hQ;case hrec=>refine⟨[(51,.blk 51 0),(52,.blk 52 0),(53,.blk 53 0),(54,.blk 204 0),(60,.blk 60 1),(61,.blk 61 1),(62,.blk 62 1),(63,.blk 63 0)],rfl,RO.zero,?_,RT.cons (Rn.x2 rfl rfl) (RT.cons (Rn.x2 rfl rfl) (RT.cons (Rn.same R) (RT.cons (Rn.x2 rfl rfl) (RT.cons (Rn.x2 rfl rfl) (RT.cons (Rn.same u) (RT.cons (Rn.same rfl) (RT.cons (Rn.same rfl) (RT.cons (Rn.same (Qge _ _ _)) RT.nil))))))))⟩;exact RB.cells rfl rfl gg (RnL.same w) (RB.cells rfl rfl gg (RnL.cons (Rn.same (Qaa _)) (RnL.cons (Rn.same rfl) (RnL.cons (Rn.same (Qaa _)) (RnL.cons (Rn.same (Qaj _)) (RnL.cons (Rn.x1 rfl rfl) (RnL.cons (Rn.x1 rfl rfl) (RnL.cons (Rn.x1 rfl rfl) (RnL.cons (Rn.x1 rfl rfl) RnL.nil)))))))) (RB.cells rfl rfl gg (RnL.same rfl) (RB.cells rfl rfl gg (RnL.same rfl) (RB.cells rfl rfl gg (RnL.same (Qa1 (Qax Qaa _) G)) (RB.cells rfl rfl gg (RnL.same (Qa1 (Qax Qaa _) I)) (RB.cells rfl rfl gg (RnL.same (Qa1 (Qab _) rfl)) (RB.cells rfl rfl gg (RnL.same (Qb1 _)) RB.nil)))))))
     case hfr=>exact(by repeat(first|exact Fresh.e|exact Fresh.le (by assumption) (by omega)|refine Fresh.set ?_ (by omega) (by omega)))
     case hY=>
      intro j z hj hz;have d:=QlT h (List.mem_of_getElem? hz);have f:(c.ev.getD z.1 ev0).c=true:=by simpa using hn3' j z hj hz
      obtain⟨E,o⟩:=Qav d;have l:=Qed o;have C:5<=((c.ev.flatMap evnC).drop (z.1*5)).length:=by rw[l];simp
      rw[Qa5 o]at f;refine RSpec.of_wS (n:=300) rfl gg rfl rfl rfl ?_;simp(disch:=first|omega|exact PairsOK.mk rfl|(simp only[lenW]<;>omega))only[upsT,f,d,l,C,Qac,Qad,Qae,Qah,Qal,Qap,wW,wV,simprocAttr];exact⟨rfl,fun x=>set3 rfl⟩
     case R=>refine RSpec.of_wS (n:=300) rfl gg rfl rfl rfl ?_;simp(disch:=first|omega|exact PairsOK.mk rfl|(simp only[lenW]<;>omega))only[upsT,f,d,l,C,L,Qac,Qad,Qae,Qah,Qal,Qap,wW,wV,simprocAttr];exact⟨rfl,fun x=>set6 rfl⟩
     case hQ=>unfold leftQ;refine⟨rfl,?_⟩;simp(disch:=first|omega|exact PairsOK.mk rfl|(simp only[lenW]<;>omega))only[Qac,Qad,Qae,Qah,Qal,Qap,wW,wV,simprocAttr];refine⟨i+1,by omega,by omega,?_⟩;rw[Z,X,hip,hsi,J,g,hfa,List.length_append,QaV,QaK];refine⟨[(51,.blk 51 0),(52,.blk 52 0),(53,.blk 53 0),(60,.blk 60 0),(61,.blk 61 0),(62,.blk 62 0),(63,.blk 63 1)],rfl,RO.zero,?_,RT.cons (Rn.x2 rfl rfl) (RT.cons (Rn.x2 rfl rfl) (RT.cons (Rn.same R) (RT.cons (Rn.x2 rfl rfl) (RT.cons (Rn.same u) au28))))⟩;exact RB.cells rfl rfl gg (RnL.same w) (RB.cells rfl rfl gg (RnL.cons (Rn.same (Qaa _)) (RnL.cons (Rn.same rfl) (RnL.cons (Rn.same (Qaa _)) (RnL.cons (Rn.same (Qaj _)) (RnL.cons (Rn.x1 rfl rfl) (RnL.cons (Rn.x1 rfl rfl) (RnL.cons (Rn.x1 rfl rfl) (RnL.cons (Rn.x1 rfl rfl) RnL.nil)))))))) (RB.cells rfl rfl gg (RnL.same rfl) (RB.cells rfl rfl gg (RnL.same (Qa1 (Qax Qaa _) G)) (RB.cells rfl rfl gg (RnL.same (Qa1 (Qax Qaa _) I)) (RB.cells rfl rfl gg (RnL.same (Qa1 (Qab _) rfl)) (RB.cells rfl rfl gg (RnL.same (Qa1 (Qb1 _) rfl)) RB.nil))))))
  have e:i=T.length:=by omega
  subst e;have hla:((gpA c T).map sliN).length=T.length:=by unfold gpA;simp
  have hlb:((gpB c T).map sliN).length=T.length:=by unfold gpB;simp
  have hlp:(ints (nz (gpP c P T))).length=T.length:=by unfold gpP;simp[ints]
  have L:=QpM (gforb c T.length);simp(disch:=first|omega|exact PairsOK.mk rfl|(simp only[lenW]<;>omega))only[hlt,List.take_length,Qac,Qad,Qae,Qah,Qal,Qap,wW,wV,simprocAttr];refine⟨(),[(52,.blk 52 0),(53,.blk 53 0)],rfl,RO.zero,?_,RT.cons (Rn.x2 rfl rfl) (RT.cons (Rn.x2 rfl rfl) RT.nil)⟩;exact RB.cells rfl rfl gg (RnL.cons (Rn.same (Qaa _)) (RnL.cons (Rn.same rfl) (RnL.cons (Rn.same (Qaa _)) (RnL.cons (Rn.same (Qaj _)) (RnL.cons (Rn.fzm (b:=60) (g:=0) gg rfl rfl (by simp[gpA]) (by simpa using hla) (RnL.same (Qax Qaa _))) (RnL.cons (Rn.fzm (b:=61) (g:=0) gg rfl rfl (by simp[gpB]) (by simpa using hlb) (RnL.same (Qax Qaa _))) (RnL.cons (Rn.fzm (b:=62) (g:=0) gg rfl rfl (by simp[gpP]) (by simpa using hlp) (RnL.same (Qab _))) (RnL.cons (Rn.fzm (b:=63) (g:=0) gg rfl rfl rfl L (RnL.same (Qb1 _))) RnL.nil)))))))) (RB.cells rfl rfl gg (RnL.same rfl) RB.nil)
 rintro _ _;simp(disch:=first|omega|exact PairsOK.mk rfl|(simp only[lenW]<;>omega))only[Qac,Qad,Qae,Qah,Qal,Qap,wW,wV,simprocAttr];exact⟨.inr trivial,_,rfl,Rn.same hns⟩
end Go.AM.SO
namespace Go.AM.OE
open Go.Proofs
set_option maxHeartbeats 4000000
noncomputable section
def cf:YA.Cf:={most:=.pure,value:=.pure}
def s27:SFn:=by
 refine(?f:YA.Yt Tryz.prog cf 27 [[4,5],[10,11],[12],[0,1,6,13,14],[4,5,6,13,15,16],[1,7,18,19,20,17,21,22],[9,23],[0,8,24],[0,8,24,25,26,27]]) ?s ?h;case h=>exact YA.rr
 exact fun s _=>s
def s48:SFn:=by
 refine(?f:YA.Yt Tryz.prog cf 48 [[0,2],[1,3,4,5]]) ?s ?h;case h=>exact YA.rr
 exact fun s _=>s
def s53:SFn:=by
 refine(?f:YA.Yt Tryz.prog cf 53 [[4],[],[0],[],[11,12,13,14],[7,15,16],[6,17,18,19,20,21],[6,17,22],[1,5,8,9,10,23]]) ?s ?h;case h=>exact YA.rr
 exact fun s _=>s
theorem ok27:okFn Tryz.prog 27 s27=true:=by kernel_rfl
theorem ok48:okFn Tryz.prog 48 s48=true:=by kernel_rfl
theorem ok53:okFn Tryz.prog 53 s53=true:=by kernel_rfl
end
end Go.AM.OE
namespace Go.AM.TY
open Go.Proofs
set_option maxHeartbeats 4000000
noncomputable section
def cf:YA.Cf:={most:=.pure}
def s9:SFn:=by
 refine(?f:YA.Yt Tryz.prog cf 9 [[0,4],[12,13,11,14,15],[16],[1,5,6,17,18,19,20],[4,6,17],[21],[],[25,26,27],[9,28,29,30,31,32],[33],[1,22,23,24,35,36,37,34,38,39],[40],[5,7,10,6,41,42,43,44],[5,7,10,6,41,45,46,47,48,49,50]]) ?s ?h;case h=>exact YA.rr
 exact fun s _=>s
theorem ok9:okFn Tryz.prog 9 s9=true:=by kernel_rfl
end
end Go.AM.TY
namespace Go.AM.SO
open Go.Proofs Go.AM.SD Go.AM.SE
def fbs(l:List (Nat×Int×Int×Int)):List Nat:=l.map (·.1)
theorem QqL{l:List (Nat×Int×Int×Int)}{i:Nat}{x:Nat×Int×Int×Int}(h:l[i]?=some x):(l.flatMap rsC).drop (i*4)=.int .i64 (x.1:Int)::.int .i64 x.2.1::.int .i64 x.2.2.1::.int .i64 x.2.2.2::(l.drop (i+1)).flatMap rsC:=Qbq (f:=rsC) (k:=4) (fun _=>rfl) h
theorem QqM{l:List (Nat×Int×Int×Int)}{i:Nat}{x:Nat×Int×Int×Int}(h:l[i]?=some x):fbs (l.take (i+1))=fbs (l.take i)++[x.1]:=by unfold fbs;rw[take_succ' h,List.map_append];rfl
theorem QrI{l:List (Nat×Int×Int×Int)}{i:Nat}(h:i<=l.length):(fbs (l.take i)).length=i:=by unfold fbs;rw[List.length_map,List.length_take];omega
abbrev ni9:List AV:=[.nilsl,.nilsl,.nilsl,.int .i64 0,.nilsl,.int .i64 0,.nilsl,.nilsl,.nilsl]
abbrev ni8:List AV:=[.nilsl,.int .i64 0,.nilsl,.nilsl,.nilsl,.nilsl,.nilsl,.nilsl]
end Go.AM.SO
namespace Go.AM.SO
open Go.Proofs Go.AM.SD Go.AM.SE
def uncG(e:List Evn)(n:Nat):List Nat:=(List.range n).filter fun i=>!(e.getD i ev0).c
theorem QqN(e:List Evn)(n:Nat):uncG e (n+1)=uncG e n++if(e.getD n ev0).c then[]else[n]:=by unfold uncG;rw[List.range_succ,List.filter_append];congr 1;rw[List.filter_cons];cases h:(e.getD n ev0).c<;>rfl
theorem QrJ(e:List Evn)(n:Nat):(uncG e n).length<=n:=by have:=List.length_filter_le (fun i=>!(e.getD i ev0).c) (List.range n);rwa[List.length_range]at this
theorem unc104(x:Evn):PSpec Tryz.prog 48 [.agg [.str x.nm,.bool x.c,.bool x.o,.bool x.f,.int .i64 x.flt]] (.bool (!x.c)):=by refine PSpec.QaB 64 OE.ok48 rfl rfl rfl ?_;cases h:x.c;all_goals simp(disch:=first|omega|exact PairsOK.mk rfl|(simp only[lenW]<;>omega))only[OE.s48,h,Qac,Qad,Qae,Qah,Qal,Qap,wW,wV,simprocAttr];exact⟨.inr trivial,_,rfl,rfl⟩
theorem gchosen109(e:List Evn)(l:e.length<=32):PSpec Tryz.prog 53 [evns e,.fn 48 [] []] (sliN (uncG e e.length)):=by
 have f:=Qcf e;refine PSpec.of_rn 64 OE.ok53 rfl (by simp only[noRefs,noRef,f];rfl) (Qaa _) ?_;simp(disch:=first|omega|exact PairsOK.mk rfl|(simp only[lenW]<;>omega))only[OE.s53,Qac,Qad,Qae,Qah,Qal,Qap,wW,wV,simprocAttr];refine Qay 100 (fun i:Nat=>[(1,.fn 48 [] []),(5,.sl 76 0 0 (uncG e i).length 1),(8,evns e),(9,.int .i64 e.length),(10,.int .i64 i)]) (fun i=>[(76,.cells 0 (ints (nz (uncG e i))))]) (fun i=>i<=e.length) (fun i=>e.length-i) 0 0 160 (fun _:Unit=>[(5,sliN (uncG e e.length))]) (fun _=>[]) (fun _=>True) ?_ (Nat.zero_le _) ?_ ?_;·refine⟨[(76,.nil)],rfl,au0,?_,au28⟩;exact RB.newnil rfl rfl RB.nil
 ·rintro i hi;have k:=QrJ e i;by_cases b:i<e.length
  ·obtain⟨x,g⟩:=Qav b;have c:=Qed g;have d:5<=((e.flatMap evnC).drop (i*5)).length:=by rw[c];simp
   have a:=QqN e i;have hc:=unc104 x;rw[Qa5 g]at a;cases h:x.c;·rw[h]at a;simp(disch:=first|omega|exact PairsOK.mk rfl|(simp only[lenW]<;>omega))only[b,c,d,Qac,Qad,Qae,Qah,Qal,Qap,wW,wV,simprocAttr];refine cp hc ?_;simp(disch:=first|omega|exact PairsOK.mk rfl|(simp only[lenW]<;>omega))only[h,Qac,Qad,Qae,Qah,Qal,Qap,wW,wV,simprocAttr];refine⟨i+1,by omega,by omega,?_⟩;rw[a,if_neg (by simp),List.length_append,QaV,QaK];refine⟨[(76,.blk 76 1)],rfl,au0,?_,au28⟩;exact RB.cells rfl rfl gg (RnL.same (SU.Qa8 (Qab _) rfl)) RB.nil
   rw[h]at a;simp(disch:=first|omega|exact PairsOK.mk rfl|(simp only[lenW]<;>omega))only[b,c,d,Qac,Qad,Qae,Qah,Qal,Qap,wW,wV,simprocAttr];refine cp hc ?_;simp(disch:=first|omega|exact PairsOK.mk rfl|(simp only[lenW]<;>omega))only[h,Qac,Qad,Qae,Qah,Qal,Qap,wW,wV,simprocAttr];refine⟨i+1,by omega,by omega,?_⟩;rw[a,if_pos rfl,List.append_nil];refine⟨[(76,.blk 76 0)],rfl,au0,?_,au28⟩;exact RB.cells rfl rfl gg (RnL.same (Qab _)) RB.nil
  have j:i=e.length:=by omega
  subst j;simp(disch:=first|omega|exact PairsOK.mk rfl|(simp only[lenW]<;>omega))only[b,Qac,Qad,Qae,Qah,Qal,Qap,wW,wV,simprocAttr];refine⟨(),?_⟩;exact⟨[],rfl,RO.zero,RB.nil,RT.cons (Rn.fzm (b:=76) (g:=0) gg rfl rfl (by simp) (by simp[ints]) (RnL.same (Qab _))) RT.nil⟩
 rintro _ _;simp(disch:=first|omega|exact PairsOK.mk rfl|(simp only[lenW]<;>omega))only[Qac,Qad,Qae,Qah,Qal,Qap,wW,wV,simprocAttr];exact⟨.inr trivial,_,rfl,Rn.same (Qaa _)⟩
theorem gselect47(e:List Evn)(c:e.length<=32)(b:PSpec Tryz.prog 46 [evns e] (.int .i64 0)):PSpec Tryz.prog 27 [evns e,.int .i64 2] (.tup [sliN (uncG e e.length),.int .i64 0]):=by have a:=Qc7 e;refine PSpec.of_rn 64 OE.ok27 rfl (by simp only[noRefs,a];rfl) (by simp only[noRef,noRefs,Qab];rfl) ?_;have hH:=gchosen109 e c;simp(disch:=first|omega|exact PairsOK.mk rfl|(simp only[lenW]<;>omega))only[OE.s27,Qac,Qad,Qae,Qah,Qal,Qap,wW,wV,simprocAttr];refine cp b ?_;simp(disch:=first|omega|exact PairsOK.mk rfl|(simp only[lenW]<;>omega))only[Qac,Qad,Qae,Qah,Qal,Qap,wW,wV,simprocAttr];refine QbP ?_;simp(disch:=first|omega|exact PairsOK.mk rfl|(simp only[lenW]<;>omega))only[Qac,Qad,Qae,Qah,Qal,Qap,wW,wV,simprocAttr];refine QcB (f:=fun _=>.any) (l:=[]) (x:=1) (by simp) (by decide) ?_;simp(disch:=first|omega|exact PairsOK.mk rfl|(simp only[lenW]<;>omega))only[Qac,Qad,Qae,Qah,Qal,Qap,wW,wV,simprocAttr];refine QbP ?_;simp(disch:=first|omega|exact PairsOK.mk rfl|(simp only[lenW]<;>omega))only[Qac,Qad,Qae,Qah,Qal,Qap,wW,wV,simprocAttr];refine QcB (x:=2) (by simp) (by decide) ?_;simp(disch:=first|omega|exact PairsOK.mk rfl|(simp only[lenW]<;>omega))only[Qac,Qad,Qae,Qah,Qal,Qap,wW,wV,simprocAttr];refine QbP ?_;simp(disch:=first|omega|exact PairsOK.mk rfl|(simp only[lenW]<;>omega))only[Qac,Qad,Qae,Qah,Qal,Qap,wW,wV,simprocAttr];refine QcB (x:=3) (by simp) (by decide) ?_;simp(disch:=first|omega|exact PairsOK.mk rfl|(simp only[lenW]<;>omega))only[Qac,Qad,Qae,Qah,Qal,Qap,wW,wV,simprocAttr];refine QbP ?_;simp(disch:=first|omega|exact PairsOK.mk rfl|(simp only[lenW]<;>omega))only[Qac,Qad,Qae,Qah,Qal,Qap,wW,wV,simprocAttr];refine QcB (x:=4) (by simp) (by decide) ?_;simp(disch:=first|omega|exact PairsOK.mk rfl|(simp only[lenW]<;>omega))only[Qac,Qad,Qae,Qah,Qal,Qap,wW,wV,simprocAttr];refine QbP ?_;simp(disch:=first|omega|exact PairsOK.mk rfl|(simp only[lenW]<;>omega))only[Qac,Qad,Qae,Qah,Qal,Qap,wW,wV,simprocAttr];refine QcB (x:=5) (by simp) (by decide) ?_;simp(disch:=first|omega|exact PairsOK.mk rfl|(simp only[lenW]<;>omega))only[Qac,Qad,Qae,Qah,Qal,Qap,wW,wV,simprocAttr];refine QbP ?_;simp(disch:=first|omega|exact PairsOK.mk rfl|(simp only[lenW]<;>omega))only[Qac,Qad,Qae,Qah,Qal,Qap,wW,wV,simprocAttr];refine QcB (x:=6) (by simp) (by decide) ?_;simp(disch:=first|omega|exact PairsOK.mk rfl|(simp only[lenW]<;>omega))only[Qac,Qad,Qae,Qah,Qal,Qap,wW,wV,simprocAttr];refine Qdq ?_;simp(disch:=first|omega|exact PairsOK.mk rfl|(simp only[lenW]<;>omega))only[Qac,Qad,Qae,Qah,Qal,Qap,wW,wV,simprocAttr];refine wK_in (x:=2) (by simp) ?_;have hu:updF (updF (updF (updF (updF (updF (fun _=>.any) 1 (.fn 47 [] [])) 2 (.fn 48 [] [])) 3 (.fn 49 [] [])) 4 (.fn 50 [] [])) 5 (.fn 51 [] [])) 6 (.fn 52 [] []) 2=.fn 48 [] []:=rfl;simp(disch:=first|omega|exact PairsOK.mk rfl|(simp only[lenW]<;>omega))only[hu,Qac,Qad,Qae,Qah,Qal,Qap,wW,wV,simprocAttr];refine cp hH ?_;simp(disch:=first|omega|exact PairsOK.mk rfl|(simp only[lenW]<;>omega))only[Qac,Qad,Qae,Qah,Qal,Qap,wW,wV,simprocAttr];exact⟨.inr trivial,_,rfl,Rn.same (by simp only[noRef,noRefs,Qab];rfl)⟩
theorem WfG.evErr{c:CelA}(h:WfG c):evErr c.ev=0:=by
 have:=h.er;unfold celErr at this;split at this;·rename_i q;exact absurd this q
 rename_i q;exact Decidable.not_not.1 q
theorem WfG.ev32{c:CelA}(h:WfG c):c.ev.length<=32:=QjW h.evErr
theorem WfG.ev102{c:CelA}(h:WfG c):PSpec Tryz.prog 46 [evns c.ev] (.int .i64 0):=by have:=check82X c.ev h.ok.el h.ok.en;rwa[h.evErr]at this
theorem Qnp(e:List Evn)(h:e.length<=32):(uncG e e.length).Pairwise (·<·)/\∀x∈uncG e e.length,x<32:=by refine⟨List.pairwise_lt_range.filter _,fun x a=>?_⟩;have:=List.mem_range.1 (List.mem_filter.1 a).1;omega
abbrev gfbd(c:CelA):List Nat:=fbs (gforb c (sync0 (allN c)).1.length)
theorem QqO{c:CelA}{i:Nat}{x:Nat×Int×Int×Int}(h:x∈grsO c i):x.1=i:=by
 unfold grsO grs at h;split at h;·simp at h;rw[h]
 simp at h;obtain⟨a,b,_,rfl⟩:=h;rfl
theorem QiL(c:CelA):∀n,(fbs (gforb c n)).Pairwise (·<·)/\∀x∈fbs (gforb c n),x<n
 |0=>by simp[gforb,fbs]|n+1=>by
  obtain⟨h1,d⟩:=QiL c n;rw[Qfo];unfold fbs at h1 d⊢;rw[List.map_append];have hm:∀x∈(grsO c n).map (·.1),x=n:=fun x a=>by obtain⟨y,b,rfl⟩:=List.mem_map.1 a;exact QqO b
  have f:((grsO c n).map (·.1)).Pairwise (·<·):=by unfold grsO;cases grs c n _<;>simp
  refine⟨List.pairwise_append.2 ⟨h1,f,fun x a y b=>?_⟩,fun x a=>?_⟩;·rw[hm y b];exact d x a
  rcases List.mem_append.1 a with a|a;·have:=d x a;omega
  rw[hm x a];omega
theorem qokG(c:CelA)(h:WfG c):QOk (syncA (allN c)) (gfbd c) (uncG c.ev c.ev.length):=⟨(QiL c _).1,(QiL c _).2,(Qnp _ h.ev32).1,(Qnp _ h.ev32).2⟩
theorem wfAG(c:CelA)(h:WfG c):WfA (syncA (allN c)):=Qef h.all h.ql
def resG(c:CelA):Res:=pRes (syncA (allN c)) (gfbd c) (uncG c.ev c.ev.length) true
theorem cellG(c:CelA)(h:WfG c):PSpec Tryz.prog 9 [celG c] (.tup [.agg (gpC c),SE.rsV (resG c),.int .i64 0]):=by
 have d:=QbQ c;have a:noRefs (gpC c)=true:=Qim _ _ _ _;refine PSpec.of_rn 64 TY.ok9 rfl (by rw[noRefs,QcC];rfl) (by rw[noRef,noRefs,noRef,a,noRefs,Qf6];rfl) ?_;have hO:=specG c h;have m:=gselect47 c.ev h.ev32 h.ev102;have hw:=wfAG c h;have s:=WfA.el1 hw;have o:=result39 (syncA (allN c)) (gfbd c) (uncG c.ev c.ev.length) true hw (qokG c h) (by omega);have j:=Qf6 (pRes (syncA (allN c)) (gfbd c) (uncG c.ev c.ev.length) true);have hle:=Qgf c (sync0 (allN c)).1.length;have u:(sync0 (allN c)).1.length<=4096:=hw.n5;have p:(syncA (allN c)).n=(sync0 (allN c)).1.length:=rfl;unfold resG;rw[gpC,gpG]at hO a⊢;unfold gfbd at*;generalize gforb c (sync0 (allN c)).1.length=L at*;generalize pRes (syncA (allN c)) (fbs L) (uncG c.ev c.ev.length) true=R at*;generalize syncA (allN c)=q at*;generalize(sync0 (auN c.cs)).1=P at*;generalize(sync0 (allN c)).1=T at*;have r:(gpA c T).length=T.length:=by simp[gpA]
 have t:(gpB c T).length=T.length:=by simp[gpB]
 simp(disch:=first|omega|exact PairsOK.mk rfl|(simp only[lenW]<;>omega))only[TY.s9,Qac,Qad,Qae,Qah,Qal,Qap,wW,wV,simprocAttr];refine cp hO ?_;simp(disch:=first|omega|exact PairsOK.mk rfl|(simp only[lenW]<;>omega))only[Qac,Qad,Qae,Qah,Qal,Qap,wW,wV,simprocAttr];refine Qay 140 (fun i:Nat=>[(1,.ptr 51 0 0),(2,.ptr 53 0 0),(3,.ptr 54 0 0),(5,.ptr 52 0 0),(7,.sl 76 0 0 i 1),(22,rss L),(23,.int .i64 L.length),(24,.int .i64 i)]) (fun i=>[(51,.cells 0 [evns c.ev,itsN c.cs,itsN c.rs,exsZ [],cosZ c.ks]),(52,.cells 0 [sliN q.al,.int .i64 (q.n:Int),sliN q.ms,egsN q.es,tuV (gpA c T),tuV (gpB c T),sliN (gpP c P T),rss L]),(53,.cells 0 ni8),(54,.cells 0 ni9),(76,.cells 0 (ints (nz (fbs (L.take i)))))]) (fun i=>i<=L.length) (fun i=>L.length-i) 0 0 200 (fun _:Unit=>[(1,.ptr 51 0 0),(2,.ptr 53 0 0),(3,.ptr 54 0 0),(5,.ptr 52 0 0),(7,sliN (fbs L))]) (fun _=>[(51,.cells 0 [evns c.ev,itsN c.cs,itsN c.rs,exsZ [],cosZ c.ks]),(52,.cells 0 [sliN q.al,.int .i64 (q.n:Int),sliN q.ms,egsN q.es,tuV (gpA c T),tuV (gpB c T),sliN (gpP c P T),rss L]),(53,.cells 0 ni8),(54,.cells 0 ni9)]) (fun _=>True) ?_ (Nat.zero_le _) ?_ ?_;·refine⟨[(51,.blk 64 0),(52,.blk 73 0),(53,.blk 65 0),(54,.blk 66 0),(76,.nil)],rfl,au0,?_,au28⟩;exact RB.cells rfl rfl gg (RnL.same d) (RB.cells rfl rfl gg (RnL.same a) (RB.cells rfl rfl gg (RnL.same rfl) (RB.cells rfl rfl gg (RnL.same rfl) (RB.newnil rfl rfl RB.nil))))
 ·rintro i hi;by_cases b:i<L.length
  ·obtain⟨x,l⟩:=Qav b;have f:=QqL l;have g:4<=((L.flatMap rsC).drop (i*4)).length:=by rw[f];simp
   have k:(ints (nz (fbs (L.take i)))).length=i:=by simp[ints,QrI (show i<=L.length by omega)]
   simp(disch:=first|omega|exact PairsOK.mk rfl|(simp only[lenW]<;>omega))only[b,f,g,k,Qac,Qad,Qae,Qah,Qal,Qap,wW,wV,simprocAttr];refine⟨i+1,by omega,by omega,?_⟩;rw[QqM l,QaV,QaK];refine⟨[(51,.blk 51 0),(52,.blk 52 0),(53,.blk 53 0),(54,.blk 54 0),(76,.blk 76 1)],rfl,au0,?_,au28⟩;exact RB.cells rfl rfl gg (RnL.same d) (RB.cells rfl rfl gg (RnL.same a) (RB.cells rfl rfl gg (RnL.same rfl) (RB.cells rfl rfl gg (RnL.same rfl) (RB.cells rfl rfl gg (RnL.same (Qa1 (Qab _) rfl)) RB.nil))))
  have e:i=L.length:=by omega
  subst e;simp(disch:=first|omega|exact PairsOK.mk rfl|(simp only[lenW]<;>omega))only[b,List.take_length,Qac,Qad,Qae,Qah,Qal,Qap,wW,wV,simprocAttr];refine⟨(),?_⟩;exact⟨[(51,.blk 51 0),(52,.blk 52 0),(53,.blk 53 0),(54,.blk 54 0)],rfl,RO.zero,RB.cells rfl rfl gg (RnL.same d) (RB.cells rfl rfl gg (RnL.same a) (RB.cells rfl rfl gg (RnL.same rfl) (RB.cells rfl rfl gg (RnL.same rfl) RB.nil))),RT.cons (Rn.x2 rfl rfl) (RT.cons (Rn.x2 rfl rfl) (RT.cons (Rn.x2 rfl rfl) (RT.cons (Rn.x2 rfl rfl) (RT.cons (Rn.fzm (b:=76) (g:=0) gg rfl rfl (by simp[fbs]) (by simp[ints,fbs]) (RnL.same (Qab _))) RT.nil))))⟩
 rintro _ _;simp(disch:=first|omega|exact PairsOK.mk rfl|(simp only[lenW]<;>omega))only[Qac,Qad,Qae,Qah,Qal,Qap,wW,wV,simprocAttr];refine cp m ?_;simp(disch:=first|omega|exact PairsOK.mk rfl|(simp only[lenW]<;>omega))only[Qac,Qad,Qae,Qah,Qal,Qap,wW,wV,simprocAttr];refine cp o ?_;simp(disch:=first|omega|exact PairsOK.mk rfl|(simp only[lenW]<;>omega))only[Qac,Qad,Qae,Qah,Qal,Qap,wW,wV,simprocAttr];refine⟨.inr trivial,_,rfl,Rn.same ?_⟩;rw[noRef,noRefs,noRef,a,noRefs,j];rfl
end Go.AM.SO
namespace Go.AM.SO
open Go.Proofs Go.AM.SD Go.AM.SE
def runA(es:List Ed):Nat->List Nat->Option Nat|s,[]=>some s|s,x::w=>match stepA es s x with|some n=>runA es n w|none=>none
def gen(a:Aut)(w:List Nat):Bool:=(runA a.es 0 w).isSome
def runT(l:List Aut):List Nat->List Nat->Option (List Nat)|t,[]=>some t|t,x::w=>match stepT l t x with|some n=>runT l n w|none=>none
theorem QlU{l:List Aut}{T:List (List Nat)}{j:Nat}{t:List Nat}{e:Nat}:∀{ev:List Nat},e∈ev->((rowE l ev T j t).find? fun x=>decide (x.2.1=e)).map (·.2.2)=(stepT l t e).map (ixT T)
 |[],h=>by cases h|y::ev,h=>by
  unfold rowE;rw[List.filterMap_cons];by_cases b:y=e;·subst b;cases d:stepT l t y with|some n=>simp|none=>show(((rowE l ev T j t).find? fun x=>decide (x.2.1=y)).map (·.2.2))=none;rw[Option.map_eq_none_iff,List.find?_eq_none];intro x g he;obtain⟨_,_,n,c,_⟩:=QdR g;rw[of_decide_eq_true he,d]at c;cases c
  have a:=QlU (l:=l) (T:=T) (j:=j) (t:=t) ((List.mem_cons.1 h).resolve_left fun f=>b f.symm);unfold rowE at a;cases d:stepT l t y with|some n=>simpa[b]using a|none=>simpa using a
end Go.AM.SO
namespace Go.AM.TU
open Go.Proofs
set_option maxHeartbeats 4000000
noncomputable section
def cf:YA.Cf:={most:=.pure,always:=[43].map fun k=>(k,.heap)}
def s11:SFn:=by
 refine(?f:YA.Yt Tryz.prog cf 11 [[0,4,5],[9,10],[11],[1,2,6,12,13],[4,5,1,2,6,12,15,16,17,14,18,19,7],[8,20]]) ?s ?h;case h=>exact YA.rr
 exact fun s _=>s
def s33:SFn:=by
 refine(?f:YA.Yt Tryz.prog cf 33 [[0,4,5],[8,9],[1,2,10],[4,5,2,10,12,13,14,11,15,16],[1,6,7,17,18,19,20,21]]) ?s ?h;case h=>exact YA.rr
 exact fun s _=>s
def s72:SFn:=by
 refine(?f:YA.Yt Tryz.prog cf 72 [[0,6,7],[],[],[14,15,16,17],[9,18,19,20,21],[22],[1,2,3,11,12,13,8,10,23,24,25],[6,7,8,10,23,26],[27],[1,2,3,11,12,13,28,29,30]]) ?s ?h;case h=>exact YA.rr
 exact fun s _=>s
theorem ok11:okFn Tryz.prog 11 s11=true:=by kernel_rfl
theorem ok33:okFn Tryz.prog 33 s33=true:=by kernel_rfl
theorem ok72:okFn Tryz.prog 72 s72=true:=by kernel_rfl
end
end Go.AM.TU
namespace Go.AM.SO
open Go.Proofs Go.AM.SD Go.AM.SE
def folA(es:List Ed):Nat->List Nat->Nat×Nat|s,[]=>(s,0)|s,x::w=>match stepA es s x with|some n=>((folA es n w).1,(folA es n w).2+1)|none=>(s,0)
theorem QlV{es:List Ed}:∀{w:List Nat}{s:Nat},(folA es s w).2<=w.length/\decide ((folA es s w).2=w.length)=(runA es s w).isSome|[],s=>⟨Nat.le_refl _,rfl⟩|x::w,s=>by unfold folA runA;cases b:stepA es s x with|none=>exact⟨Nat.zero_le _,rfl⟩|some n=>obtain⟨h1,a⟩:=@QlV es w n;refine⟨by simp;omega,?_⟩;simp only[List.length_cons];rw[<-a];exact decide_eq_decide.2 (by omega)
theorem _root_.Go.AM.au29{p:Prop}(h:p:=by repeat'(first|exact RB.nil|(refine RnL.same ?_;first|rfl|(simp only[noRef,noRefs,Qag,Bool.and_self,Bool.and_true,Bool.true_and,Qab,Qao,Qaa,Qaj,Qa0,Qaf,SU.Qf7];done))|exact RnM.keyM rfl|exact RnL.nil|exact(True.intro:RnM _ _ _ [] [])|refine RnL.cons ?_ ?_|(refine Rn.same ?_;first|rfl|(simp only[noRef,noRefs,Qag,Bool.and_self,Bool.and_true,Bool.true_and,Qab,Qao,Qaa,Qaj,Qa0,Qaf,SU.Qf7];done))|exact Rn.x1 rfl rfl|exact Rn.x2 rfl rfl|exact Rn.x3 rfl rfl|exact Rn.x4 rfl rfl|exact Rn.x5 rfl|exact Rn.x6 rfl|exact Rn.x7 rfl|refine RB.newnil rfl rfl ?_|refine RB.cells rfl rfl rfl ?_ ?_|refine RB.map rfl rfl rfl ?_ ?_|refine RB.cellsB rfl rfl ?_ ?_|refine RB.mapB rfl rfl ?_ ?_)):p:=h
theorem follow194(a:Aut)(w:List Nat)(h:WfA a)(hp:0<a.n)(hw:w.length<=100000):PSpec Tryz.prog 72 [aV a,.int .i64 0,sliN w] (.tup [.int .i64 ((folA a.es 0 w).1:Int),.int .i64 ((folA a.es 0 w).2:Int)]):=by
 have l:=h.n5;refine PSpec.QaB 64 TU.ok72 rfl (by(try simp only[noRefs,Qab,Qak,Qaf,noRef,noRefs,Bool.and_self,Bool.and_true])<;>rfl) rfl ?_;simp(disch:=first|omega|exact PairsOK.mk rfl|(simp only[lenW]<;>omega))only[TU.s72,Qac,Qad,Qae,wW,wV,simprocAttr];refine Qbi 100 (fun s:Nat×Nat=>[(1,.int .i64 s.2),(2,sliN w),(3,.ptr 60 0 0),(11,sliN w),(12,.int .i64 w.length),(13,.int .i64 s.1)]) (fun _=>[(60,.cells 0 [sliN a.al,.int .i64 (a.n:Int),sliN a.ms,egsN a.es])]) (fun s=>s.1<=w.length/\s.2<a.n/\folA a.es 0 w=((folA a.es s.2 (w.drop s.1)).1,(folA a.es s.2 (w.drop s.1)).2+s.1)) (fun s=>w.length-s.1) (0,0) ?_ ⟨Nat.zero_le _,hp,rfl⟩ ?_;·exact⟨[(60,.blk 64 0)],rfl,au0,au29,au25⟩
 rintro⟨i,s⟩⟨hi,k,hf⟩;simp only at hi k hf;by_cases b:i<w.length;·obtain⟨x,j⟩:=Qav b;have d:=Qrl j;rw[Nat.mul_one]at d;have g:=next226 a s x h k;unfold nxI at g;rw[List.drop_eq_getElem_cons b,(List.getElem?_eq_some_iff.1 j).2]at hf;simp(disch:=first|omega|exact PairsOK.mk rfl|(simp only[lenW]<;>omega))only[b,d,Qac,Qad,Qae,wW,wV,simprocAttr];refine cp g ?_;cases c:stepA a.es s x with|none=>simp only[folA,c]at hf;rw[hf];simp(disch:=first|omega|exact PairsOK.mk rfl|(simp only[lenW]<;>omega))only[Qac,Qad,Qae,wW,wV,simprocAttr];exact⟨.inr trivial,_,rfl,by(try simp only[Nat.zero_add]);rfl⟩|some n=>
  simp only[folA,c]at hf;have f:=Qli h.esn c;have g1:¬(n:Int)<0:=by omega
  simp(disch:=first|omega|exact PairsOK.mk rfl|(simp only[lenW]<;>omega))only[g1,Qac,Qad,Qae,wW,wV,simprocAttr];exact⟨(i+1,n),by simp;omega,⟨by simp;omega,f,by rw[hf];simp;omega⟩,⟨[(60,.blk 60 0)],rfl,au0,au29,au25⟩⟩
 have e:i=w.length:=by omega
 subst e;rw[List.drop_length]at hf;simp only[folA]at hf;simp(disch:=first|omega|exact PairsOK.mk rfl|(simp only[lenW]<;>omega))only[b,Qac,Qad,Qae,wW,wV,simprocAttr];rw[hf];exact⟨.inr trivial,_,rfl,by(try simp only[Nat.zero_add]);rfl⟩
theorem reached113(a:Aut)(w:List Nat)(h:WfA a)(hp:0<a.n)(hw:w.length<=100000):PSpec Tryz.prog 33 [aV a,sliN w] (.tup [.int .i64 ((folA a.es 0 w).1:Int),.bool (gen a w)]):=by
 have f:=h.n5;refine PSpec.QaB 64 TU.ok33 rfl (by(try simp only[noRefs,Qab,Qak,Qaf,noRef,noRefs,Bool.and_self,Bool.and_true])<;>rfl) rfl ?_;have c:=follow194 a w h hp hw;obtain⟨h1,b⟩:=@QlV a.es w 0;have d:decide ((folA a.es 0 w).2=w.length)=gen a w:=b;have g0:¬(a.n:Int)=0:=by omega
 simp(disch:=first|omega|exact PairsOK.mk rfl|(simp only[lenW]<;>omega))only[TU.s33,g0,Qac,Qad,Qae,wW,wV,simprocAttr];refine cp c ?_;simp(disch:=first|omega|exact PairsOK.mk rfl|(simp only[lenW]<;>omega))only[d,Qac,Qad,Qae,wW,wV,simprocAttr];exact⟨.inr trivial,_,rfl,rfl⟩
theorem generates39(a:Aut)(w:List Nat)(h:WfA a)(hp:0<a.n)(hw:w.length<=100000):PSpec Tryz.prog 11 [aV a,sliN w] (.tup [.bool (gen a w),.int .i64 0]):=by refine PSpec.QaB 64 TU.ok11 rfl (by(try simp only[noRefs,Qab,Qak,Qaf,noRef,noRefs,Bool.and_self,Bool.and_true])<;>rfl) rfl ?_;have hc:=check112B a h;have b:=reached113 a w h hp hw;simp(disch:=first|omega|exact PairsOK.mk rfl|(simp only[lenW]<;>omega))only[TU.s11,Qac,Qad,Qae,wW,wV,simprocAttr];refine cp hc ?_;simp(disch:=first|omega|exact PairsOK.mk rfl|(simp only[lenW]<;>omega))only[Qac,Qad,Qae,wW,wV,simprocAttr];refine cp b ?_;simp(disch:=first|omega|exact PairsOK.mk rfl|(simp only[lenW]<;>omega))only[Qac,Qad,Qae,wW,wV,simprocAttr];exact⟨.inr trivial,_,rfl,rfl⟩
end Go.AM.SO
namespace Go.AM.SO
open Go.Proofs Go.AM.SD Go.AM.SE
def cmA(i:Nat):Aut:=⟨[2*i,2*i+1],2,[0],[(0,2*i,1),(1,2*i+1,0)]⟩
def cbA(i k:Nat):Aut:=⟨[2*i+1,2*i+2],k+1,List.range (k+1),(List.range (k+1)).flatMap fun s=>(if s<k then[(s,2*i+1,s+1)]else[])++(if 0<s then[(s,2*i+2,s-1)]else[])⟩
def ctA(n:Nat):Aut:=⟨(List.range n).map (2*·),n,[0],(List.range n).map fun i=>(i,2*i,(i+1)%n)⟩
def cpA(i:Nat):Aut:=⟨[3*i,3*i+1,3*i+2],3,[0],[(0,3*i,1),(1,3*i+1,2),(2,3*i+2,0)]⟩
def cfA(n i:Nat):Aut:=let b:=(i+n-1)%n
 let a:=(List.range (3*n)).filter fun e=>e==3*i||e==3*i+2||e==3*b+1||e==3*b+2
 ⟨a,2,[0],(a.filter fun x=>!(x%3==2)).map (fun x=>(0,x,1))++(a.filter fun x=>x%3==2).map (fun x=>(1,x,0))⟩
def cnm(s:List UInt8)(i:Nat):List UInt8:=s++[UInt8.ofNat (48+i)]
def cev(a:Nat)(names:List (List UInt8)):List Evn:=(List.range a).flatMap fun i=>(List.range names.length).map fun k=>⟨cnm (names.getD k []) i,decide (k<names.length-1),true,false,0⟩
abbrev wMachine:List UInt8:=[109,97,99,104,105,110,101]
abbrev wStart:List UInt8:=[115,116,97,114,116]
abbrev wFinish:List UInt8:=[102,105,110,105,115,104]
abbrev wBuffer:List UInt8:=[98,117,102,102,101,114]
abbrev wPhil:List UInt8:=[112,104,105,108,111,115,111,112,104,101,114]
abbrev wFork:List UInt8:=[102,111,114,107]
abbrev wLeft:List UInt8:=[108,101,102,116]
abbrev wRight:List UInt8:=[114,105,103,104,116]
abbrev wPut:List UInt8:=[112,117,116]
abbrev wVehicle:List UInt8:=[118,101,104,105,99,108,101]
abbrev wEnter:List UInt8:=[101,110,116,101,114]
abbrev wLeave:List UInt8:=[108,101,97,118,101]
abbrev wZone:List UInt8:=[122,111,110,101]
abbrev wTurns:List UInt8:=[116,117,114,110,115]
def cms(w:List UInt8)(n:Nat):List (List UInt8×Aut):=(List.range n).map fun i=>(cnm w i,cmA i)
def catC:Nat->Nat->CelA|1,n=>⟨cev 2 [wStart,wFinish],cms wMachine 2,[(cnm wBuffer 0,cbA 0 n)],[]⟩|2,n=>⟨cev n [wStart,wFinish],cms wMachine n,(List.range (n-1)).map fun i=>(cnm wBuffer i,cbA i 1),[]⟩|3,n=>⟨cev n [wLeft,wRight,wPut],((List.range n).map fun i=>(cnm wPhil i,cpA i))++(List.range n).map fun i=>(cnm wFork i,cfA n i),[],[]⟩|4,n=>⟨cev n [wEnter,wLeave],cms wVehicle n,[],[(wZone,(List.range n).map fun i:Nat=>((i:Int),(1:Int)),1)]⟩|_,n=>⟨cev n [wStart,wFinish],cms wMachine n,[(wTurns,ctA n)],[]⟩
structure Fct where
 sp:Nat
 fb:Nat
 kp:Nat
 su:Nat
 bn:List (List Nat×Nat)
def facC:Nat->Nat->Fct|1,n=>⟨4*(n+1),2,4*n+2,4*n+2,[([],2),((List.range n).flatMap fun _=>[0,1],0)]⟩|2,n=>⟨2^(2*n-1),2^(2*n-1)-2*3^(n-1),2*3^(n-1),2*3^(n-1),[([],2*n-2),([0,1],0)]⟩|3,n=>⟨[6,14,34].getD (n-2) 0,0,[6,14,34].getD (n-2) 0-1,[6,14,34].getD (n-2) 0-1,[((List.range (n-1)).map (3*·),3*(n-1))]⟩|4,n=>⟨2^n,2^n-n-1,n+1,n+1,[([0],2)]⟩|_,n=>⟨n*2^n,0,n*2^n,n*2^n,[([],2)]⟩
end Go.AM.SO
namespace Go.AM
namespace RX
def hdC:FCode->FCode|.seq a _=>a|c=>c
variable{P:Program}
end RX
end Go.AM
namespace Go.AM
variable{P:Program}{N:NM}{r:List SOper}{dead:List Nat}{fs:List Fr}{n:Nat}{T:Tmps}{h:Heap}{Q:QC}{d:Option Nat}
theorem Rn.unty{m:Nat}{π:Nat->Option Src}{h:Heap}{t k:Nat}{x y:AV}(b:Rn m π h x y):Rn m π h x (.typed t k y):=fun _ c w v H M a=>b _ c w v H M a.2
end Go.AM
namespace Go.AM.KN
open Go.Proofs Go.AM.SO Go.AM.SD Go.AM.SE Go.AM.RX
def zipE(f:AV->AV->Bool):List AV->List AV->Bool
 |[],v=>match v with|[]=>true|_=>false
 |x::xs,v=>match v with|y::a=>f x y&&zipE f xs a|_=>false
def unty:AV->AV|.typed _ _ v=>v|v=>v
theorem Rn.unty'{h:Heap}{x v:AV}(a:Rn 0 π0 h x (unty v)):Rn 0 π0 h x v:=by cases v with|typed t k y=>exact Rn.unty a|_=>exact a
mutual def beqA:AV->AV->Bool
 |.int k a,v=>match v with|.int k' b=>decide (k=k')&&decide (a=b)|_=>false
 |.bool a,v=>match v with|.bool b=>a==b|_=>false
 |.str a,v=>match v with|.str b=>decide (a=b)|_=>false
 |.nilsl,v=>match v with|.nilsl=>true|_=>false
 |.agg a,v=>match v with|.agg b=>beqL a b|_=>false
 |.fsl a l s,v=>match v with|.fsl b l' s'=>beqL a b&&Nat.beq l l'&&Nat.beq s s'|_=>false
 |_,_=>false termination_by structural x=>x def beqL:List AV->List AV->Bool
 |[],v=>match v with|[]=>true|_=>false
 |x::xs,v=>match v with|y::ys=>beqA x y&&beqL xs ys|_=>false termination_by structural x=>x end
mutual theorem Qnq:∀(x y:AV),beqA x y=true->x=y:=by intro x y h;cases x with|agg a=>cases y<;>simp[beqA]at h;rw[QiM _ _ h]|fsl a l s=>cases y<;>simp[beqA]at h;obtain⟨⟨h1,rfl⟩,rfl⟩:=h;rw[QiM _ _ h1]|int k a=>cases y<;>simp_all[beqA]|bool a=>cases y<;>simp_all[beqA]|str a=>cases y<;>simp_all[beqA]|nilsl=>cases y<;>simp_all[beqA]|_=>simp[beqA]at h theorem QiM:∀(x y:List AV),beqL x y=true->x=y:=by intro x y h;cases x with|nil=>cases y<;>simp_all[beqL]|cons a r=>cases y with|nil=>simp[beqL]at h|cons b s=>simp only[beqL,Bool.and_eq_true]at h;rw[Qnq _ _ h.1,QiM _ _ h.2]end
def fzE(h:Heap):Nat->AV->AV->Bool|0,_,_=>false|d+1,x,v=>match x with
 |.fsl cs len sz=>match unty v with
  |.nilsl=>match cs with|[]=>Nat.beq len 0|_=>false
  |.esl=>match cs with|[]=>Nat.beq len 0|_=>false
  |.sl b g off c i=>Nat.beq c len&&(Nat.beq i sz&&(match h.get b with|some (.cells l j)=>Nat.beq l g&&(Nat.ble (off+len*sz) j.length&&zipE (fzE h d) cs ((j.drop off).take (len*sz)))|_=>false))|v=>beqA (.fsl cs len sz) v&&noRef v
 |.agg xs=>match v with|.agg f=>zipE (fzE h d) xs f|_=>false
 |.tup xs=>match v with|.tup f=>zipE (fzE h d) xs f|_=>false
 |.int k a=>match v with|.int m b=>decide (k=m)&&decide (a=b)|_=>false
 |.bool a=>match v with|.bool b=>a==b|_=>false
 |.str a=>match v with|.str b=>eqS a b|_=>false
 |_=>false where eqS:List UInt8->List UInt8->Bool
 |[],v=>match v with|[]=>true|_=>false
 |x::xs,v=>match v with|y::o=>decide (x=y)&&eqS xs o|_=>false
theorem QpN:∀{a b:List UInt8},fzE.eqS a b=true->a=b|[],[],_=>rfl|[],_::_,h=>by cases h|_::_,[],h=>by cases h|x::a,y::b,h=>by simp only[fzE.eqS,Bool.and_eq_true,decide_eq_true_eq]at h;rw[h.1,QpN h.2]
theorem QpO{h:Heap}:∀(d:Nat),(∀x v,fzE h d x v=true->Rn 0 π0 h x v)/\(∀xs vs,zipE (fzE h d) xs vs=true->RnL 0 π0 h xs vs):=by
 have key:∀d,(∀x v,fzE h d x v=true->Rn 0 π0 h x v)->∀xs vs,zipE (fzE h d) xs vs=true->RnL 0 π0 h xs vs:=by intro d t xs;induction xs with
  |nil=>intro vs f;cases vs with|nil=>trivial|cons y m=>cases f
  |cons x r i=>intro vs f;cases vs with|nil=>cases f|cons y m=>simp only[zipE,Bool.and_eq_true]at f;exact⟨t _ _ f.1,i _ f.2⟩
 intro d;induction d with|zero=>exact⟨fun x v h=>(by cases h),key 0 fun x v h=>(by cases h)⟩|succ d i=>
  have h1:∀x v,fzE h (d+1) x v=true->Rn 0 π0 h x v:=by intro x v f;cases x with
   |fsl cs len sz=>refine Rn.unty' ?_;simp only[fzE]at f;generalize unty v=v at*;cases v with
    |nilsl=>cases cs with|nil=>
     have:len=0:=by simpa using f
     subst this;exact Rn.frznil|cons c cs=>simp at f
    |esl=>cases cs with|nil=>
     have:len=0:=by simpa using f
     subst this;exact Rn.frzesl|cons c cs=>simp at f
    |sl b g off j s=>
     simp only[Bool.and_eq_true,Nat.beq_eq]at f;obtain⟨rfl,rfl,f⟩:=f;split at f;·rename_i B w p;simp only[Bool.and_eq_true,Nat.beq_eq]at f;obtain⟨rfl,l,o⟩:=f;exact Rn.frz p (Nat.zero_le _) (fun A g2 _ e=>by cases e) (Nat.le_of_ble_eq_true l) (i.2 _ _ o)
     cases f|_=>simp only[Bool.and_eq_true]at f;have q:=Qnq _ _ f.1;rw[q];exact Rn.same f.2
   |agg xs=>cases v with|agg vs=>exact Rn.agg (i.2 _ _ (by simpa[fzE]using f))|_=>simp[fzE]at f
   |tup xs=>cases v with|tup vs=>exact Rn.tup (i.2 _ _ (by simpa[fzE]using f))|_=>simp[fzE]at f
   |int k a=>cases v with|int u b=>simp only[fzE,Bool.and_eq_true,decide_eq_true_eq]at f;obtain⟨rfl,rfl⟩:=f;exact Rn.same rfl|_=>simp[fzE]at f
   |bool a=>cases v with|bool b=>simp only[fzE,beq_iff_eq]at f;subst f;exact Rn.same rfl|_=>simp[fzE]at f
   |str a=>cases v with|str b=>simp only[fzE]at f;cases QpN f;exact Rn.same rfl|_=>simp[fzE]at f
   |_=>simp[fzE]at f
  exact⟨h1,key _ h1⟩
noncomputable section
def kFz(x:AV)(res:List SRes):KcA Bool:=fun e T h _=>match e with|.ret=>(match resV T h res with|some a=>fzE h 12 x (resOf a)|none=>false)|.normal=>(match resV T h res with|some a=>fzE h 12 x (resOf a)|none=>false)|_=>false
theorem QjZ{f:Nat}{F:FFn}{args:List AV}{x:AV}(j:ft.get f=some F)(d:args.length<=F.n)(c:noRefs args=true)(g:noRef x=true)(i:exR ansB noOrc ft.get 100000 F.body (argT 0 args) .e 64 (kFz x F.res)=true):PSpec Tryz.prog f args x:=by
 refine PSpec.of_W2 (FT2.ok ft_ok f F j) d c g ?_;refine W2.of_W (Qqf ft_ok Qe3 (kFz x F.res) i fun e T h n hk=>?_);unfold kFz at hk;cases e<;>simp only[Bool.false_eq_true]at hk
 ·split at hk;·rename_i a b;exact⟨.inl rfl,a,b,(QpO 12).1 _ _ hk⟩
  cases hk
 split at hk;·rename_i a b;exact⟨.inr rfl,a,b,(QpO 12).1 _ _ hk⟩
 cases hk
def F7:FFn:=match ft.get 7 with|some f=>f|none=>⟨0,[],.skip⟩
def F8:FFn:=match ft.get 8 with|some f=>f|none=>⟨0,[],.skip⟩
theorem g7:ft.get 7=some F7:=by kernel_rfl
theorem g8:ft.get 8=some F8:=by kernel_rfl
end
abbrev facV(f:Fct):AV:=.agg [.int .i64 (f.sp:Int),.int .i64 (f.fb:Int),.int .i64 (f.kp:Int),.int .i64 (f.su:Int),.fsl (f.bn.flatMap fun b=>[sliN b.1,.int .i64 (b.2:Int)]) f.bn.length 2]
theorem Qn8(f:Fct):noRef (facV f)=true:=by rw[facV,noRef,noRefs,noRefs,noRefs,noRefs,noRefs,noRef,Qa9 (fun b=>by rw[noRefs,Qaa];rfl)];rfl
noncomputable def runC(k n:Nat):Bool:=exR ansB noOrc ft.get 100000 F8.body (argT 0 [.int .i64 (k:Int),.int .i64 (n:Int)]) .e 64 (kFz (.tup [celG (catC k n),.int .i64 0]) F8.res)
noncomputable def runK(k n:Nat):Bool:=exR ansB noOrc ft.get 100000 F7.body (argT 0 [.int .i64 (k:Int),.int .i64 (n:Int)]) .e 64 (kFz (.tup [facV (facC k n),.int .i64 0]) F7.res)
theorem cell8{k n:Nat}(h:runC k n=true):PSpec Tryz.prog 8 [.int .i64 (k:Int),.int .i64 (n:Int)] (.tup [celG (catC k n),.int .i64 0]):=QjZ g8 (by have:F8.n=F8.n:=rfl;exact Nat.le_of_ble_eq_true (by kernel_rfl)) rfl (by rw[noRef,noRefs,QcC];rfl) h
theorem known7{k n:Nat}(h:runK k n=true):PSpec Tryz.prog 7 [.int .i64 (k:Int),.int .i64 (n:Int)] (.tup [facV (facC k n),.int .i64 0]):=QjZ g7 (Nat.le_of_ble_eq_true (by kernel_rfl)) rfl (by rw[noRef,noRefs,Qn8];rfl) h
end Go.AM.KN
