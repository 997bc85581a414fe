/- A part of the proof of CatalogueWordsCardSaid: lemmas on the way (AnZf, AnOe, AnRy, AnOg, AnZg, AnHm, AnHz, AnHn, AnZh, AmTx, AmUc, AnZo). Conditions: none of ours. -/
import Derived.Test.YteiijgolpigjdaaGreatDoorProg
import Derived.KernelRfl
import Derived.Test.YteiijgolpigjdaaGreatDoorAmW16
set_option linter.unusedSectionVars false
set_option maxHeartbeats 32000000
set_option maxRecDepth 100000
set_option linter.unusedVariables false
set_option linter.unusedSimpArgs false
namespace Go.AM.SO
open Go.Proofs Go.AM.SD Go.AM.SE
def grs (c:CelA) (i:Nat) (t:List Nat):Option (Nat×Int×Int×Int):=
 if(vioG (t.take c.cs.length) c.ks).2.2=true then some (i,(vioG (t.take c.cs.length) c.ks).1,(vioG (t.take c.cs.length) c.ks).2.1,-1)
 else((gys c (ixT (sync0 (auN c.cs)).1 (t.take c.cs.length)) (t.drop c.cs.length)).find? fun y=> !(c.ev.getD y.1 ev0).c).map fun y=>(i,3,y.2,(y.1:Int))
def grsO (c:CelA) (i:Nat):List (Nat×Int×Int×Int):=(grs c i ((sync0 (allN c)).1.getD i [])).toList
def gforb (c:CelA) (n:Nat):List (Nat×Int×Int×Int):=(List.range n).flatMap (grsO c)
theorem Qfh (c:CelA) (n:Nat):gforb c (n+1)=gforb c n++grsO c n:=by unfold gforb;rw[List.range_succ,List.flatMap_append];simp
theorem Qf8 (c:CelA):∀n,(gforb c n).length<=n
 |0=>by simp[gforb]
 |n+1=>by
  have:=Qf8 c n
  rw[Qfh,List.length_append]
  have:(grsO c n).length<=1:=by unfold grsO;cases grs c n _<;>simp
  omega
def gpA (c:CelA) (T:List (List Nat)):List (List Nat):=T.map fun t=>t.take c.cs.length
def gpB (c:CelA) (T:List (List Nat)):List (List Nat):=T.map fun t=>t.drop c.cs.length
def gpP (c:CelA) (P T:List (List Nat)):List Nat:=T.map fun t=>ixT P (t.take c.cs.length)
abbrev gpG (c:CelA) (q:Aut) (P T:List (List Nat)):List AV:=[sliN q.al,.int .i64 (q.n:Int),sliN q.ms,egsN q.es,tuV (gpA c T),tuV (gpB c T),sliN (gpP c P T),rss (gforb c T.length)]
def gpC (c:CelA):List AV:=gpG c (syncA (allN c)) (sync0 (auN c.cs)).1 (sync0 (allN c)).1
theorem Qie (c:CelA) (q:Aut) (P T:List (List Nat)):noRefs (gpG c q P T)=true:=by
 have hr:noRef (rss (gforb c T.length))=true:=by rw[noRef];exact Qb0 _
 simp only[noRefs,Qaa,Qak,Qbo,hr,Bool.true_and,Bool.and_true]
 rfl
theorem QlF {c:CelA} (h:WfG c) {k:Nat} {r:List Nat} {y:Nat×Int} (hy:y∈gys c k r):y.1<c.ev.length:=by
 unfold gys at hy
 obtain⟨e,he,h2⟩:=List.mem_filterMap.1 hy
 unfold gyE at h2
 split at h2
 ·cases h2
  unfold evO at he
  obtain⟨x,hx,rfl⟩:=List.mem_map.1 he
  obtain⟨a,ha,hea⟩:=((Qdm h.cj).2 x.2.1).1 ((Qff h.cj h.pl).ev x (List.mem_filter.1 hx).1)
  exact h.eb a (List.mem_append.2 (.inl ha)) _ hea
 ·cases h2
theorem Qra {c:CelA} {i:Nat} {t:List Nat} (hv:(vioG (t.take c.cs.length) c.ks).2.2=true):(grs c i t).toList=[(i,(vioG (t.take c.cs.length) c.ks).1,(vioG (t.take c.cs.length) c.ks).2.1,-1)]:=by
 unfold grs;rw[if_pos hv];rfl
theorem QrJ {c:CelA} {i:Nat} {t:List Nat} (hv:(vioG (t.take c.cs.length) c.ks).2.2=false):(grs c i t).toList=(((gys c (ixT (sync0 (auN c.cs)).1 (t.take c.cs.length)) (t.drop c.cs.length)).find? fun y=> !(c.ev.getD y.1 ev0).c).map fun y=>(i,3,y.2,(y.1:Int))).toList:=by
 unfold grs;rw[if_neg (by simp[hv])]
theorem _root_.Go.AM.au28 {p:Prop} (h:p:=by repeat (first|exact RT.nil|(refine RT.cons ?_ ?_; · (first|exact Rn.any|exact Rn.x1 rfl rfl|exact Rn.x2 rfl rfl|exact Rn.x3 rfl rfl|exact Rn.x4 rfl rfl|exact Rn.x5 rfl|exact Rn.x6 rfl|exact Rn.x7 rfl|(refine Rn.slot ?_ ?_;(first|rfl|(rw[Int.natCast_add];rfl));(first|rfl|(simp only[noRef,noRefs,Qah,Bool.and_self,Bool.and_true,Bool.true_and,Qab,Qap,Qaa,Qak,Qa1,Qaf,Qcz,Qcg,Qbe,Qbo,Qb0];done)))|(refine Rn.fn ?_ ?_<;>(repeat' (first|exact RnL.nil|refine RnL.cons ?_ ?_|exact Rn.same rfl|exact Rn.x6 rfl|exact Rn.x2 rfl rfl|exact Rn.x5 rfl|exact Rn.x1 rfl rfl))))))):p:=h
theorem specG (c : CelA) (h : WfG c) : PSpec Tryz.prog 26 [celG c] (.tup [.agg (gpC c), .int .i64 0]) := by
  have hnr:=QbF c
  have hns:noRef (.tup [.agg (gpC c),.int .i64 0])=true:=by rw[noRef,noRefs,noRef,gpC,Qie];rfl
  refine PSpec.of_rn 64 TQ.ok26 rfl (by rw[noRefs,Qcj];rfl) hns ?_
  have h0:=h.c0
  have h3:=h.l12
  have hO:=openG c h
  have hin:=gproj h
  have hPi:=Qge (fun a ha=>(h.cj a ha).pos) fun a ha=>(h.cj a ha).wf.esn
  have hT243:=h.ql
  have hPin:∀x∈(sync0 (auN c.cs)).1,InT (auN c.cs) x:=hPi.inT
  have hpn:(syncA (auN c.cs)).n=(sync0 (auN c.cs)).1.length:=rfl
  have hsplit:=fun t (ht:c.cs.length<=t.length)=>gsplit c t h0 ht
  have hviol:=fun t (ht:InT (auN c.cs) t)=>violG c h ht
  have href:=fun k r=>grefF c k r
  have hfor:=fun{k:Nat} hk r hr hrn {b m:Nat} H H' n=>@grefused c h k hk r hr hrn b m H H' n
  have hrs:∀i t,(sync0 (allN c)).1[i]?=some t->grsO c i=(grs c i t).toList:=fun i t ht=>by unfold grsO;rw[List.getD_eq_getElem?_getD,ht];rfl
  have hrv:=fun i t=>@QrJ c i t
  have hle:=Qf8 c
  have hsu:=Qfh c
  have hst:=Qen c (syncA (auN c.cs)) (syncA (allN c)) (sync0 (auN c.cs)).1 (sync0 (allN c)).1
  rw[gpC]at*
  rw[gtC]at hO hsplit href
  generalize syncA (auN c.cs)=p at*
  generalize syncA (allN c)=q at*
  generalize (sync0 (auN c.cs)).1=P at*
  generalize (sync0 (allN c)).1=T at*
  have hnT:=Qbo T
  have hS:noRef (.fptr (gtG c p q P T))=true:=by rw[noRef];exact hst
  have hnc:=Qcj c
  simp(disch:=first|omega|exact PairsOK.mk rfl|(simp only[lenW]<;>omega)) only[TQ.s26,Qac,Qad,Qae,Qag,Qaj,Qam,wW,wV,simprocAttr]
  refine cp hO ?_
  simp(disch:=first|omega|exact PairsOK.mk rfl|(simp only[lenW]<;>omega)) only[Qac,Qad,Qae,Qag,Qaj,Qam,wW,wV,simprocAttr]
  refine Qay 200 (fun i:Nat=>[(1,.ptr 51 0 0),(2,.ptr 53 0 0),(4,.fptr (gtG c p q P T)),(6,.ptr 52 0 0),(35,tuV T),(36,.int .i64 T.length),(37,.int .i64 i)]) (fun i=>[(51,.cells 0 [evns c.ev,itsN c.cs,itsN c.rs,exsZ [],cosZ c.ks]),(52,.cells 0 [sliN q.al,.int .i64 (q.n:Int),sliN q.ms,egsN q.es,.sl 60 0 0 i 1,.sl 61 0 0 i 1,.sl 62 0 0 i 1,.sl 63 0 0 (gforb c i).length 4]),(53,.cells 0 [.nilsl,.int .i64 0,.nilsl,.nilsl,.nilsl,.nilsl,.nilsl,.nilsl]),(60,.cells 0 ((gpA c (T.take i)).map sliN)),(61,.cells 0 ((gpB c (T.take i)).map sliN)),(62,.cells 0 (ints (nz (gpP c P (T.take i))))),(63,.cells 0 ((gforb c i).flatMap rsC))]) (fun i=>i<=T.length) (fun i=>T.length-i) 0 0 400
    (fun _:Unit=>[(2,.ptr 53 0 0),(6,.ptr 52 0 0)]) (fun _=>[(52,.cells 0 (gpG c q P T)),(53,.cells 0 [.nilsl,.int .i64 0,.nilsl,.nilsl,.nilsl,.nilsl,.nilsl,.nilsl])]) (fun _=>True) ?_ (Nat.zero_le _) ?_ ?_
  · refine ⟨[(51, .blk 64 0), (52, .blk 81 0), (53, .blk 65 0), (60, .nil), (61, .nil), (62, .nil), (63, .nil)], rfl, RO.zero, ?_, RT.cons (Rn.x2 rfl rfl) (RT.cons (Rn.x2 rfl rfl) (RT.cons (Rn.same hS) (RT.cons (Rn.x2 rfl rfl) (RT.cons (Rn.same hnT) au28))))⟩
    exact RB.cells rfl rfl gg (RnL.same hnr) (RB.cells rfl rfl gg (RnL.cons (Rn.same (Qaa _)) (RnL.cons (Rn.same rfl) (RnL.cons (Rn.same (Qaa _)) (RnL.cons (Rn.same (Qak _)) (RnL.cons (Rn.x4 rfl rfl) (RnL.cons (Rn.x4 rfl rfl) (RnL.cons (Rn.x4 rfl rfl) (RnL.cons (Rn.x4 rfl rfl) RnL.nil)))))))) (RB.cells rfl rfl gg (RnL.same rfl) (RB.newnil rfl rfl (RB.newnil rfl rfl (RB.newnil rfl rfl (RB.newnil rfl rfl RB.nil))))))
  · rintro i hi
    by_cases hlt:i<T.length
    · obtain ⟨t, ht⟩ := Qav hlt
      obtain⟨hit,hpt⟩:=hin t (List.mem_of_getElem? ht)
      have htl:c.cs.length<=t.length:=by rw[hit.1,Qed];omega
      have hi1:=Qqc (A:=auN c.cs) (B:=auN c.rs) hit
      have hi2:=Qqd (A:=auN c.cs) (B:=auN c.rs) hit
      rw[Qbz]at hi1 hi2
      have hl1:(t.take c.cs.length).length<=12:=by rw[List.length_take];omega
      have hl2:(t.drop c.cs.length).length<=12:=by rw[hi2.1,Qbz];omega
      have hsp:=hsplit t htl
      have hky:=key115G h.cj (by rw[Qbz];omega) hi1
      have hv:=hviol _ hi1
      have hcl1:=clone41 (t.take c.cs.length) (by omega)
      have hcl2:=clone41 (t.drop c.cs.length) (by omega)
      have hk:=Qia hpt
      have hia:(gpA c (T.take (i+1))).map sliN=(gpA c (T.take i)).map sliN++[sliN (t.take c.cs.length)]:=by unfold gpA;rw[take_succ' ht];simp
      have hib:(gpB c (T.take (i+1))).map sliN=(gpB c (T.take i)).map sliN++[sliN (t.drop c.cs.length)]:=by unfold gpB;rw[take_succ' ht];simp
      have hip:gpP c P (T.take (i+1))=gpP c P (T.take i)++[ixT P (t.take c.cs.length)]:=by unfold gpP;rw[take_succ' ht];simp
      have hla:((gpA c (T.take i)).map sliN).length=i:=by unfold gpA;simp;omega
      have hlb:((gpB c (T.take i)).map sliN).length=i:=by unfold gpB;simp;omega
      have hlp:(ints (nz (gpP c P (T.take i)))).length=i:=by unfold gpP;simp[ints];omega
      have hlf:=Qpl (gforb c i)
      have hlf2:=hle i
      have hrsi:=hrs i t ht
      have hsi:=hsu i
      have hrvi:=hrv i t
      have hrvi2:=@Qra c i t
      have hk:ixT P (t.take c.cs.length)<p.n:=by rw[hpn];exact hk
      have hr2:(t.drop c.cs.length).length=c.rs.length:=by rw[hi2.1,Qbz]
      have hrn2:∀(j:Nat) y,c.rs[j]?=some y->(t.drop c.cs.length).getD j 0<y.2.n:=fun j y hy=>hi2.2 j y.2 (by rw[List.getElem?_map,hy];rfl)
      have hfa:∀z,(gforb c i++[z]).flatMap rsC=(gforb c i).flatMap rsC++rsC z:=fun z=>by simp
      have hn1:noRefs [sliN (t.take c.cs.length)]=true:=by rw[noRefs,Qaa];rfl
      have hn2:noRefs [sliN (t.drop c.cs.length)]=true:=by rw[noRefs,Qaa];rfl
      generalize gpA c (T.take i)=LA at*
      generalize gpB c (T.take i)=LB at*
      generalize gpP c P (T.take i)=LP at*
      generalize t.take c.cs.length=t1 at*
      generalize t.drop c.cs.length=t2 at*
      generalize vioG t1 c.ks=v at*
      obtain⟨v1,v2,v3⟩:=v
      dsimp only at hrvi hrvi2 hv
      have hrf:=href (ixT P t1) t2
      simp(disch:=first|omega|exact PairsOK.mk rfl|(simp only[lenW]<;>omega)) only[hlt,QmZ ht,Qac,Qad,Qae,Qag,Qaj,Qam,wW,wV,simprocAttr]
      refine cp hsp ?_
      simp(disch:=first|omega|exact PairsOK.mk rfl|(simp only[lenW]<;>omega)) only[Qac,Qad,Qae,Qag,Qaj,Qam,wW,wV,simprocAttr]
      refine cp hky ?_
      simp(disch:=first|omega|exact PairsOK.mk rfl|(simp only[lenW]<;>omega)) only[Qac,Qad,Qae,Qag,Qaj,Qam,wW,wV,simprocAttr]
      refine QfT (c:=keyC) (f:=ixV P) (x:=t1) (l:=P) (Qf1 h.cj hi1 hPin) hpt ?_
      simp(disch:=first|omega|exact PairsOK.mk rfl|(simp only[lenW]<;>omega)) only[ixV,Qac,Qad,Qae,Qag,Qaj,Qam,wW,wV,simprocAttr]
      refine Qe2 [(56,[60]),(62,[61]),(68,[62])] rfl rfl ?_
      simp(disch:=first|omega|exact PairsOK.mk rfl|(simp only[lenW]<;>omega)) only[Qac,Qad,Qae,Qag,Qaj,Qam,wW,wV,simprocAttr]
      refine cp hcl1 ?_
      simp(disch:=first|omega|exact PairsOK.mk rfl|(simp only[lenW]<;>omega)) only[Qac,Qad,Qae,Qag,Qaj,Qam,wW,wV,simprocAttr]
      refine cp hcl2 ?_
      simp(disch:=first|omega|exact PairsOK.mk rfl|(simp only[lenW]<;>omega)) only[hla,hlb,hlp,Qac,Qad,Qae,Qag,Qaj,Qam,wW,wV,simprocAttr]
      refine⟨⟨⟨_,rfl,fun b hb=>hb⟩,⟨_,rfl,fun b hb=>hb⟩,⟨_,rfl,fun b hb=>hb⟩,trivial⟩,?_⟩
      refine cp hv ?_
      cases v3 with
      | true =>
        have hrw:=hrvi2 rfl
        simp(disch:=first|omega|exact PairsOK.mk rfl|(simp only[lenW]<;>omega)) only[hlf,Qac,Qad,Qae,Qag,Qaj,Qam,wW,wV,simprocAttr]
        refine⟨i+1,by omega,by omega,?_⟩
        rw[hia,hib,hip,hsi,hrsi,hrw,hfa,List.length_append,QaU,QaK]
        refine⟨[(51,.blk 51 0),(52,.blk 52 0),(53,.blk 53 0),(60,.blk 60 1),(61,.blk 61 1),(62,.blk 62 1),(63,.blk 63 1)],rfl,RO.zero,?_,RT.cons (Rn.x2 rfl rfl) (RT.cons (Rn.x2 rfl rfl) (RT.cons (Rn.same hS) (RT.cons (Rn.x2 rfl rfl) (RT.cons (Rn.same hnT) au28))))⟩
        exact RB.cells rfl rfl gg (RnL.same hnr) (RB.cells rfl rfl gg (RnL.cons (Rn.same (Qaa _)) (RnL.cons (Rn.same rfl) (RnL.cons (Rn.same (Qaa _)) (RnL.cons (Rn.same (Qak _)) (RnL.cons (Rn.x1 rfl rfl) (RnL.cons (Rn.x1 rfl rfl) (RnL.cons (Rn.x1 rfl rfl) (RnL.cons (Rn.x1 rfl rfl) RnL.nil)))))))) (RB.cells rfl rfl gg (RnL.same rfl) (RB.cells rfl rfl gg (RnL.same (QaX (Qax Qaa _) hn1)) (RB.cells rfl rfl gg (RnL.same (QaX (Qax Qaa _) hn2)) (RB.cells rfl rfl gg (RnL.same (QaX (Qab _) rfl)) (RB.cells rfl rfl gg (RnL.same (QaX (Qb0 _) rfl)) RB.nil))))))
      | false =>
        have hrw:=hrvi rfl
        simp(disch:=first|omega|exact PairsOK.mk rfl|(simp only[lenW]<;>omega)) only[Qac,Qad,Qae,Qag,Qaj,Qam,wW,wV,simprocAttr]
        refine cp hrf ?_
        simp(disch:=first|omega|exact PairsOK.mk rfl|(simp only[lenW]<;>omega)) only[Qac,Qad,Qae,Qag,Qaj,Qam,wW,wV,simprocAttr]
        have hnone:∀{x1 x2 x3 x4 x5 x6 x7 x8:Blk},(hp [(51,x1),(52,x2),(53,x3),(54,x4),(60,x5),(61,x6),(62,x7),(63,x8)]).get 150=none:=fun{x1 x2 x3 x4 x5 x6 x7 x8}=>by simp(disch:=omega) only[Qa4,QkP,QaE,get_e]
        cases hfd:(gys c (ixT P t1) t2).find? fun y=> !(c.ev.getD y.1 ev0).c with
        | none =>
          rw[hfd]at hrw
          replace hrw:(grs c i t).toList=[]:=hrw
          refine QcV (n':=700) (b:=150) (T':=[(1,.ptr 51 0 0),(2,.ptr 53 0 0),(4,.fptr (gtG c p q P T)),(6,.ptr 52 0 0),(7,.ptr 54 0 0),(35,tuV T),(36,.int .i64 T.length),(37,.int .i64 i),(99,grF c (ixT P t1) t2)]) (L:=[(51,.cells 0 [evns c.ev,itsN c.cs,itsN c.rs,exsZ [],cosZ c.ks]),(52,.cells 0 [sliN q.al,.int .i64 (q.n:Int),sliN q.ms,egsN q.es,.sl 60 0 0 (i+1) 1,.sl 61 0 0 (i+1) 1,.sl 62 0 0 (i+1) 1,.sl 63 0 0 (gforb c i).length 4]),(53,.cells 0 [.nilsl,.int .i64 0,.nilsl,.nilsl,.nilsl,.nilsl,.nilsl,.nilsl]),(54,.cells 0 [.int .i64 (i:Int)]),(60,.cells 0 (LA.map sliN++[sliN t1])),(61,.cells 0 (LB.map sliN++[sliN t2])),(62,.cells 0 (ints (nz LP)++[.int .i64 (ixT P t1:Int)])),(63,.cells 0 ((gforb c i).flatMap rsC))]) ?_ rfl hnone rfl (hfor (m:=1000) hk t2 hr2 hrn2 (fun _=>_) _ (gys c (ixT P t1) t2).length ?_ (Nat.le_refl _) ?_ (.inl ⟨rfl,rfl⟩)) gg ?_
          · refine ⟨[(51, .blk 51 0), (52, .blk 52 0), (53, .blk 53 0), (54, .blk 204 0), (60, .blk 60 1), (61, .blk 61 1), (62, .blk 62 1), (63, .blk 63 0)], rfl, RO.zero, ?_, RT.cons (Rn.x2 rfl rfl) (RT.cons (Rn.x2 rfl rfl) (RT.cons (Rn.same hS) (RT.cons (Rn.x2 rfl rfl) (RT.cons (Rn.x2 rfl rfl) (RT.cons (Rn.same hnT) (RT.cons (Rn.same rfl) (RT.cons (Rn.same rfl) (RT.cons (Rn.same (Qf7 _ _ _)) RT.nil))))))))⟩
            exact RB.cells rfl rfl gg (RnL.same hnr) (RB.cells rfl rfl gg (RnL.cons (Rn.same (Qaa _)) (RnL.cons (Rn.same rfl) (RnL.cons (Rn.same (Qaa _)) (RnL.cons (Rn.same (Qak _)) (RnL.cons (Rn.x1 rfl rfl) (RnL.cons (Rn.x1 rfl rfl) (RnL.cons (Rn.x1 rfl rfl) (RnL.cons (Rn.x1 rfl rfl) RnL.nil)))))))) (RB.cells rfl rfl gg (RnL.same rfl) (RB.cells rfl rfl gg (RnL.same rfl) (RB.cells rfl rfl gg (RnL.same (QaX (Qax Qaa _) hn1)) (RB.cells rfl rfl gg (RnL.same (QaX (Qax Qaa _) hn2)) (RB.cells rfl rfl gg (RnL.same (QaX (Qab _) rfl)) (RB.cells rfl rfl gg (RnL.same (Qb0 _)) RB.nil)))))))
          · exact(by repeat (first|exact Fresh.e|exact Fresh.le (by assumption) (by omega)|refine Fresh.set ?_ (by omega) (by omega)))
          · intro j y hj hy
            have hlt5:=QlF h (List.mem_of_getElem? hy)
            have hctl:(c.ev.getD y.1 ev0).c=true:=by simpa using List.find?_eq_none.1 hfd y (List.mem_of_getElem? hy)
            obtain⟨E,hxE⟩:=Qav hlt5
            have hdE:=Qec hxE
            have hdF:5<=((c.ev.flatMap evnC).drop (y.1*5)).length:=by rw[hdE];simp
            rw[Qa5 hxE]at hctl
            refine RSpec.of_wS (n:=300) rfl gg rfl rfl rfl ?_
            simp(disch:=first|omega|exact PairsOK.mk rfl|(simp only[lenW]<;>omega)) only[upsT,hctl,hlt5,hdE,hdF,Qac,Qad,Qae,Qag,Qaj,Qam,wW,wV,simprocAttr]
            exact⟨rfl,fun x=>set3 rfl⟩
          · unfold leftQ
            simp(disch:=first|omega|exact PairsOK.mk rfl|(simp only[lenW]<;>omega)) only[Qac,Qad,Qae,Qag,Qaj,Qam,wW,wV,simprocAttr]
            refine⟨i+1,by omega,by omega,?_⟩
            rw[hia,hib,hip,hsi,hrsi,hrw,List.append_nil,QaU,QaK]
            refine⟨[(51,.blk 51 0),(52,.blk 52 0),(53,.blk 53 0),(60,.blk 60 0),(61,.blk 61 0),(62,.blk 62 0),(63,.blk 63 0)],rfl,RO.zero,?_,RT.cons (Rn.x2 rfl rfl) (RT.cons (Rn.x2 rfl rfl) (RT.cons (Rn.same hS) (RT.cons (Rn.x2 rfl rfl) (RT.cons (Rn.same hnT) au28))))⟩
            exact RB.cells rfl rfl gg (RnL.same hnr) (RB.cells rfl rfl gg (RnL.cons (Rn.same (Qaa _)) (RnL.cons (Rn.same rfl) (RnL.cons (Rn.same (Qaa _)) (RnL.cons (Rn.same (Qak _)) (RnL.cons (Rn.x1 rfl rfl) (RnL.cons (Rn.x1 rfl rfl) (RnL.cons (Rn.x1 rfl rfl) (RnL.cons (Rn.x1 rfl rfl) RnL.nil)))))))) (RB.cells rfl rfl gg (RnL.same rfl) (RB.cells rfl rfl gg (RnL.same (QaX (Qax Qaa _) hn1)) (RB.cells rfl rfl gg (RnL.same (QaX (Qax Qaa _) hn2)) (RB.cells rfl rfl gg (RnL.same (QaX (Qab _) rfl)) (RB.cells rfl rfl gg (RnL.same (Qb0 _)) RB.nil))))))
        | some y =>
          rw[hfd]at hrw
          replace hrw:(grs c i t).toList=[(i,3,y.2,(y.1:Int))]:=hrw
          obtain⟨n,hn1',hn2',hn3'⟩:=QlE hfd
          have hlen:n<(gys c (ixT P t1) t2).length:=(List.getElem?_eq_some_iff.1 hn1').1
          have hlt5:=QlF h (List.mem_of_getElem? hn1')
          have hctl:(c.ev.getD y.1 ev0).c=false:=by simpa using hn2'
          obtain⟨E,hxE⟩:=Qav hlt5
          have hdE:=Qec hxE
          have hdF:5<=((c.ev.flatMap evnC).drop (y.1*5)).length:=by rw[hdE];simp
          rw[Qa5 hxE]at hctl
          refine QcV (n':=700) (b:=150) (T':=[(1,.ptr 51 0 0),(2,.ptr 53 0 0),(4,.fptr (gtG c p q P T)),(6,.ptr 52 0 0),(7,.ptr 54 0 0),(35,tuV T),(36,.int .i64 T.length),(37,.int .i64 i),(99,grF c (ixT P t1) t2)]) (L:=[(51,.cells 0 [evns c.ev,itsN c.cs,itsN c.rs,exsZ [],cosZ c.ks]),(52,.cells 0 [sliN q.al,.int .i64 (q.n:Int),sliN q.ms,egsN q.es,.sl 60 0 0 (i+1) 1,.sl 61 0 0 (i+1) 1,.sl 62 0 0 (i+1) 1,.sl 63 0 0 (gforb c i).length 4]),(53,.cells 0 [.nilsl,.int .i64 0,.nilsl,.nilsl,.nilsl,.nilsl,.nilsl,.nilsl]),(54,.cells 0 [.int .i64 (i:Int)]),(60,.cells 0 (LA.map sliN++[sliN t1])),(61,.cells 0 (LB.map sliN++[sliN t2])),(62,.cells 0 (ints (nz LP)++[.int .i64 (ixT P t1:Int)])),(63,.cells 0 ((gforb c i).flatMap rsC))]) (st:= .done (.exit 2)) ?hrec rfl hnone rfl (hfor (m:=1000) hk t2 hr2 hrn2 (fun _=>_) (((((hp [(51,.cells 0 [evns c.ev,itsN c.cs,itsN c.rs,exsZ [],cosZ c.ks]),(52,.cells 0 [sliN q.al,.int .i64 (q.n:Int),sliN q.ms,egsN q.es,.sl 60 0 0 (i+1) 1,.sl 61 0 0 (i+1) 1,.sl 62 0 0 (i+1) 1,.sl 63 0 0 (gforb c i).length 4]),(53,.cells 0 [.nilsl,.int .i64 0,.nilsl,.nilsl,.nilsl,.nilsl,.nilsl,.nilsl]),(54,.cells 0 [.int .i64 (i:Int)]),(60,.cells 0 (LA.map sliN++[sliN t1])),(61,.cells 0 (LB.map sliN++[sliN t2])),(62,.cells 0 (ints (nz LP)++[.int .i64 (ixT P t1:Int)])),(63,.cells 0 ((gforb c i).flatMap rsC))]).set 315 (.cells 0 (rsC (i,3,y.2,(y.1:Int))))).set 63 (.cells 1 ((gforb c i).flatMap rsC++rsC (i,3,y.2,(y.1:Int))))).set 52 (.cells 0 [sliN q.al,.int .i64 (q.n:Int),sliN q.ms,egsN q.es,.sl 60 0 0 (i+1) 1,.sl 61 0 0 (i+1) 1,.sl 62 0 0 (i+1) 1,.sl 63 1 0 ((gforb c i).length+1) 4])).set 150 (.loop 0 120 [(1,.ptr 51 0 0),(2,.ptr 53 0 0),(4,.fptr (gtG c p q P T)),(6,.ptr 52 0 0),(7,.ptr 54 0 0),(35,tuV T),(36,.int .i64 T.length),(37,.int .i64 i),(99,grF c (ixT P t1) t2)] [100,101] (.s lpA) (.s lpB) (.done (.exit 2)))) n ?hfr (Nat.le_of_lt hlen) ?hY (.inr ⟨y,hn1',?hS⟩)) gg ?hQ
          case hrec=>
            refine⟨[(51,.blk 51 0),(52,.blk 52 0),(53,.blk 53 0),(54,.blk 204 0),(60,.blk 60 1),(61,.blk 61 1),(62,.blk 62 1),(63,.blk 63 0)],rfl,RO.zero,?_,RT.cons (Rn.x2 rfl rfl) (RT.cons (Rn.x2 rfl rfl) (RT.cons (Rn.same hS) (RT.cons (Rn.x2 rfl rfl) (RT.cons (Rn.x2 rfl rfl) (RT.cons (Rn.same hnT) (RT.cons (Rn.same rfl) (RT.cons (Rn.same rfl) (RT.cons (Rn.same (Qf7 _ _ _)) RT.nil))))))))⟩
            exact RB.cells rfl rfl gg (RnL.same hnr) (RB.cells rfl rfl gg (RnL.cons (Rn.same (Qaa _)) (RnL.cons (Rn.same rfl) (RnL.cons (Rn.same (Qaa _)) (RnL.cons (Rn.same (Qak _)) (RnL.cons (Rn.x1 rfl rfl) (RnL.cons (Rn.x1 rfl rfl) (RnL.cons (Rn.x1 rfl rfl) (RnL.cons (Rn.x1 rfl rfl) RnL.nil)))))))) (RB.cells rfl rfl gg (RnL.same rfl) (RB.cells rfl rfl gg (RnL.same rfl) (RB.cells rfl rfl gg (RnL.same (QaX (Qax Qaa _) hn1)) (RB.cells rfl rfl gg (RnL.same (QaX (Qax Qaa _) hn2)) (RB.cells rfl rfl gg (RnL.same (QaX (Qab _) rfl)) (RB.cells rfl rfl gg (RnL.same (Qb0 _)) RB.nil)))))))
          case hfr=>
            exact(by repeat (first|exact Fresh.e|exact Fresh.le (by assumption) (by omega)|refine Fresh.set ?_ (by omega) (by omega)))
          case hY=>
            intro j z hj hz
            have hlt5:=QlF h (List.mem_of_getElem? hz)
            have hctl:(c.ev.getD z.1 ev0).c=true:=by simpa using hn3' j z hj hz
            obtain⟨E,hxE⟩:=Qav hlt5
            have hdE:=Qec hxE
            have hdF:5<=((c.ev.flatMap evnC).drop (z.1*5)).length:=by rw[hdE];simp
            rw[Qa5 hxE]at hctl
            refine RSpec.of_wS (n:=300) rfl gg rfl rfl rfl ?_
            simp(disch:=first|omega|exact PairsOK.mk rfl|(simp only[lenW]<;>omega)) only[upsT,hctl,hlt5,hdE,hdF,Qac,Qad,Qae,Qag,Qaj,Qam,wW,wV,simprocAttr]
            exact⟨rfl,fun x=>set3 rfl⟩
          case hS=>
            refine RSpec.of_wS (n:=300) rfl gg rfl rfl rfl ?_
            simp(disch:=first|omega|exact PairsOK.mk rfl|(simp only[lenW]<;>omega)) only[upsT,hctl,hlt5,hdE,hdF,hlf,Qac,Qad,Qae,Qag,Qaj,Qam,wW,wV,simprocAttr]
            exact⟨rfl,fun x=>set6 rfl⟩
          case hQ=>
            unfold leftQ
            refine⟨rfl,?_⟩
            simp(disch:=first|omega|exact PairsOK.mk rfl|(simp only[lenW]<;>omega)) only[Qac,Qad,Qae,Qag,Qaj,Qam,wW,wV,simprocAttr]
            refine⟨i+1,by omega,by omega,?_⟩
            rw[hia,hib,hip,hsi,hrsi,hrw,hfa,List.length_append,QaU,QaK]
            refine⟨[(51,.blk 51 0),(52,.blk 52 0),(53,.blk 53 0),(60,.blk 60 0),(61,.blk 61 0),(62,.blk 62 0),(63,.blk 63 1)],rfl,RO.zero,?_,RT.cons (Rn.x2 rfl rfl) (RT.cons (Rn.x2 rfl rfl) (RT.cons (Rn.same hS) (RT.cons (Rn.x2 rfl rfl) (RT.cons (Rn.same hnT) au28))))⟩
            exact RB.cells rfl rfl gg (RnL.same hnr) (RB.cells rfl rfl gg (RnL.cons (Rn.same (Qaa _)) (RnL.cons (Rn.same rfl) (RnL.cons (Rn.same (Qaa _)) (RnL.cons (Rn.same (Qak _)) (RnL.cons (Rn.x1 rfl rfl) (RnL.cons (Rn.x1 rfl rfl) (RnL.cons (Rn.x1 rfl rfl) (RnL.cons (Rn.x1 rfl rfl) RnL.nil)))))))) (RB.cells rfl rfl gg (RnL.same rfl) (RB.cells rfl rfl gg (RnL.same (QaX (Qax Qaa _) hn1)) (RB.cells rfl rfl gg (RnL.same (QaX (Qax Qaa _) hn2)) (RB.cells rfl rfl gg (RnL.same (QaX (Qab _) rfl)) (RB.cells rfl rfl gg (RnL.same (QaX (Qb0 _) rfl)) RB.nil))))))
    · have e : i = T.length := by omega
      subst e
      have hla:((gpA c T).map sliN).length=T.length:=by unfold gpA;simp
      have hlb:((gpB c T).map sliN).length=T.length:=by unfold gpB;simp
      have hlp:(ints (nz (gpP c P T))).length=T.length:=by unfold gpP;simp[ints]
      have hlf:=Qpl (gforb c T.length)
      simp(disch:=first|omega|exact PairsOK.mk rfl|(simp only[lenW]<;>omega)) only[hlt,List.take_length,Qac,Qad,Qae,Qag,Qaj,Qam,wW,wV,simprocAttr]
      refine⟨(),[(52,.blk 52 0),(53,.blk 53 0)],rfl,RO.zero,?_,RT.cons (Rn.x2 rfl rfl) (RT.cons (Rn.x2 rfl rfl) RT.nil)⟩
      exact RB.cells rfl rfl gg (RnL.cons (Rn.same (Qaa _)) (RnL.cons (Rn.same rfl) (RnL.cons (Rn.same (Qaa _)) (RnL.cons (Rn.same (Qak _)) (RnL.cons (Rn.fzm (b:=60) (g:=0) gg rfl rfl (by simp[gpA]) (by simpa using hla) (RnL.same (Qax Qaa _))) (RnL.cons (Rn.fzm (b:=61) (g:=0) gg rfl rfl (by simp[gpB]) (by simpa using hlb) (RnL.same (Qax Qaa _))) (RnL.cons (Rn.fzm (b:=62) (g:=0) gg rfl rfl (by simp[gpP]) (by simpa using hlp) (RnL.same (Qab _))) (RnL.cons (Rn.fzm (b:=63) (g:=0) gg rfl rfl rfl hlf (RnL.same (Qb0 _))) RnL.nil)))))))) (RB.cells rfl rfl gg (RnL.same rfl) RB.nil)
  rintro _ _
  simp(disch:=first|omega|exact PairsOK.mk rfl|(simp only[lenW]<;>omega)) only[Qac,Qad,Qae,Qag,Qaj,Qam,wW,wV,simprocAttr]
  exact⟨.inr trivial,_,rfl,Rn.same hns⟩
end Go.AM.SO
namespace Go.AM.OE
open Go.Proofs
set_option maxHeartbeats 4000000
noncomputable section
def cf:YA.Cf:={most:= .pure,value:= .pure}
def s27:SFn:=by
 refine(?f:YA.Yt Tryz.prog cf 27 [[4,5],[10,11],[12],[0,1,6,13,14],[4,5,6,13,15,16],[1,7,18,19,20,17,21,22],[9,23],[0,8,24],[0,8,24,25,26,27]]) ?s ?h
 case h=>exact YA.rr
 exact fun s _=>s
def s48:SFn:=by
 refine(?f:YA.Yt Tryz.prog cf 48 [[0,2],[1,3,4,5]]) ?s ?h
 case h=>exact YA.rr
 exact fun s _=>s
def s53:SFn:=by
 refine(?f:YA.Yt Tryz.prog cf 53 [[4],[],[0],[],[11,12,13,14],[7,15,16],[6,17,18,19,20,21],[6,17,22],[1,5,8,9,10,23]]) ?s ?h
 case h=>exact YA.rr
 exact fun s _=>s
theorem ok27:okFn Tryz.prog 27 s27=true:=by kernel_rfl
theorem ok48:okFn Tryz.prog 48 s48=true:=by kernel_rfl
theorem ok53:okFn Tryz.prog 53 s53=true:=by kernel_rfl
end
end Go.AM.OE
namespace Go.AM.TY
open Go.Proofs
set_option maxHeartbeats 4000000
noncomputable section
def cf:YA.Cf:={most:= .pure}
def s9:SFn:=by
 refine(?f:YA.Yt Tryz.prog cf 9 [[0,4],[12,13,11,14,15],[16],[1,5,6,17,18,19,20],[4,6,17],[21],[],[25,26,27],[9,28,29,30,31,32],[33],[1,22,23,24,35,36,37,34,38,39],[40],[5,7,10,6,41,42,43,44],[5,7,10,6,41,45,46,47,48,49,50]]) ?s ?h
 case h=>exact YA.rr
 exact fun s _=>s
def s12:SFn:=by
 refine(?f:YA.Yt Tryz.prog cf 12 [[0,3],[1,8,9,7,10,11,12,4],[5,6,13,14,15]]) ?s ?h
 case h=>exact YA.rr
 exact fun s _=>s
theorem ok9:okFn Tryz.prog 9 s9=true:=by kernel_rfl
theorem ok12:okFn Tryz.prog 12 s12=true:=by kernel_rfl
end
end Go.AM.TY
namespace Go.AM.SO
open Go.Proofs Go.AM.SD Go.AM.SE
def fbs (l:List (Nat×Int×Int×Int)):List Nat:=l.map (·.1)
theorem Qqf {l:List (Nat×Int×Int×Int)} {i:Nat} {x:Nat×Int×Int×Int} (h:l[i]?=some x):(l.flatMap rsC).drop (i*4)= .int .i64 (x.1:Int):: .int .i64 x.2.1:: .int .i64 x.2.2.1:: .int .i64 x.2.2.2::(l.drop (i+1)).flatMap rsC:=Qbw (f:=rsC) (k:=4) (fun _=>rfl) h
theorem Qqg {l:List (Nat×Int×Int×Int)} {i:Nat} {x:Nat×Int×Int×Int} (h:l[i]?=some x):fbs (l.take (i+1))=fbs (l.take i)++[x.1]:=by
 unfold fbs;rw[take_succ' h,List.map_append];rfl
theorem Qrb {l:List (Nat×Int×Int×Int)} {i:Nat} (h:i<=l.length):(fbs (l.take i)).length=i:=by
 unfold fbs;rw[List.length_map,List.length_take];omega
abbrev ni9:List AV:=[.nilsl,.nilsl,.nilsl,.int .i64 0,.nilsl,.int .i64 0,.nilsl,.nilsl,.nilsl]
abbrev ni8:List AV:=[.nilsl,.int .i64 0,.nilsl,.nilsl,.nilsl,.nilsl,.nilsl,.nilsl]
end Go.AM.SO
namespace Go.AM.SO
open Go.Proofs Go.AM.SD Go.AM.SE
def uncG (e:List Evn) (n:Nat):List Nat:=(List.range n).filter fun i=> !(e.getD i ev0).c
theorem Qqh (e:List Evn) (n:Nat):uncG e (n+1)=uncG e n++if(e.getD n ev0).c then[]else[n]:=by
 unfold uncG
 rw[List.range_succ,List.filter_append]
 congr 1
 rw[List.filter_cons]
 cases h:(e.getD n ev0).c<;>rfl
theorem Qrc (e:List Evn) (n:Nat):(uncG e n).length<=n:=by
 have:=List.length_filter_le (fun i=> !(e.getD i ev0).c) (List.range n)
 rwa [List.length_range]at this
theorem unc104 (x:Evn):PSpec Tryz.prog 48 [.agg [.str x.nm,.bool x.c,.bool x.o,.bool x.f,.int .i64 x.flt]] (.bool (!x.c)):=by
 refine PSpec.QaB 64 OE.ok48 rfl rfl rfl ?_
 cases h:x.c
 all_goals
  simp(disch:=first|omega|exact PairsOK.mk rfl|(simp only[lenW]<;>omega)) only[OE.s48,h,Qac,Qad,Qae,Qag,Qaj,Qam,wW,wV,simprocAttr]
  exact⟨.inr trivial,_,rfl,rfl⟩
theorem gchosen109 (e : List Evn) (hl : e.length <= 32) : PSpec Tryz.prog 53 [evns e, .fn 48 [] []] (sliN (uncG e e.length)) := by
  have hne:=Qcg e
  refine PSpec.of_rn 64 OE.ok53 rfl (by simp only[noRefs,noRef,hne];rfl) (Qaa _) ?_
  simp(disch:=first|omega|exact PairsOK.mk rfl|(simp only[lenW]<;>omega)) only[OE.s53,Qac,Qad,Qae,Qag,Qaj,Qam,wW,wV,simprocAttr]
  refine Qay 100 (fun i:Nat=>[(1,.fn 48 [] []),(5,.sl 76 0 0 (uncG e i).length 1),(8,evns e),(9,.int .i64 e.length),(10,.int .i64 i)]) (fun i=>[(76,.cells 0 (ints (nz (uncG e i))))]) (fun i=>i<=e.length) (fun i=>e.length-i) 0 0 160
    (fun _:Unit=>[(5,sliN (uncG e e.length))]) (fun _=>[]) (fun _=>True) ?_ (Nat.zero_le _) ?_ ?_
  · refine ⟨[(76, .nil)], rfl, au0, ?_, au28⟩
    exact RB.newnil rfl rfl RB.nil
  · rintro i hi
    have hul:=Qrc e i
    by_cases hlt:i<e.length
    · obtain ⟨x, hx⟩ := Qav hlt
      have hdr:=Qec hx
      have hdl:5<=((e.flatMap evnC).drop (i*5)).length:=by rw[hdr];simp
      have hsuc:=Qqh e i
      have hc:=unc104 x
      rw[Qa5 hx]at hsuc
      cases h:x.c
      · rw [h] at hsuc
        simp(disch:=first|omega|exact PairsOK.mk rfl|(simp only[lenW]<;>omega)) only[hlt,hdr,hdl,Qac,Qad,Qae,Qag,Qaj,Qam,wW,wV,simprocAttr]
        refine cp hc ?_
        simp(disch:=first|omega|exact PairsOK.mk rfl|(simp only[lenW]<;>omega)) only[h,Qac,Qad,Qae,Qag,Qaj,Qam,wW,wV,simprocAttr]
        refine⟨i+1,by omega,by omega,?_⟩
        rw[hsuc,if_neg (by simp),List.length_append,QaU,QaK]
        refine⟨[(76,.blk 76 1)],rfl,au0,?_,au28⟩
        exact RB.cells rfl rfl gg (RnL.same (SU.Qa8 (Qab _) rfl)) RB.nil
      · rw [h] at hsuc
        simp(disch:=first|omega|exact PairsOK.mk rfl|(simp only[lenW]<;>omega)) only[hlt,hdr,hdl,Qac,Qad,Qae,Qag,Qaj,Qam,wW,wV,simprocAttr]
        refine cp hc ?_
        simp(disch:=first|omega|exact PairsOK.mk rfl|(simp only[lenW]<;>omega)) only[h,Qac,Qad,Qae,Qag,Qaj,Qam,wW,wV,simprocAttr]
        refine⟨i+1,by omega,by omega,?_⟩
        rw[hsuc,if_pos rfl,List.append_nil]
        refine⟨[(76,.blk 76 0)],rfl,au0,?_,au28⟩
        exact RB.cells rfl rfl gg (RnL.same (Qab _)) RB.nil
    · have e5 : i = e.length := by omega
      subst e5
      simp(disch:=first|omega|exact PairsOK.mk rfl|(simp only[lenW]<;>omega)) only[hlt,Qac,Qad,Qae,Qag,Qaj,Qam,wW,wV,simprocAttr]
      refine⟨(),?_⟩
      exact⟨[],rfl,RO.zero,RB.nil,RT.cons (Rn.fzm (b:=76) (g:=0) gg rfl rfl (by simp) (by simp[ints]) (RnL.same (Qab _))) RT.nil⟩
  rintro _ _
  simp(disch:=first|omega|exact PairsOK.mk rfl|(simp only[lenW]<;>omega)) only[Qac,Qad,Qae,Qag,Qaj,Qam,wW,wV,simprocAttr]
  exact⟨.inr trivial,_,rfl,Rn.same (Qaa _)⟩
theorem gselect47 (e:List Evn) (hl:e.length<=32) (hC:PSpec Tryz.prog 46 [evns e] (.int .i64 0)):PSpec Tryz.prog 27 [evns e,.int .i64 2] (.tup [sliN (uncG e e.length),.int .i64 0]):=by
 have hne:=Qc8 e
 refine PSpec.of_rn 64 OE.ok27 rfl (by simp only[noRefs,hne];rfl) (by simp only[noRef,noRefs,Qab];rfl) ?_
 have hH:=gchosen109 e hl
 simp(disch:=first|omega|exact PairsOK.mk rfl|(simp only[lenW]<;>omega)) only[OE.s27,Qac,Qad,Qae,Qag,Qaj,Qam,wW,wV,simprocAttr]
 refine cp hC ?_
 simp(disch:=first|omega|exact PairsOK.mk rfl|(simp only[lenW]<;>omega)) only[Qac,Qad,Qae,Qag,Qaj,Qam,wW,wV,simprocAttr]
 refine QbP ?_
 simp(disch:=first|omega|exact PairsOK.mk rfl|(simp only[lenW]<;>omega)) only[Qac,Qad,Qae,Qag,Qaj,Qam,wW,wV,simprocAttr]
 refine QcD (f:=fun _=> .any) (l:=[]) (x:=1) (by simp) (by decide) ?_
 simp(disch:=first|omega|exact PairsOK.mk rfl|(simp only[lenW]<;>omega)) only[Qac,Qad,Qae,Qag,Qaj,Qam,wW,wV,simprocAttr]
 refine QbP ?_
 simp(disch:=first|omega|exact PairsOK.mk rfl|(simp only[lenW]<;>omega)) only[Qac,Qad,Qae,Qag,Qaj,Qam,wW,wV,simprocAttr]
 refine QcD (x:=2) (by simp) (by decide) ?_
 simp(disch:=first|omega|exact PairsOK.mk rfl|(simp only[lenW]<;>omega)) only[Qac,Qad,Qae,Qag,Qaj,Qam,wW,wV,simprocAttr]
 refine QbP ?_
 simp(disch:=first|omega|exact PairsOK.mk rfl|(simp only[lenW]<;>omega)) only[Qac,Qad,Qae,Qag,Qaj,Qam,wW,wV,simprocAttr]
 refine QcD (x:=3) (by simp) (by decide) ?_
 simp(disch:=first|omega|exact PairsOK.mk rfl|(simp only[lenW]<;>omega)) only[Qac,Qad,Qae,Qag,Qaj,Qam,wW,wV,simprocAttr]
 refine QbP ?_
 simp(disch:=first|omega|exact PairsOK.mk rfl|(simp only[lenW]<;>omega)) only[Qac,Qad,Qae,Qag,Qaj,Qam,wW,wV,simprocAttr]
 refine QcD (x:=4) (by simp) (by decide) ?_
 simp(disch:=first|omega|exact PairsOK.mk rfl|(simp only[lenW]<;>omega)) only[Qac,Qad,Qae,Qag,Qaj,Qam,wW,wV,simprocAttr]
 refine QbP ?_
 simp(disch:=first|omega|exact PairsOK.mk rfl|(simp only[lenW]<;>omega)) only[Qac,Qad,Qae,Qag,Qaj,Qam,wW,wV,simprocAttr]
 refine QcD (x:=5) (by simp) (by decide) ?_
 simp(disch:=first|omega|exact PairsOK.mk rfl|(simp only[lenW]<;>omega)) only[Qac,Qad,Qae,Qag,Qaj,Qam,wW,wV,simprocAttr]
 refine QbP ?_
 simp(disch:=first|omega|exact PairsOK.mk rfl|(simp only[lenW]<;>omega)) only[Qac,Qad,Qae,Qag,Qaj,Qam,wW,wV,simprocAttr]
 refine QcD (x:=6) (by simp) (by decide) ?_
 simp(disch:=first|omega|exact PairsOK.mk rfl|(simp only[lenW]<;>omega)) only[Qac,Qad,Qae,Qag,Qaj,Qam,wW,wV,simprocAttr]
 refine Qdq ?_
 simp(disch:=first|omega|exact PairsOK.mk rfl|(simp only[lenW]<;>omega)) only[Qac,Qad,Qae,Qag,Qaj,Qam,wW,wV,simprocAttr]
 refine wK_in (x:=2) (by simp) ?_
 have hu:updF (updF (updF (updF (updF (updF (fun _=> .any) 1 (.fn 47 [] [])) 2 (.fn 48 [] [])) 3 (.fn 49 [] [])) 4 (.fn 50 [] [])) 5 (.fn 51 [] [])) 6 (.fn 52 [] []) 2= .fn 48 [] []:=rfl
 simp(disch:=first|omega|exact PairsOK.mk rfl|(simp only[lenW]<;>omega)) only[hu,Qac,Qad,Qae,Qag,Qaj,Qam,wW,wV,simprocAttr]
 refine cp hH ?_
 simp(disch:=first|omega|exact PairsOK.mk rfl|(simp only[lenW]<;>omega)) only[Qac,Qad,Qae,Qag,Qaj,Qam,wW,wV,simprocAttr]
 exact⟨.inr trivial,_,rfl,Rn.same (by simp only[noRef,noRefs,Qab];rfl)⟩
theorem WfG.evErr {c:CelA} (h:WfG c):evErr c.ev=0:=by
 have:=h.er
 unfold celErr at this
 split at this
 ·rename_i q;exact absurd this q
 ·rename_i q;exact Decidable.not_not.1 q
theorem WfG.ev32 {c:CelA} (h:WfG c):c.ev.length<=32:=QjL h.evErr
theorem WfG.ev102 {c:CelA} (h:WfG c):PSpec Tryz.prog 46 [evns c.ev] (.int .i64 0):=by
 have:=check82X c.ev h.ok.el h.ok.en
 rwa [h.evErr]at this
theorem Qm5 (e:List Evn) (h:e.length<=32):(uncG e e.length).Pairwise (· < ·)/\∀x∈uncG e e.length,x<32:=by
 refine⟨List.pairwise_lt_range.filter _,fun x hx=>?_⟩
 have:=List.mem_range.1 (List.mem_filter.1 hx).1
 omega
abbrev gfbd (c:CelA):List Nat:=fbs (gforb c (sync0 (allN c)).1.length)
theorem Qqi {c:CelA} {i:Nat} {x:Nat×Int×Int×Int} (h:x∈grsO c i):x.1=i:=by
 unfold grsO grs at h
 split at h
 ·simp at h;rw[h]
 ·simp at h
  obtain⟨a,b,_,rfl⟩:=h
  rfl
theorem QiD (c:CelA):∀n,(fbs (gforb c n)).Pairwise (· < ·)/\∀x∈fbs (gforb c n),x<n
 |0=>by simp[gforb,fbs]
 | n + 1 => by
  obtain⟨h1,h2⟩:=QiD c n
  rw[Qfh]
  unfold fbs at h1 h2⊢
  rw[List.map_append]
  have hm:∀x∈(grsO c n).map (·.1),x=n:=fun x hx=>by
   obtain⟨y,hy,rfl⟩:=List.mem_map.1 hx
   exact Qqi hy
  have hl:((grsO c n).map (·.1)).Pairwise (· < ·):=by
   unfold grsO
   cases grs c n _<;>simp
  refine⟨List.pairwise_append.2 ⟨h1,hl,fun x hx y hy=>?_⟩,fun x hx=>?_⟩
  ·rw[hm y hy];exact h2 x hx
  ·rcases List.mem_append.1 hx with hx | hx
   ·have:=h2 x hx;omega
   ·rw[hm x hx];omega
theorem qokG (c:CelA) (h:WfG c):QOk (syncA (allN c)) (gfbd c) (uncG c.ev c.ev.length):=⟨(QiD c _).1,(QiD c _).2,(Qm5 _ h.ev32).1,(Qm5 _ h.ev32).2⟩
theorem wfAG (c:CelA) (h:WfG c):WfA (syncA (allN c)):=Qff h.all h.ql
def resG (c:CelA):Res:=pRes (syncA (allN c)) (gfbd c) (uncG c.ev c.ev.length) true
theorem cellG (c : CelA) (h : WfG c) : PSpec Tryz.prog 9 [celG c] (.tup [.agg (gpC c), SE.rsV (resG c), .int .i64 0]) := by
  have hnc:=QbF c
  have hns:noRefs (gpC c)=true:=Qie _ _ _ _
  refine PSpec.of_rn 64 TY.ok9 rfl (by rw[noRefs,Qcj];rfl) (by rw[noRef,noRefs,noRef,hns,noRefs,QfY];rfl) ?_
  have hO:=specG c h
  have hE:=gselect47 c.ev h.ev32 h.ev102
  have hw:=wfAG c h
  have hel:=WfA.el1 hw
  have hR:=result39 (syncA (allN c)) (gfbd c) (uncG c.ev c.ev.length) true hw (qokG c h) (by omega)
  have hnr:=QfY (pRes (syncA (allN c)) (gfbd c) (uncG c.ev c.ev.length) true)
  have hle:=Qf8 c (sync0 (allN c)).1.length
  have hTl:(sync0 (allN c)).1.length<=4096:=hw.n5
  have hqn:(syncA (allN c)).n=(sync0 (allN c)).1.length:=rfl
  unfold resG
  rw[gpC,gpG]at hO hns⊢
  unfold gfbd at*
  generalize gforb c (sync0 (allN c)).1.length=L at*
  generalize pRes (syncA (allN c)) (fbs L) (uncG c.ev c.ev.length) true=R at*
  generalize syncA (allN c)=q at*
  generalize (sync0 (auN c.cs)).1=P at*
  generalize (sync0 (allN c)).1=T at*
  have hsa:(gpA c T).length=T.length:=by simp[gpA]
  have hsb:(gpB c T).length=T.length:=by simp[gpB]
  simp(disch:=first|omega|exact PairsOK.mk rfl|(simp only[lenW]<;>omega)) only[TY.s9,Qac,Qad,Qae,Qag,Qaj,Qam,wW,wV,simprocAttr]
  refine cp hO ?_
  simp(disch:=first|omega|exact PairsOK.mk rfl|(simp only[lenW]<;>omega)) only[Qac,Qad,Qae,Qag,Qaj,Qam,wW,wV,simprocAttr]
  refine Qay 140 (fun i:Nat=>[(1,.ptr 51 0 0),(2,.ptr 53 0 0),(3,.ptr 54 0 0),(5,.ptr 52 0 0),(7,.sl 76 0 0 i 1),(22,rss L),(23,.int .i64 L.length),(24,.int .i64 i)]) (fun i=>[(51,.cells 0 [evns c.ev,itsN c.cs,itsN c.rs,exsZ [],cosZ c.ks]),(52,.cells 0 [sliN q.al,.int .i64 (q.n:Int),sliN q.ms,egsN q.es,tuV (gpA c T),tuV (gpB c T),sliN (gpP c P T),rss L]),(53,.cells 0 ni8),(54,.cells 0 ni9),(76,.cells 0 (ints (nz (fbs (L.take i)))))]) (fun i=>i<=L.length) (fun i=>L.length-i) 0 0 200
    (fun _:Unit=>[(1,.ptr 51 0 0),(2,.ptr 53 0 0),(3,.ptr 54 0 0),(5,.ptr 52 0 0),(7,sliN (fbs L))]) (fun _=>[(51,.cells 0 [evns c.ev,itsN c.cs,itsN c.rs,exsZ [],cosZ c.ks]),(52,.cells 0 [sliN q.al,.int .i64 (q.n:Int),sliN q.ms,egsN q.es,tuV (gpA c T),tuV (gpB c T),sliN (gpP c P T),rss L]),(53,.cells 0 ni8),(54,.cells 0 ni9)]) (fun _=>True) ?_ (Nat.zero_le _) ?_ ?_
  · refine ⟨[(51, .blk 64 0), (52, .blk 73 0), (53, .blk 65 0), (54, .blk 66 0), (76, .nil)], rfl, au0, ?_, au28⟩
    exact RB.cells rfl rfl gg (RnL.same hnc) (RB.cells rfl rfl gg (RnL.same hns) (RB.cells rfl rfl gg (RnL.same rfl) (RB.cells rfl rfl gg (RnL.same rfl) (RB.newnil rfl rfl RB.nil))))
  · rintro i hi
    by_cases hlt:i<L.length
    · obtain ⟨x, hx⟩ := Qav hlt
      have hdr:=Qqf hx
      have hdl:4<=((L.flatMap rsC).drop (i*4)).length:=by rw[hdr];simp
      have hil:(ints (nz (fbs (L.take i)))).length=i:=by simp[ints,Qrb (show i<=L.length by omega)]
      simp(disch:=first|omega|exact PairsOK.mk rfl|(simp only[lenW]<;>omega)) only[hlt,hdr,hdl,hil,Qac,Qad,Qae,Qag,Qaj,Qam,wW,wV,simprocAttr]
      refine⟨i+1,by omega,by omega,?_⟩
      rw[Qqg hx,QaU,QaK]
      refine⟨[(51,.blk 51 0),(52,.blk 52 0),(53,.blk 53 0),(54,.blk 54 0),(76,.blk 76 1)],rfl,au0,?_,au28⟩
      exact RB.cells rfl rfl gg (RnL.same hnc) (RB.cells rfl rfl gg (RnL.same hns) (RB.cells rfl rfl gg (RnL.same rfl) (RB.cells rfl rfl gg (RnL.same rfl) (RB.cells rfl rfl gg (RnL.same (QaX (Qab _) rfl)) RB.nil))))
    · have e : i = L.length := by omega
      subst e
      simp(disch:=first|omega|exact PairsOK.mk rfl|(simp only[lenW]<;>omega)) only[hlt,List.take_length,Qac,Qad,Qae,Qag,Qaj,Qam,wW,wV,simprocAttr]
      refine⟨(),?_⟩
      exact⟨[(51,.blk 51 0),(52,.blk 52 0),(53,.blk 53 0),(54,.blk 54 0)],rfl,RO.zero,RB.cells rfl rfl gg (RnL.same hnc) (RB.cells rfl rfl gg (RnL.same hns) (RB.cells rfl rfl gg (RnL.same rfl) (RB.cells rfl rfl gg (RnL.same rfl) RB.nil))),
        RT.cons (Rn.x2 rfl rfl) (RT.cons (Rn.x2 rfl rfl) (RT.cons (Rn.x2 rfl rfl) (RT.cons (Rn.x2 rfl rfl) (RT.cons (Rn.fzm (b:=76) (g:=0) gg rfl rfl (by simp[fbs]) (by simp[ints,fbs]) (RnL.same (Qab _))) RT.nil))))⟩
  rintro _ _
  simp(disch:=first|omega|exact PairsOK.mk rfl|(simp only[lenW]<;>omega)) only[Qac,Qad,Qae,Qag,Qaj,Qam,wW,wV,simprocAttr]
  refine cp hE ?_
  simp(disch:=first|omega|exact PairsOK.mk rfl|(simp only[lenW]<;>omega)) only[Qac,Qad,Qae,Qag,Qaj,Qam,wW,wV,simprocAttr]
  refine cp hR ?_
  simp(disch:=first|omega|exact PairsOK.mk rfl|(simp only[lenW]<;>omega)) only[Qac,Qad,Qae,Qag,Qaj,Qam,wW,wV,simprocAttr]
  refine⟨.inr trivial,_,rfl,Rn.same ?_⟩
  rw[noRef,noRefs,noRef,hns,noRefs,hnr];rfl
theorem supG (c:CelA) (h:WfG c):PSpec Tryz.prog 12 [celG c] (.tup [aV (resG c).sup,.int .i64 0]):=by
 have hnc:=QbF c
 refine PSpec.of_rn 64 TY.ok12 rfl (by rw[noRefs,Qcj];rfl) (by simp only[noRef,noRefs,Qab,Qaf];rfl) ?_
 have hO:=cellG c h
 rw[gpC,gpG]at hO
 generalize resG c=R at*
 have hnT:=Qbo (gpA c (sync0 (allN c)).1)
 have hnT2:=Qbo (gpB c (sync0 (allN c)).1)
 generalize gforb c (sync0 (allN c)).1.length=L at*
 generalize gpP c (sync0 (auN c.cs)).1 (sync0 (allN c)).1=P at*
 generalize gpA c (sync0 (allN c)).1=A at*
 generalize gpB c (sync0 (allN c)).1=B at*
 generalize syncA (allN c)=q at*
 simp(disch:=first|omega|exact PairsOK.mk rfl|(simp only[lenW]<;>omega)) only[TY.s12,Qac,Qad,Qae,Qag,Qaj,Qam,wW,wV,simprocAttr]
 refine cp hO ?_
 simp(disch:=first|omega|exact PairsOK.mk rfl|(simp only[lenW]<;>omega)) only[Qac,Qad,Qae,Qag,Qaj,Qam,wW,wV,simprocAttr]
 refine⟨.inr trivial,_,rfl,Rn.same ?_⟩
 simp only[noRef,noRefs,Qab,Qaf];rfl
end Go.AM.SO
namespace Go.AM.SO
open Go.Proofs Go.AM.SD Go.AM.SE
def runA (es:List Ed):Nat->List Nat->Option Nat
 |s,[]=>some s
 |s,x::w=>match stepA es s x with
  |some n=>runA es n w
  |none=>none
def gen (a:Aut) (w:List Nat):Bool:=(runA a.es 0 w).isSome
end Go.AM.SO
namespace Go.AM.TU
open Go.Proofs
set_option maxHeartbeats 4000000
noncomputable section
def cf:YA.Cf:={most:= .pure,always:=[43].map fun k=>(k,.heap)}
def s11:SFn:=by
 refine(?f:YA.Yt Tryz.prog cf 11 [[0,4,5],[9,10],[11],[1,2,6,12,13],[4,5,1,2,6,12,15,16,17,14,18,19,7],[8,20]]) ?s ?h
 case h=>exact YA.rr
 exact fun s _=>s
def s33:SFn:=by
 refine(?f:YA.Yt Tryz.prog cf 33 [[0,4,5],[8,9],[1,2,10],[4,5,2,10,12,13,14,11,15,16],[1,6,7,17,18,19,20,21]]) ?s ?h
 case h=>exact YA.rr
 exact fun s _=>s
def s72:SFn:=by
 refine(?f:YA.Yt Tryz.prog cf 72 [[0,6,7],[],[],[14,15,16,17],[9,18,19,20,21],[22],[1,2,3,11,12,13,8,10,23,24,25],[6,7,8,10,23,26],[27],[1,2,3,11,12,13,28,29,30]]) ?s ?h
 case h=>exact YA.rr
 exact fun s _=>s
theorem ok11:okFn Tryz.prog 11 s11=true:=by kernel_rfl
theorem ok33:okFn Tryz.prog 33 s33=true:=by kernel_rfl
theorem ok72:okFn Tryz.prog 72 s72=true:=by kernel_rfl
end
end Go.AM.TU
namespace Go.AM.SO
open Go.Proofs Go.AM.SD Go.AM.SE
def folA (es:List Ed):Nat->List Nat->Nat×Nat
 |s,[]=>(s,0)
 |s,x::w=>match stepA es s x with
  |some n=>((folA es n w).1,(folA es n w).2+1)
  |none=>(s,0)
theorem QlG {es:List Ed}:∀{w:List Nat} {s:Nat},(folA es s w).2<=w.length/\decide ((folA es s w).2=w.length)=(runA es s w).isSome
 |[],s=>⟨Nat.le_refl _,rfl⟩
 | x :: w, s => by
  unfold folA runA
  cases hs:stepA es s x with
  |none=>exact⟨Nat.zero_le _,rfl⟩
  |some n=>
   obtain⟨h1,h2⟩:=@QlG es w n
   refine⟨by simp;omega,?_⟩
   simp only[List.length_cons]
   rw[<-h2]
   exact decide_eq_decide.2 (by omega)
theorem _root_.Go.AM.au29 {p:Prop} (h:p:=by repeat' (first|exact RB.nil|(refine RnL.same ?_;first|rfl|(simp only[noRef,noRefs,Qah,Bool.and_self,Bool.and_true,Bool.true_and,Qab,Qap,Qaa,Qak,Qa1,Qaf,SU.QfZ];done))|exact RnM.keyM rfl|exact RnL.nil|exact(True.intro:RnM _ _ _ [] [])|refine RnL.cons ?_ ?_|(refine Rn.same ?_;first|rfl|(simp only[noRef,noRefs,Qah,Bool.and_self,Bool.and_true,Bool.true_and,Qab,Qap,Qaa,Qak,Qa1,Qaf,SU.QfZ];done))|exact Rn.x1 rfl rfl|exact Rn.x2 rfl rfl|exact Rn.x3 rfl rfl|exact Rn.x4 rfl rfl|exact Rn.x5 rfl|exact Rn.x6 rfl|exact Rn.x7 rfl|refine RB.newnil rfl rfl ?_|refine RB.cells rfl rfl rfl ?_ ?_|refine RB.map rfl rfl rfl ?_ ?_|refine RB.cellsB rfl rfl ?_ ?_|refine RB.mapB rfl rfl ?_ ?_)):p:=h
theorem follow194 (a:Aut) (w:List Nat) (h:WfA a) (hp:0<a.n) (hw:w.length<=100000):PSpec Tryz.prog 72 [aV a,.int .i64 0,sliN w] (.tup [.int .i64 ((folA a.es 0 w).1:Int),.int .i64 ((folA a.es 0 w).2:Int)]):=by
  have hn:=h.n5
  refine PSpec.QaB 64 TU.ok72 rfl (by(try simp only[noRefs,Qab,Qal,Qaf,noRef,noRefs,Bool.and_self,Bool.and_true])<;>rfl) rfl ?_
  simp(disch:=first|omega|exact PairsOK.mk rfl|(simp only[lenW]<;>omega)) only[TU.s72,Qac,Qad,Qae,wW,wV,simprocAttr]
  refine Qbh 100 (fun s:Nat×Nat=>[(1,.int .i64 s.2),(2,sliN w),(3,.ptr 60 0 0),(11,sliN w),(12,.int .i64 w.length),(13,.int .i64 s.1)])
    (fun _=>[(60,.cells 0 [sliN a.al,.int .i64 (a.n:Int),sliN a.ms,egsN a.es])])
    (fun s=>s.1<=w.length/\s.2<a.n/\folA a.es 0 w=((folA a.es s.2 (w.drop s.1)).1,(folA a.es s.2 (w.drop s.1)).2+s.1)) (fun s=>w.length-s.1) (0,0) ?_ ⟨Nat.zero_le _,hp,rfl⟩ ?_
  · exact⟨[(60,.blk 64 0)],rfl,au0,au29,au25⟩
  rintro⟨i,s⟩ ⟨hi,hs,hf⟩
  simp only at hi hs hf
  by_cases hlt:i<w.length
  · obtain ⟨x, hx⟩ := Qav hlt
    have hdr:=QqO hx
    rw[Nat.mul_one]at hdr
    have hN:=next226 a s x h hs
    unfold nxI at hN
    rw[List.drop_eq_getElem_cons hlt,(List.getElem?_eq_some_iff.1 hx).2]at hf
    simp(disch:=first|omega|exact PairsOK.mk rfl|(simp only[lenW]<;>omega)) only[hlt,hdr,Qac,Qad,Qae,wW,wV,simprocAttr]
    refine cp hN ?_
    cases hst:stepA a.es s x with
    | none =>
      simp only[folA,hst]at hf
      rw[hf]
      simp(disch:=first|omega|exact PairsOK.mk rfl|(simp only[lenW]<;>omega)) only[Qac,Qad,Qae,wW,wV,simprocAttr]
      exact⟨.inr trivial,_,rfl,by(try simp only[Nat.zero_add]);rfl⟩
    | some n =>
      simp only[folA,hst]at hf
      have hnl:=Qk4 h.esn hst
      have g1:¬(n:Int)<0:=by omega
      simp(disch:=first|omega|exact PairsOK.mk rfl|(simp only[lenW]<;>omega)) only[g1,Qac,Qad,Qae,wW,wV,simprocAttr]
      exact⟨(i+1,n),by simp;omega,⟨by simp;omega,hnl,by rw[hf];simp;omega⟩,⟨[(60,.blk 60 0)],rfl,au0,au29,au25⟩⟩
  · have e : i = w.length := by omega
    subst e
    rw[List.drop_length]at hf
    simp only[folA]at hf
    simp(disch:=first|omega|exact PairsOK.mk rfl|(simp only[lenW]<;>omega)) only[hlt,Qac,Qad,Qae,wW,wV,simprocAttr]
    rw[hf]
    exact⟨.inr trivial,_,rfl,by(try simp only[Nat.zero_add]);rfl⟩
theorem reached113 (a:Aut) (w:List Nat) (h:WfA a) (hp:0<a.n) (hw:w.length<=100000):PSpec Tryz.prog 33 [aV a,sliN w] (.tup [.int .i64 ((folA a.es 0 w).1:Int),.bool (gen a w)]):=by
 have hn:=h.n5
 refine PSpec.QaB 64 TU.ok33 rfl (by(try simp only[noRefs,Qab,Qal,Qaf,noRef,noRefs,Bool.and_self,Bool.and_true])<;>rfl) rfl ?_
 have hF:=follow194 a w h hp hw
 obtain⟨h1,h2⟩:=@QlG a.es w 0
 have hd:decide ((folA a.es 0 w).2=w.length)=gen a w:=h2
 have g0:¬(a.n:Int)=0:=by omega
 simp(disch:=first|omega|exact PairsOK.mk rfl|(simp only[lenW]<;>omega)) only[TU.s33,g0,Qac,Qad,Qae,wW,wV,simprocAttr]
 refine cp hF ?_
 simp(disch:=first|omega|exact PairsOK.mk rfl|(simp only[lenW]<;>omega)) only[hd,Qac,Qad,Qae,wW,wV,simprocAttr]
 exact⟨.inr trivial,_,rfl,rfl⟩
theorem generates39 (a:Aut) (w:List Nat) (h:WfA a) (hp:0<a.n) (hw:w.length<=100000):PSpec Tryz.prog 11 [aV a,sliN w] (.tup [.bool (gen a w),.int .i64 0]):=by
 refine PSpec.QaB 64 TU.ok11 rfl (by(try simp only[noRefs,Qab,Qal,Qaf,noRef,noRefs,Bool.and_self,Bool.and_true])<;>rfl) rfl ?_
 have hc:=check112B a h
 have hR:=reached113 a w h hp hw
 simp(disch:=first|omega|exact PairsOK.mk rfl|(simp only[lenW]<;>omega)) only[TU.s11,Qac,Qad,Qae,wW,wV,simprocAttr]
 refine cp hc ?_
 simp(disch:=first|omega|exact PairsOK.mk rfl|(simp only[lenW]<;>omega)) only[Qac,Qad,Qae,wW,wV,simprocAttr]
 refine cp hR ?_
 simp(disch:=first|omega|exact PairsOK.mk rfl|(simp only[lenW]<;>omega)) only[Qac,Qad,Qae,wW,wV,simprocAttr]
 exact⟨.inr trivial,_,rfl,rfl⟩
end Go.AM.SO
namespace Go.AM.SO
open Go.Proofs Go.AM.SD Go.AM.SE
def cmA (i:Nat):Aut:=⟨[2*i,2*i+1],2,[0],[(0,2*i,1),(1,2*i+1,0)]⟩
def cbA (i k:Nat):Aut:=⟨[2*i+1,2*i+2],k+1,List.range (k+1),(List.range (k+1)).flatMap fun s=>(if s<k then[(s,2*i+1,s+1)]else[])++(if 0<s then[(s,2*i+2,s-1)]else[])⟩
def ctA (n:Nat):Aut:=⟨(List.range n).map (2* ·),n,[0],(List.range n).map fun i=>(i,2*i,(i+1) % n)⟩
def cpA (i:Nat):Aut:=⟨[3*i,3*i+1,3*i+2],3,[0],[(0,3*i,1),(1,3*i+1,2),(2,3*i+2,0)]⟩
def cfA (n i:Nat):Aut:=
 let b:=(i+n-1) % n
 let al:=(List.range (3*n)).filter fun e=>e==3*i||e==3*i+2||e==3*b+1||e==3*b+2
 ⟨al,2,[0],(al.filter fun x=> !(x % 3==2)).map (fun x=>(0,x,1))++(al.filter fun x=>x % 3==2).map (fun x=>(1,x,0))⟩
def cnm (s:List UInt8) (i:Nat):List UInt8:=s++[UInt8.ofNat (48+i)]
def cev (cnt:Nat) (names:List (List UInt8)):List Evn:=(List.range cnt).flatMap fun i=>(List.range names.length).map fun k=>⟨cnm (names.getD k []) i,decide (k<names.length-1),true,false,0⟩
abbrev wMachine:List UInt8:=[109,97,99,104,105,110,101]
abbrev wStart:List UInt8:=[115,116,97,114,116]
abbrev wFinish:List UInt8:=[102,105,110,105,115,104]
abbrev wBuffer:List UInt8:=[98,117,102,102,101,114]
abbrev wPhil:List UInt8:=[112,104,105,108,111,115,111,112,104,101,114]
abbrev wFork:List UInt8:=[102,111,114,107]
abbrev wLeft:List UInt8:=[108,101,102,116]
abbrev wRight:List UInt8:=[114,105,103,104,116]
abbrev wPut:List UInt8:=[112,117,116]
abbrev wVehicle:List UInt8:=[118,101,104,105,99,108,101]
abbrev wEnter:List UInt8:=[101,110,116,101,114]
abbrev wLeave:List UInt8:=[108,101,97,118,101]
abbrev wZone:List UInt8:=[122,111,110,101]
abbrev wTurns:List UInt8:=[116,117,114,110,115]
def cms (w:List UInt8) (n:Nat):List (List UInt8×Aut):=(List.range n).map fun i=>(cnm w i,cmA i)
def catC:Nat->Nat->CelA
 |1,n=>⟨cev 2 [wStart,wFinish],cms wMachine 2,[(cnm wBuffer 0,cbA 0 n)],[]⟩
 |2,n=>⟨cev n [wStart,wFinish],cms wMachine n,(List.range (n-1)).map fun i=>(cnm wBuffer i,cbA i 1),[]⟩
 |3,n=>⟨cev n [wLeft,wRight,wPut],((List.range n).map fun i=>(cnm wPhil i,cpA i))++(List.range n).map fun i=>(cnm wFork i,cfA n i),[],[]⟩
 |4,n=>⟨cev n [wEnter,wLeave],cms wVehicle n,[],[(wZone,(List.range n).map fun i:Nat=>((i:Int),(1:Int)),1)]⟩
 |_,n=>⟨cev n [wStart,wFinish],cms wMachine n,[(wTurns,ctA n)],[]⟩
structure Fct where
 sp:Nat
 fb:Nat
 kp:Nat
 su:Nat
 bn:List (List Nat×Nat)
def facC:Nat->Nat->Fct
 |1,n=>⟨4*(n+1),2,4*n+2,4*n+2,[([],2),((List.range n).flatMap fun _=>[0,1],0)]⟩
 |2,n=>⟨2^(2*n-1),2^(2*n-1)-2*3^(n-1),2*3^(n-1),2*3^(n-1),[([],2*n-2),([0,1],0)]⟩
 |3,n=>⟨[6,14,34].getD (n-2) 0,0,[6,14,34].getD (n-2) 0-1,[6,14,34].getD (n-2) 0-1,[((List.range (n-1)).map (3* ·),3*(n-1))]⟩
 |4,n=>⟨2^n,2^n-n-1,n+1,n+1,[([0],2)]⟩
 |_,n=>⟨n*2^n,0,n*2^n,n*2^n,[([],2)]⟩
end Go.AM.SO
namespace Go.AM
namespace RX
def hdC:FCode->FCode
 | .seq a _=>a
 |c=>c
variable {P:Program}
mutual
def beqA:AV->AV->Bool
 | .int k a,v=>match v with
  | .int k' b=>decide (k=k')&&decide (a=b)
  |_=>false
 | .bool a,v=>match v with
  | .bool b=>a==b
  |_=>false
 | .str a,v=>match v with
  | .str b=>decide (a=b)
  |_=>false
 | .nilsl,v=>match v with
  | .nilsl=>true
  |_=>false
 | .agg a,v=>match v with
  | .agg b=>beqL a b
  |_=>false
 | .fsl a l s,v=>match v with
  | .fsl b l' s'=>beqL a b&&Nat.beq l l'&&Nat.beq s s'
  |_=>false
 |_,_=>false
termination_by structural x=>x
def beqL:List AV->List AV->Bool
 |[],v=>match v with
  |[]=>true
  |_=>false
 |x::xs,v=>match v with
  |y::ys=>beqA x y&&beqL xs ys
  |_=>false
termination_by structural x=>x
end
mutual
theorem Qgk:∀(x y:AV),beqA x y=true->x=y:=by
 intro x y h
 cases x with
 |agg a=>cases y<;>simp[beqA]at h;rw[QcY _ _ h]
 |fsl a l s=>cases y<;>simp[beqA]at h;obtain⟨⟨h1,rfl⟩,rfl⟩:=h;rw[QcY _ _ h1]
 |int k a=>cases y<;>simp_all [beqA]
 |bool a=>cases y<;>simp_all [beqA]
 |str a=>cases y<;>simp_all [beqA]
 |nilsl=>cases y<;>simp_all [beqA]
 |_=>simp[beqA]at h
theorem QcY:∀(x y:List AV),beqL x y=true->x=y:=by
 intro x y h
 cases x with
 |nil=>cases y<;>simp_all [beqL]
 | cons a r =>
  cases y with
  |nil=>simp[beqL]at h
  |cons b s=>
   simp only[beqL,Bool.and_eq_true]at h
   rw[Qgk _ _ h.1,QcY _ _ h.2]
end
end RX
end Go.AM
namespace Go.AM
variable {P:Program} {N:NM} {r:List SOper} {dead:List Nat} {fs:List Fr} {n:Nat} {T:Tmps} {h:Heap} {Q:QC} {d:Option Nat}
theorem Rn.unty {m:Nat} {π:Nat->Option Src} {h:Heap} {t k:Nat} {x y:AV} (hh:Rn m π h x y):Rn m π h x (.typed t k y):=fun _ c w v H M hv=>hh _ c w v H M hv.2
end Go.AM
namespace Go.AM.KN
open Go.Proofs Go.AM.SO Go.AM.SD Go.AM.SE Go.AM.RX
def zipE (f:AV->AV->Bool):List AV->List AV->Bool
 |[],v=>match v with
  |[]=>true
  |_=>false
 |x::xs,v=>match v with
  |y::ys=>f x y&&zipE f xs ys
  |_=>false
def unty:AV->AV
 | .typed _ _ v=>v
 |v=>v
theorem Rn.unty' {h:Heap} {x v:AV} (hh:Rn 0 π0 h x (unty v)):Rn 0 π0 h x v:=by
 cases v with
 |typed t k y=>exact Rn.unty hh
 |_=>exact hh
mutual
def beqA:AV->AV->Bool
 | .int k a,v=>match v with
  | .int k' b=>decide (k=k')&&decide (a=b)
  |_=>false
 | .bool a,v=>match v with
  | .bool b=>a==b
  |_=>false
 | .str a,v=>match v with
  | .str b=>decide (a=b)
  |_=>false
 | .nilsl,v=>match v with
  | .nilsl=>true
  |_=>false
 | .agg a,v=>match v with
  | .agg b=>beqL a b
  |_=>false
 | .fsl a l s,v=>match v with
  | .fsl b l' s'=>beqL a b&&Nat.beq l l'&&Nat.beq s s'
  |_=>false
 |_,_=>false
termination_by structural x=>x
def beqL:List AV->List AV->Bool
 |[],v=>match v with
  |[]=>true
  |_=>false
 |x::xs,v=>match v with
  |y::ys=>beqA x y&&beqL xs ys
  |_=>false
termination_by structural x=>x
end
mutual
theorem Qgk:∀(x y:AV),beqA x y=true->x=y:=by
 intro x y h
 cases x with
 |agg a=>cases y<;>simp[beqA]at h;rw[QcY _ _ h]
 |fsl a l s=>cases y<;>simp[beqA]at h;obtain⟨⟨h1,rfl⟩,rfl⟩:=h;rw[QcY _ _ h1]
 |int k a=>cases y<;>simp_all [beqA]
 |bool a=>cases y<;>simp_all [beqA]
 |str a=>cases y<;>simp_all [beqA]
 |nilsl=>cases y<;>simp_all [beqA]
 |_=>simp[beqA]at h
theorem QcY:∀(x y:List AV),beqL x y=true->x=y:=by
 intro x y h
 cases x with
 |nil=>cases y<;>simp_all [beqL]
 | cons a r =>
  cases y with
  |nil=>simp[beqL]at h
  |cons b s=>
   simp only[beqL,Bool.and_eq_true]at h
   rw[Qgk _ _ h.1,QcY _ _ h.2]
end
def fzE (h : Heap) : Nat -> AV -> AV -> Bool
 |0,_,_=>false
 | d + 1, x, v => match x with
  | .fsl cs len sz => match unty v with
   | .nilsl=>match cs with
    |[]=>Nat.beq len 0
    |_=>false
   | .esl=>match cs with
    |[]=>Nat.beq len 0
    |_=>false
   | .sl b g off len' sz'=>Nat.beq len' len&&(Nat.beq sz' sz&&(match h.get b with
    |some (.cells g' ds)=>Nat.beq g' g&&(Nat.ble (off+len*sz) ds.length&&zipE (fzE h d) cs ((ds.drop off).take (len*sz)))
    |_=>false))
   |v=>beqA (.fsl cs len sz) v&&noRef v
  | .agg xs=>match v with
   | .agg vs=>zipE (fzE h d) xs vs
   |_=>false
  | .tup xs=>match v with
   | .tup vs=>zipE (fzE h d) xs vs
   |_=>false
  | .int k a=>match v with
   | .int k' b=>decide (k=k')&&decide (a=b)
   |_=>false
  | .bool a=>match v with
   | .bool b=>a==b
   |_=>false
  | .str a=>match v with
   | .str b=>eqS a b
   |_=>false
  |_=>false
where eqS:List UInt8->List UInt8->Bool
 |[],v=>match v with
  |[]=>true
  |_=>false
 |x::xs,v=>match v with
  |y::ys=>decide (x=y)&&eqS xs ys
  |_=>false
theorem Qpm:∀{a b:List UInt8},fzE.eqS a b=true->a=b
 |[],[],_=>rfl
 |[],_::_,h=>by cases h
 |_::_,[],h=>by cases h
 |x::a,y::b,h=>by
  simp only[fzE.eqS,Bool.and_eq_true,decide_eq_true_eq]at h
  rw[h.1,Qpm h.2]
theorem Qpn {h:Heap}:∀(d:Nat),(∀x v,fzE h d x v=true->Rn 0 π0 h x v)/\(∀xs vs,zipE (fzE h d) xs vs=true->RnL 0 π0 h xs vs):=by
 have key:∀d,(∀x v,fzE h d x v=true->Rn 0 π0 h x v)->∀xs vs,zipE (fzE h d) xs vs=true->RnL 0 π0 h xs vs:=by
  intro d hd xs
  induction xs with
  |nil=>
   intro vs hx
   cases vs with
   |nil=>trivial
   |cons y ys=>cases hx
  | cons x r ih =>
   intro vs hx
   cases vs with
   |nil=>cases hx
   |cons y ys=>
    simp only[zipE,Bool.and_eq_true]at hx
    exact⟨hd _ _ hx.1,ih _ hx.2⟩
 intro d
 induction d with
 |zero=>exact⟨fun x v h=>(by cases h),key 0 fun x v h=>(by cases h)⟩
 | succ d ih =>
  have h1:∀x v,fzE h (d+1) x v=true->Rn 0 π0 h x v:=by
   intro x v hx
   cases x with
   | fsl cs len sz =>
    refine Rn.unty' ?_
    simp only[fzE]at hx
    generalize unty v=v at*
    cases v with
    | nilsl =>
     cases cs with
     |nil=>
      have:len=0:=by simpa using hx
      subst this
      exact Rn.frznil
     |cons c cs=>simp at hx
    | esl =>
     cases cs with
     |nil=>
      have:len=0:=by simpa using hx
      subst this
      exact Rn.frzesl
     |cons c cs=>simp at hx
    | sl b g off len' sz' =>
     simp only[Bool.and_eq_true,Nat.beq_eq]at hx
     obtain⟨rfl,rfl,hx⟩:=hx
     split at hx
     ·rename_i g' ds hb
      simp only[Bool.and_eq_true,Nat.beq_eq]at hx
      obtain⟨rfl,h2,h3⟩:=hx
      exact Rn.frz hb (Nat.zero_le _) (fun b' g2 _ e=>by cases e) (Nat.le_of_ble_eq_true h2) (ih.2 _ _ h3)
     ·cases hx
    |_=>
     simp only[Bool.and_eq_true]at hx
     have h9:=Qgk _ _ hx.1
     rw[h9]
     exact Rn.same hx.2
   |agg xs=>
    cases v with
    |agg vs=>exact Rn.agg (ih.2 _ _ (by simpa[fzE]using hx))
    |_=>simp[fzE]at hx
   |tup xs=>
    cases v with
    |tup vs=>exact Rn.tup (ih.2 _ _ (by simpa[fzE]using hx))
    |_=>simp[fzE]at hx
   | int k a =>
    cases v with
    |int k' b=>
     simp only[fzE,Bool.and_eq_true,decide_eq_true_eq]at hx
     obtain⟨rfl,rfl⟩:=hx
     exact Rn.same rfl
    |_=>simp[fzE]at hx
   | bool a =>
    cases v with
    |bool b=>
     simp only[fzE,beq_iff_eq]at hx
     subst hx
     exact Rn.same rfl
    |_=>simp[fzE]at hx
   | str a =>
    cases v with
    |str b=>
     simp only[fzE]at hx
     cases Qpm hx
     exact Rn.same rfl
    |_=>simp[fzE]at hx
   |_=>simp[fzE]at hx
  exact⟨h1,key _ h1⟩
noncomputable section
def kFz (x:AV) (res:List SRes):KcA Bool:=fun e T h _=>match e with
 | .ret=>(match resV T h res with
  |some vs=>fzE h 12 x (resOf vs)
  |none=>false)
 | .normal=>(match resV T h res with
  |some vs=>fzE h 12 x (resOf vs)
  |none=>false)
 |_=>false
theorem QjO {f:Nat} {F:FFn} {args:List AV} {x:AV} (hg:ft.get f=some F) (hl:args.length<=F.n) (ha:noRefs args=true) (hx:noRef x=true)
  (hr:exR ansB noOrc ft.get 100000 F.body (argT 0 args) .e 64 (kFz x F.res)=true):PSpec Tryz.prog f args x:=by
 refine PSpec.of_W2 (FT2.ok ft_ok f F hg) hl ha hx ?_
 refine W2.of_W (QpI ft_ok Qd5 (kFz x F.res) hr fun e T h n hk=>?_)
 unfold kFz at hk
 cases e<;>simp only[Bool.false_eq_true]at hk
 ·split at hk
  ·rename_i vs hv
   exact⟨.inl rfl,vs,hv,(Qpn 12).1 _ _ hk⟩
  ·cases hk
 ·split at hk
  ·rename_i vs hv
   exact⟨.inr rfl,vs,hv,(Qpn 12).1 _ _ hk⟩
  ·cases hk
def F7:FFn:=match ft.get 7 with|some f=>f|none=>⟨0,[],.skip⟩
def F8:FFn:=match ft.get 8 with|some f=>f|none=>⟨0,[],.skip⟩
theorem g7:ft.get 7=some F7:=by kernel_rfl
theorem g8:ft.get 8=some F8:=by kernel_rfl
end
abbrev facV (f:Fct):AV:= .agg [.int .i64 (f.sp:Int),.int .i64 (f.fb:Int),.int .i64 (f.kp:Int),.int .i64 (f.su:Int),.fsl (f.bn.flatMap fun b=>[sliN b.1,.int .i64 (b.2:Int)]) f.bn.length 2]
theorem QnK (f:Fct):noRef (facV f)=true:=by
 rw[facV,noRef,noRefs,noRefs,noRefs,noRefs,noRefs,noRef,Qa9 (fun b=>by rw[noRefs,Qaa];rfl)];rfl
noncomputable def runC (k n:Nat):Bool:=exR ansB noOrc ft.get 100000 F8.body (argT 0 [.int .i64 (k:Int),.int .i64 (n:Int)]) .e 64 (kFz (.tup [celG (catC k n),.int .i64 0]) F8.res)
noncomputable def runK (k n:Nat):Bool:=exR ansB noOrc ft.get 100000 F7.body (argT 0 [.int .i64 (k:Int),.int .i64 (n:Int)]) .e 64 (kFz (.tup [facV (facC k n),.int .i64 0]) F7.res)
theorem cell8 {k n:Nat} (h:runC k n=true):PSpec Tryz.prog 8 [.int .i64 (k:Int),.int .i64 (n:Int)] (.tup [celG (catC k n),.int .i64 0]):=
 QjO g8 (by have:F8.n=F8.n:=rfl;exact Nat.le_of_ble_eq_true (by kernel_rfl)) rfl (by rw[noRef,noRefs,Qcj];rfl) h
theorem known7 {k n:Nat} (h:runK k n=true):PSpec Tryz.prog 7 [.int .i64 (k:Int),.int .i64 (n:Int)] (.tup [facV (facC k n),.int .i64 0]):=
 QjO g7 (Nat.le_of_ble_eq_true (by kernel_rfl)) rfl (by rw[noRef,noRefs,QnK];rfl) h
end Go.AM.KN
