/- A part of the proof of CellWordsCardSaid: lemmas on the way (AmHd, AmHg). Conditions: none of ours. -/
import Derived.Test.YtmoanlnleppcpaaGreatDoorAmZ11
set_option linter.unusedSectionVars false
set_option maxHeartbeats 32000000
set_option maxRecDepth 100000
set_option linter.unusedVariables false
set_option linter.unusedSimpArgs false
namespace Go.AM.SO
open Go.Proofs Go.AM.SD Go.AM.SE
theorem clone41 (l:List Nat) (hl:l.length<=1000000):PSpec Tryz.prog 41 [sliN l] (sliN l):=by
 have h:=(clone56 l hl).freeze (b:=83) (g:=0) (ds:=ints (nz l)) gg (by
  have:∀m:List Int,flatVs (ints m)=true:=fun m=>by
   induction m with
   |nil=>rfl
   |cons x m ih=>simp only[ints,List.map_cons,flatVs,Bool.and_eq_true];exact⟨rfl,ih⟩
  exact this _) (by simp[ints]) rfl
 have e:(ints (nz l)).take (l.length*1)=ints (nz l):=by rw[List.take_of_length_le (by simp[ints])]
 rw[e]at h
 exact⟨by rw[noRefs,Qab];rfl,Qab _,_,h⟩
abbrev lpA:SCode:=(.seq (.region [Zm 16 100 []] [] [99,100])
 (.region [Zm 17 101 []] [] [101]))
abbrev lpB:SCode:=(.block 3 (.seq (.region [Zf 102 0 1 [],
 Zl 103 102 [0],
 Zm 104 16 [],
 Zi 105 5 103 104 [1,2],
 Zf 106 1 105 [3],
 Zl 107 106 [4],
 Zz 108 (.un .not (.t 107)) [5]] [] [102,103,104,105,106,107])
 (.cond (.t 108)
 (.seq (.region [Zf 109 7 6 [],
 Zl 110 109 [0],
 Zl 111 7 [],
 Zm 112 17 [],
 Zm 113 16 [],
 Zz 114 (.build [(.int .i64 0),(.int .i64 0),(.int .i64 0),(.int .i64 0)] [(0,1,(.t 111)),(1,1,(.c (.int .i64 3))),(2,1,(.t 112)),(3,1,(.t 113))]) [2,3,4],
 Zz 115 (.bslice false .dyn 4 1 [(.int .i64 0),(.int .i64 0),(.int .i64 0),(.int .i64 0)] [(0,4,(.t 114))]) [5],
 Zz 116 (.append .dyn 4 32 (.t 110) (.t 115)) [1,6],
 Zf 117 7 6 (Za [] 8),
 Zs 1 117 116 (Za [8,7,7] 8)] [] [7,16,17,108,109,110,111,112,113,114,115,116,117])
 (.exit 2))
 .skip)))
def rsn (c:Cel) (i:Nat) (t:List Nat):Option (Nat×Int×Int×Int):=
 if(vioV (t.take c.cs.length) c.xs c.ks).2.2=true then some (i,(vioV (t.take c.cs.length) c.xs c.ks).1,(vioV (t.take c.cs.length) c.xs c.ks).2.1,-1)
 else((yls c (ixT (sync0 (auL c.cs)).1 (t.take c.cs.length)) (t.drop c.cs.length)).find? fun y=> !(c.ev y.1).c).map fun y=>(i,3,y.2,(y.1:Int))
def rsC (x:Nat×Int×Int×Int):List AV:=[.int .i64 (x.1:Int),.int .i64 x.2.1,.int .i64 x.2.2.1,.int .i64 x.2.2.2]
def rsnO (c:Cel) (i:Nat):List (Nat×Int×Int×Int):=(rsn c i ((sync0 (allA c)).1.getD i [])).toList
def forb (c:Cel) (n:Nat):List (Nat×Int×Int×Int):=(List.range n).flatMap (rsnO c)
theorem Qi5 (c:Cel) (n:Nat):forb c (n+1)=forb c n++rsnO c n:=by unfold forb;rw[List.range_succ,List.flatMap_append];simp
theorem QkK (c:Cel):∀n,(forb c n).length<=n
 |0=>by simp[forb]
 |n+1=>by
  have:=QkK c n
  rw[Qi5,List.length_append]
  have:(rsnO c n).length<=1:=by unfold rsnO;cases rsn c n _<;>simp
  omega
abbrev rss (l:List (Nat×Int×Int×Int)):AV:= .fsl (l.flatMap rsC) l.length 4
theorem Qow (l:List (Nat×Int×Int×Int)):(l.flatMap rsC).length=l.length*4:=Qbq (k:=4) (fun _=>rfl) l
theorem Qb7 (l:List (Nat×Int×Int×Int)):noRefs (l.flatMap rsC)=true:=by
 induction l with
 |nil=>rfl
 |cons x l ih=>rw[List.flatMap_cons];exact SU.Qao rfl ih
def spA (c:Cel) (T:List (List Nat)):List (List Nat):=T.map fun t=>t.take c.cs.length
def spB (c:Cel) (T:List (List Nat)):List (List Nat):=T.map fun t=>t.drop c.cs.length
def spP (c:Cel) (P T:List (List Nat)):List Nat:=T.map fun t=>ixT P (t.take c.cs.length)
abbrev spG (c:Cel) (q:Aut) (P T:List (List Nat)):List AV:=[sliN q.al,.int .i64 (q.n:Int),sliN q.ms,egsN q.es,tuV (spA c T),tuV (spB c T),sliN (spP c P T),rss (forb c T.length)]
def spC (c:Cel):List AV:=spG c (syncA (allA c)) (sync0 (auL c.cs)).1 (sync0 (allA c)).1
theorem Qhy (c:Cel) (q:Aut) (P T:List (List Nat)):noRefs (spG c q P T)=true:=by
 have hr:noRef (rss (forb c T.length))=true:=by rw[noRef];exact Qb7 _
 simp only[noRefs,Qab,Qak,Qbu,hr,Bool.true_and,Bool.and_true]
 rfl
theorem QkL {α:Type} {p:α->Bool}:∀{l:List α} {y:α},l.find? p=some y->∃n:Nat,l[n]?=some y/\p y=true/\∀(j:Nat) z,j<n->l[j]?=some z->p z=false
 |[],y,h=>by simp at h
 | x :: l, y, h => by
  rw[List.find?_cons]at h
  cases hp:p x with
  |true=>rw[hp]at h;cases h;exact⟨0,rfl,hp,fun j z hj=>absurd hj (Nat.not_lt_zero _)⟩
  |false=>
   rw[hp]at h
   obtain⟨n,h1,h2,h3⟩:=QkL h
   refine⟨n+1,by simpa using h1,h2,fun j z hj hz=>?_⟩
   cases j with
   |zero=>simp at hz;subst hz;exact hp
   |succ j=>exact h3 j z (by omega) (by simpa using hz)
theorem QgP {f:Nat->Evt} {e:Nat} (h:e<5):(evsC f).drop (e*5)=evC e (f e)++(evsC f).drop ((e+1)*5):=by
 obtain rfl|rfl|rfl|rfl|rfl:e=0\/e=1\/e=2\/e=3\/e=4:=by omega
 all_goals rfl
theorem QkM {c:Cel} (h:WfCel c) {k:Nat} {r:List Nat} {y:Nat×Int} (hy:y∈yls c k r):y.1<5:=by
 unfold yls at hy
 obtain⟨e,he,h2⟩:=List.mem_filterMap.1 hy
 unfold ylE at h2
 split at h2
 ·cases h2
  unfold evO at he
  obtain⟨x,hx,rfl⟩:=List.mem_map.1 he
  have hw:=QdU (Qa2 h) (by rw[QaU];have:=h.c3;omega)
  exact hw.al5 _ (hw.ev x (List.mem_filter.1 hx).1)
 ·cases h2
theorem Qqk {c:Cel} {i:Nat} {t:List Nat} (hv:(vioV (t.take c.cs.length) c.xs c.ks).2.2=true):(rsn c i t).toList=[(i,(vioV (t.take c.cs.length) c.xs c.ks).1,(vioV (t.take c.cs.length) c.xs c.ks).2.1,-1)]:=by
 unfold rsn;rw[if_pos hv];rfl
theorem Qrc {c:Cel} {i:Nat} {t:List Nat} (hv:(vioV (t.take c.cs.length) c.xs c.ks).2.2=false):(rsn c i t).toList=(((yls c (ixT (sync0 (auL c.cs)).1 (t.take c.cs.length)) (t.drop c.cs.length)).find? fun y=> !(c.ev y.1).c).map fun y=>(i,3,y.2,(y.1:Int))).toList:=by
 unfold rsn;rw[if_neg (by simp[hv])]
theorem set3 {h:Heap} {k j:Nat} {a b c:Blk} (hk:Nat.blt k 1099511627775=true):(((h.set k a).set k b).set k c).get j=(h.set k c).get j:=by
 have hk':k<1099511627775:=by simpa using hk
 by_cases e:j=k
 ·subst e;rw[QaG hk',QaG hk']
 ·rw[QaK hk' e,QaK hk' e,QaK hk' e,QaK hk' e]
theorem set6 {h:Heap} {k k1 k2 k3 j:Nat} {a b u v w d:Blk} (hk:(Nat.blt k 1099511627775&&Nat.blt k1 1099511627775&&Nat.blt k2 1099511627775&&Nat.blt k3 1099511627775)=true):
  ((((((h.set k a).set k b).set k1 u).set k2 v).set k3 w).set k d).get j=((((h.set k1 u).set k2 v).set k3 w).set k d).get j:=by
 simp only[Bool.and_eq_true,Nat.blt_eq]at hk
 obtain⟨⟨⟨h1,h2⟩,h3⟩,h4⟩:=hk
 by_cases e:j=k
 ·subst e;rw[QaG h1,QaG h1]
 ·rw [QaK h1 e, QaK h1 e]
  by_cases e3:j=k3
  ·subst e3;rw[QaG h4,QaG h4]
  ·rw [QaK h4 e3, QaK h4 e3]
   by_cases e2:j=k2
   ·subst e2;rw[QaG h3,QaG h3]
   ·rw [QaK h3 e2, QaK h3 e2]
    by_cases e1:j=k1
    ·subst e1;rw[QaG h2,QaG h2]
    ·rw[QaK h2 e1,QaK h2 e1,QaK h1 e,QaK h1 e]
theorem _root_.Go.AM.au24 {p:Prop} (h:p:=by repeat (first|exact RT.nil|(refine RT.cons ?_ ?_; · (first|exact Rn.any|exact Rn.x1 rfl rfl|exact Rn.x2 rfl rfl|exact Rn.x3 rfl rfl|exact Rn.x4 rfl rfl|exact Rn.x5 rfl|exact Rn.x6 rfl|exact Rn.x7 rfl|(refine Rn.slot ?_ ?_;(first|rfl|(rw[Int.natCast_add];rfl));(first|rfl|(simp only[noRef,noRefs,Qah,Bool.and_self,Bool.and_true,Bool.true_and,Qac,Qau,Qab,Qak,QaQ,Qaf,SU.Qbb,Qbu];done)))|(refine Rn.fn ?_ ?_<;>(repeat' (first|exact RnL.nil|refine RnL.cons ?_ ?_|exact Rn.same rfl|exact Rn.x6 rfl|exact Rn.x2 rfl rfl|exact Rn.x5 rfl|exact Rn.x1 rfl rfl))))))):p:=h
theorem specify18 (c : Cel) (h : WfCel c) : PSpec Tryz.prog 18 [celV c] (.tup [.agg (spC c), .int .i64 0]) := by
  have hnr:=Qcg c
  have hns:noRef (.tup [.agg (spC c),.int .i64 0])=true:=by rw[noRef,noRefs,noRef,spC,Qhy];rfl
  refine PSpec.of_rn 64 TQ.ok18 rfl (by rw[noRefs,SU.Qbk];rfl) hns ?_
  have h0:=h.c0
  have h3:=h.c3
  have h2:=h.r2
  have hO:=open70 c h
  have hin:=Qqg h
  have hPi:=Qeh (fun a ha=>(Qa2 h a ha).pos) fun a ha=>(Qa2 h a ha).wf.esn
  have hTok:=QgO (Qce h) (by rw[Qb6];omega)
  have hT243:=hTok.2.1
  clear hTok
  have hPin:∀x∈(sync0 (auL c.cs)).1,InT (auL c.cs) x:=hPi.inT
  have hpn:(syncA (auL c.cs)).n=(sync0 (auL c.cs)).1.length:=rfl
  have hsplit:=fun t (ht:c.cs.length<=t.length)=>split71 c t h0 ht
  have hviol:=fun t (ht:InT (auL c.cs) t)=>violated73 c h ht
  have href:=fun k r=>refused74 c k r
  have hfor:=fun{k:Nat} hk r hr hrn {b m:Nat} H H' n=>@refused160 c h k hk r hr hrn b m H H' n
  have hrs:∀i t,(sync0 (allA c)).1[i]?=some t->rsnO c i=(rsn c i t).toList:=fun i t ht=>by unfold rsnO;rw[List.getD_eq_getElem?_getD,ht];rfl
  have hrv:=fun i t=>@Qrc c i t
  have hle:=QkK c
  have hsu:=Qi5 c
  have hst:=Qd0 c (syncA (auL c.cs)) (syncA (allA c)) (sync0 (auL c.cs)).1 (sync0 (allA c)).1
  rw[spC]at*
  rw[stC]at hO hsplit href
  generalize syncA (auL c.cs)=p at*
  generalize syncA (allA c)=q at*
  generalize (sync0 (auL c.cs)).1=P at*
  generalize (sync0 (allA c)).1=T at*
  have hnT:=Qbu T
  have hS:noRef (.fptr (stG c p q P T))=true:=by rw[noRef];exact hst
  have hnc:=SU.Qbk c
  simp(disch:=first|omega|exact PairsOK.mk rfl|(simp only[lenW]<;>omega)) only[TQ.s18,Qaa,Qad,Qae,wW,wV,simprocAttr]
  refine cp hO ?_
  simp(disch:=first|omega|exact PairsOK.mk rfl|(simp only[lenW]<;>omega)) only[Qaa,Qad,Qae,wW,wV,simprocAttr]
  refine Qap 200 (fun i:Nat=>[(1,.ptr 51 0 0),(2,.ptr 53 0 0),(4,.fptr (stG c p q P T)),(6,.ptr 52 0 0),(35,tuV T),(36,.int .i64 T.length),(37,.int .i64 i)]) (fun i=>[(51,.cells 0 [evsV c.ev,its 99 c.cs,its 114 c.rs,exs c.xs,cos c.ks]),(52,.cells 0 [sliN q.al,.int .i64 (q.n:Int),sliN q.ms,egsN q.es,.sl 60 0 0 i 1,.sl 61 0 0 i 1,.sl 62 0 0 i 1,.sl 63 0 0 (forb c i).length 4]),(53,.cells 0 [.nilsl,.int .i64 0,.nilsl,.nilsl,.nilsl,.nilsl,.nilsl,.nilsl]),(60,.cells 0 ((spA c (T.take i)).map sliN)),(61,.cells 0 ((spB c (T.take i)).map sliN)),(62,.cells 0 (ints (nz (spP c P (T.take i))))),(63,.cells 0 ((forb c i).flatMap rsC))]) (fun i=>i<=T.length) (fun i=>T.length-i) 0 0 400
    (fun _:Unit=>[(2,.ptr 53 0 0),(6,.ptr 52 0 0)]) (fun _=>[(52,.cells 0 (spG c q P T)),(53,.cells 0 [.nilsl,.int .i64 0,.nilsl,.nilsl,.nilsl,.nilsl,.nilsl,.nilsl])]) (fun _=>True) ?_ (Nat.zero_le _) ?_ ?_
  · refine ⟨[(51, .blk 64 0), (52, .blk 81 0), (53, .blk 65 0), (60, .nil), (61, .nil), (62, .nil), (63, .nil)], rfl, RO.zero, ?_, RT.cons (Rn.x2 rfl rfl) (RT.cons (Rn.x2 rfl rfl) (RT.cons (Rn.same hS) (RT.cons (Rn.x2 rfl rfl) (RT.cons (Rn.same hnT) au24))))⟩
    exact RB.cells rfl rfl gg (RnL.same hnr) (RB.cells rfl rfl gg (RnL.cons (Rn.same (Qab _)) (RnL.cons (Rn.same rfl) (RnL.cons (Rn.same (Qab _)) (RnL.cons (Rn.same (Qak _)) (RnL.cons (Rn.x4 rfl rfl) (RnL.cons (Rn.x4 rfl rfl) (RnL.cons (Rn.x4 rfl rfl) (RnL.cons (Rn.x4 rfl rfl) RnL.nil)))))))) (RB.cells rfl rfl gg (RnL.same rfl) (RB.newnil rfl rfl (RB.newnil rfl rfl (RB.newnil rfl rfl (RB.newnil rfl rfl RB.nil))))))
  · rintro i hi
    by_cases hlt:i<T.length
    · obtain ⟨t, ht⟩ := Qai hlt
      obtain⟨hit,hpt⟩:=hin t (List.mem_of_getElem? ht)
      have htl:c.cs.length<=t.length:=by rw[hit.1,Qb6];omega
      have hi1:=Qpj (A:=auL c.cs) (B:=auL c.rs) hit
      have hi2:=Qpk (A:=auL c.cs) (B:=auL c.rs) hit
      rw[QaU]at hi1 hi2
      have hl1:(t.take c.cs.length).length<=3:=by rw[List.length_take];omega
      have hl2:(t.drop c.cs.length).length<=2:=by rw[hi2.1,QaU];omega
      have hsp:=hsplit t htl
      have hky:=key72 h hi1
      have hv:=hviol _ hi1
      have hcl1:=clone41 (t.take c.cs.length) (by omega)
      have hcl2:=clone41 (t.drop c.cs.length) (by omega)
      have hk:=Qhw hpt
      have hia:(spA c (T.take (i+1))).map sliN=(spA c (T.take i)).map sliN++[sliN (t.take c.cs.length)]:=by unfold spA;rw[take_succ' ht];simp
      have hib:(spB c (T.take (i+1))).map sliN=(spB c (T.take i)).map sliN++[sliN (t.drop c.cs.length)]:=by unfold spB;rw[take_succ' ht];simp
      have hip:spP c P (T.take (i+1))=spP c P (T.take i)++[ixT P (t.take c.cs.length)]:=by unfold spP;rw[take_succ' ht];simp
      have hla:((spA c (T.take i)).map sliN).length=i:=by unfold spA;simp;omega
      have hlb:((spB c (T.take i)).map sliN).length=i:=by unfold spB;simp;omega
      have hlp:(ints (nz (spP c P (T.take i)))).length=i:=by unfold spP;simp[ints];omega
      have hlf:=Qow (forb c i)
      have hlf2:=hle i
      have hrsi:=hrs i t ht
      have hsi:=hsu i
      have hrvi:=hrv i t
      have hrvi2:=@Qqk c i t
      have hk:ixT P (t.take c.cs.length)<p.n:=by rw[hpn];exact hk
      have hr2:(t.drop c.cs.length).length=c.rs.length:=by rw[hi2.1,QaU]
      have hrn2:∀(j:Nat) y,c.rs[j]?=some y->(t.drop c.cs.length).getD j 0<y.2.n:=fun j y hy=>hi2.2 j y.2 (by rw[List.getElem?_map,hy];rfl)
      have hfa:∀z,(forb c i++[z]).flatMap rsC=(forb c i).flatMap rsC++rsC z:=fun z=>by simp
      have hn1:noRefs [sliN (t.take c.cs.length)]=true:=by rw[noRefs,Qab];rfl
      have hn2:noRefs [sliN (t.drop c.cs.length)]=true:=by rw[noRefs,Qab];rfl
      generalize spA c (T.take i)=LA at*
      generalize spB c (T.take i)=LB at*
      generalize spP c P (T.take i)=LP at*
      generalize t.take c.cs.length=t1 at*
      generalize t.drop c.cs.length=t2 at*
      generalize vioV t1 c.xs c.ks=v at*
      obtain⟨v1,v2,v3⟩:=v
      dsimp only at hrvi hrvi2 hv
      have hrf:=href (ixT P t1) t2
      simp(disch:=first|omega|exact PairsOK.mk rfl|(simp only[lenW]<;>omega)) only[hlt,Qmd ht,Qaa,Qad,Qae,wW,wV,simprocAttr]
      refine cp hsp ?_
      simp(disch:=first|omega|exact PairsOK.mk rfl|(simp only[lenW]<;>omega)) only[Qaa,Qad,Qae,wW,wV,simprocAttr]
      refine cp hky ?_
      simp(disch:=first|omega|exact PairsOK.mk rfl|(simp only[lenW]<;>omega)) only[Qaa,Qad,Qae,wW,wV,simprocAttr]
      refine Qfo (c:=keyC) (f:=ixV P) (x:=t1) (l:=P) (Qfy (Qa2 h) hi1 hPin) hpt ?_
      simp(disch:=first|omega|exact PairsOK.mk rfl|(simp only[lenW]<;>omega)) only[ixV,Qaa,Qad,Qae,wW,wV,simprocAttr]
      refine QmC [(56,[60]),(62,[61]),(68,[62])] rfl rfl ?_
      simp(disch:=first|omega|exact PairsOK.mk rfl|(simp only[lenW]<;>omega)) only[Qaa,Qad,Qae,wW,wV,simprocAttr]
      refine cp hcl1 ?_
      simp(disch:=first|omega|exact PairsOK.mk rfl|(simp only[lenW]<;>omega)) only[Qaa,Qad,Qae,wW,wV,simprocAttr]
      refine cp hcl2 ?_
      simp(disch:=first|omega|exact PairsOK.mk rfl|(simp only[lenW]<;>omega)) only[hla,hlb,hlp,Qaa,Qad,Qae,wW,wV,simprocAttr]
      refine⟨⟨⟨_,rfl,fun b hb=>hb⟩,⟨_,rfl,fun b hb=>hb⟩,⟨_,rfl,fun b hb=>hb⟩,trivial⟩,?_⟩
      refine cp hv ?_
      cases v3 with
      | true =>
        have hrw:=hrvi2 rfl
        simp(disch:=first|omega|exact PairsOK.mk rfl|(simp only[lenW]<;>omega)) only[hlf,Qaa,Qad,Qae,wW,wV,simprocAttr]
        refine⟨i+1,by omega,by omega,?_⟩
        rw[hia,hib,hip,hsi,hrsi,hrw,hfa,List.length_append,QaF,QaA]
        refine⟨[(51,.blk 51 0),(52,.blk 52 0),(53,.blk 53 0),(60,.blk 60 1),(61,.blk 61 1),(62,.blk 62 1),(63,.blk 63 1)],rfl,RO.zero,?_,RT.cons (Rn.x2 rfl rfl) (RT.cons (Rn.x2 rfl rfl) (RT.cons (Rn.same hS) (RT.cons (Rn.x2 rfl rfl) (RT.cons (Rn.same hnT) au24))))⟩
        exact RB.cells rfl rfl gg (RnL.same hnr) (RB.cells rfl rfl gg (RnL.cons (Rn.same (Qab _)) (RnL.cons (Rn.same rfl) (RnL.cons (Rn.same (Qab _)) (RnL.cons (Rn.same (Qak _)) (RnL.cons (Rn.x1 rfl rfl) (RnL.cons (Rn.x1 rfl rfl) (RnL.cons (Rn.x1 rfl rfl) (RnL.cons (Rn.x1 rfl rfl) RnL.nil)))))))) (RB.cells rfl rfl gg (RnL.same rfl) (RB.cells rfl rfl gg (RnL.same (SU.Qao (Qaj Qab _) hn1)) (RB.cells rfl rfl gg (RnL.same (SU.Qao (Qaj Qab _) hn2)) (RB.cells rfl rfl gg (RnL.same (SU.Qao (Qac _) rfl)) (RB.cells rfl rfl gg (RnL.same (SU.Qao (Qb7 _) rfl)) RB.nil))))))
      | false =>
        have hrw:=hrvi rfl
        simp(disch:=first|omega|exact PairsOK.mk rfl|(simp only[lenW]<;>omega)) only[Qaa,Qad,Qae,wW,wV,simprocAttr]
        refine cp hrf ?_
        simp(disch:=first|omega|exact PairsOK.mk rfl|(simp only[lenW]<;>omega)) only[Qaa,Qad,Qae,wW,wV,simprocAttr]
        have hnone:∀{x1 x2 x3 x4 x5 x6 x7 x8:Blk},(hp [(51,x1),(52,x2),(53,x3),(54,x4),(60,x5),(61,x6),(62,x7),(63,x8)]).get 150=none:=fun{x1 x2 x3 x4 x5 x6 x7 x8}=>by simp(disch:=omega) only[Qcc,Qj6,QaK,get_e]
        cases hfd:(yls c (ixT P t1) t2).find? fun y=> !(c.ev y.1).c with
        | none =>
          rw[hfd]at hrw
          replace hrw:(rsn c i t).toList=[]:=hrw
          refine Qi4 (n':=700) (b:=150) (T':=[(1,.ptr 51 0 0),(2,.ptr 53 0 0),(4,.fptr (stG c p q P T)),(6,.ptr 52 0 0),(7,.ptr 54 0 0),(35,tuV T),(36,.int .i64 T.length),(37,.int .i64 i),(99,rfF c (ixT P t1) t2)]) (L:=[(51,.cells 0 [evsV c.ev,its 99 c.cs,its 114 c.rs,exs c.xs,cos c.ks]),(52,.cells 0 [sliN q.al,.int .i64 (q.n:Int),sliN q.ms,egsN q.es,.sl 60 0 0 (i+1) 1,.sl 61 0 0 (i+1) 1,.sl 62 0 0 (i+1) 1,.sl 63 0 0 (forb c i).length 4]),(53,.cells 0 [.nilsl,.int .i64 0,.nilsl,.nilsl,.nilsl,.nilsl,.nilsl,.nilsl]),(54,.cells 0 [.int .i64 (i:Int)]),(60,.cells 0 (LA.map sliN++[sliN t1])),(61,.cells 0 (LB.map sliN++[sliN t2])),(62,.cells 0 (ints (nz LP)++[.int .i64 (ixT P t1:Int)])),(63,.cells 0 ((forb c i).flatMap rsC))]) ?_ rfl hnone rfl (hfor (m:=1000) hk t2 hr2 hrn2 (fun _=>_) _ (yls c (ixT P t1) t2).length ?_ (Nat.le_refl _) ?_ (.inl ⟨rfl,rfl⟩)) gg ?_
          · refine ⟨[(51, .blk 51 0), (52, .blk 52 0), (53, .blk 53 0), (54, .blk 204 0), (60, .blk 60 1), (61, .blk 61 1), (62, .blk 62 1), (63, .blk 63 0)], rfl, RO.zero, ?_, RT.cons (Rn.x2 rfl rfl) (RT.cons (Rn.x2 rfl rfl) (RT.cons (Rn.same hS) (RT.cons (Rn.x2 rfl rfl) (RT.cons (Rn.x2 rfl rfl) (RT.cons (Rn.same hnT) (RT.cons (Rn.same rfl) (RT.cons (Rn.same rfl) (RT.cons (Rn.same (Qfz _ _ _)) RT.nil))))))))⟩
            exact RB.cells rfl rfl gg (RnL.same hnr) (RB.cells rfl rfl gg (RnL.cons (Rn.same (Qab _)) (RnL.cons (Rn.same rfl) (RnL.cons (Rn.same (Qab _)) (RnL.cons (Rn.same (Qak _)) (RnL.cons (Rn.x1 rfl rfl) (RnL.cons (Rn.x1 rfl rfl) (RnL.cons (Rn.x1 rfl rfl) (RnL.cons (Rn.x1 rfl rfl) RnL.nil)))))))) (RB.cells rfl rfl gg (RnL.same rfl) (RB.cells rfl rfl gg (RnL.same rfl) (RB.cells rfl rfl gg (RnL.same (SU.Qao (Qaj Qab _) hn1)) (RB.cells rfl rfl gg (RnL.same (SU.Qao (Qaj Qab _) hn2)) (RB.cells rfl rfl gg (RnL.same (SU.Qao (Qac _) rfl)) (RB.cells rfl rfl gg (RnL.same (Qb7 _)) RB.nil)))))))
          · exact(by repeat (first|exact Fresh.e|exact Fresh.le (by assumption) (by omega)|refine Fresh.set ?_ (by omega) (by omega)))
          · intro j y hj hy
            have hlt5:=QkM h (List.mem_of_getElem? hy)
            have hctl:(c.ev y.1).c=true:=by simpa using List.find?_eq_none.1 hfd y (List.mem_of_getElem? hy)
            refine RSpec.of_wS (n:=300) rfl gg rfl rfl rfl ?_
            simp(disch:=first|omega|exact PairsOK.mk rfl|(simp only[lenW]<;>omega)) only[upsT,hctl,hlt5,QfD,QgP,evC,Qaa,Qad,Qae,wW,wV,simprocAttr]
            exact⟨rfl,fun x=>set3 rfl⟩
          · unfold leftQ
            simp(disch:=first|omega|exact PairsOK.mk rfl|(simp only[lenW]<;>omega)) only[Qaa,Qad,Qae,wW,wV,simprocAttr]
            refine⟨i+1,by omega,by omega,?_⟩
            rw[hia,hib,hip,hsi,hrsi,hrw,List.append_nil,QaF,QaA]
            refine⟨[(51,.blk 51 0),(52,.blk 52 0),(53,.blk 53 0),(60,.blk 60 0),(61,.blk 61 0),(62,.blk 62 0),(63,.blk 63 0)],rfl,RO.zero,?_,RT.cons (Rn.x2 rfl rfl) (RT.cons (Rn.x2 rfl rfl) (RT.cons (Rn.same hS) (RT.cons (Rn.x2 rfl rfl) (RT.cons (Rn.same hnT) au24))))⟩
            exact RB.cells rfl rfl gg (RnL.same hnr) (RB.cells rfl rfl gg (RnL.cons (Rn.same (Qab _)) (RnL.cons (Rn.same rfl) (RnL.cons (Rn.same (Qab _)) (RnL.cons (Rn.same (Qak _)) (RnL.cons (Rn.x1 rfl rfl) (RnL.cons (Rn.x1 rfl rfl) (RnL.cons (Rn.x1 rfl rfl) (RnL.cons (Rn.x1 rfl rfl) RnL.nil)))))))) (RB.cells rfl rfl gg (RnL.same rfl) (RB.cells rfl rfl gg (RnL.same (SU.Qao (Qaj Qab _) hn1)) (RB.cells rfl rfl gg (RnL.same (SU.Qao (Qaj Qab _) hn2)) (RB.cells rfl rfl gg (RnL.same (SU.Qao (Qac _) rfl)) (RB.cells rfl rfl gg (RnL.same (Qb7 _)) RB.nil))))))
        | some y =>
          rw[hfd]at hrw
          replace hrw:(rsn c i t).toList=[(i,3,y.2,(y.1:Int))]:=hrw
          obtain⟨n,hn1',hn2',hn3'⟩:=QkL hfd
          have hlen:n<(yls c (ixT P t1) t2).length:=(List.getElem?_eq_some_iff.1 hn1').1
          have hlt5:=QkM h (List.mem_of_getElem? hn1')
          have hctl:(c.ev y.1).c=false:=by simpa using hn2'
          refine Qi4 (n':=700) (b:=150) (T':=[(1,.ptr 51 0 0),(2,.ptr 53 0 0),(4,.fptr (stG c p q P T)),(6,.ptr 52 0 0),(7,.ptr 54 0 0),(35,tuV T),(36,.int .i64 T.length),(37,.int .i64 i),(99,rfF c (ixT P t1) t2)]) (L:=[(51,.cells 0 [evsV c.ev,its 99 c.cs,its 114 c.rs,exs c.xs,cos c.ks]),(52,.cells 0 [sliN q.al,.int .i64 (q.n:Int),sliN q.ms,egsN q.es,.sl 60 0 0 (i+1) 1,.sl 61 0 0 (i+1) 1,.sl 62 0 0 (i+1) 1,.sl 63 0 0 (forb c i).length 4]),(53,.cells 0 [.nilsl,.int .i64 0,.nilsl,.nilsl,.nilsl,.nilsl,.nilsl,.nilsl]),(54,.cells 0 [.int .i64 (i:Int)]),(60,.cells 0 (LA.map sliN++[sliN t1])),(61,.cells 0 (LB.map sliN++[sliN t2])),(62,.cells 0 (ints (nz LP)++[.int .i64 (ixT P t1:Int)])),(63,.cells 0 ((forb c i).flatMap rsC))]) (st:= .done (.exit 2)) ?hrec rfl hnone rfl (hfor (m:=1000) hk t2 hr2 hrn2 (fun _=>_) (((((hp [(51,.cells 0 [evsV c.ev,its 99 c.cs,its 114 c.rs,exs c.xs,cos c.ks]),(52,.cells 0 [sliN q.al,.int .i64 (q.n:Int),sliN q.ms,egsN q.es,.sl 60 0 0 (i+1) 1,.sl 61 0 0 (i+1) 1,.sl 62 0 0 (i+1) 1,.sl 63 0 0 (forb c i).length 4]),(53,.cells 0 [.nilsl,.int .i64 0,.nilsl,.nilsl,.nilsl,.nilsl,.nilsl,.nilsl]),(54,.cells 0 [.int .i64 (i:Int)]),(60,.cells 0 (LA.map sliN++[sliN t1])),(61,.cells 0 (LB.map sliN++[sliN t2])),(62,.cells 0 (ints (nz LP)++[.int .i64 (ixT P t1:Int)])),(63,.cells 0 ((forb c i).flatMap rsC))]).set 315 (.cells 0 (rsC (i,3,y.2,(y.1:Int))))).set 63 (.cells 1 ((forb c i).flatMap rsC++rsC (i,3,y.2,(y.1:Int))))).set 52 (.cells 0 [sliN q.al,.int .i64 (q.n:Int),sliN q.ms,egsN q.es,.sl 60 0 0 (i+1) 1,.sl 61 0 0 (i+1) 1,.sl 62 0 0 (i+1) 1,.sl 63 1 0 ((forb c i).length+1) 4])).set 150 (.loop 0 120 [(1,.ptr 51 0 0),(2,.ptr 53 0 0),(4,.fptr (stG c p q P T)),(6,.ptr 52 0 0),(7,.ptr 54 0 0),(35,tuV T),(36,.int .i64 T.length),(37,.int .i64 i),(99,rfF c (ixT P t1) t2)] [100,101] (.s lpA) (.s lpB) (.done (.exit 2)))) n ?hfr (Nat.le_of_lt hlen) ?hY (.inr ⟨y,hn1',?hS⟩)) gg ?hQ
          case hrec=>
            refine⟨[(51,.blk 51 0),(52,.blk 52 0),(53,.blk 53 0),(54,.blk 204 0),(60,.blk 60 1),(61,.blk 61 1),(62,.blk 62 1),(63,.blk 63 0)],rfl,RO.zero,?_,RT.cons (Rn.x2 rfl rfl) (RT.cons (Rn.x2 rfl rfl) (RT.cons (Rn.same hS) (RT.cons (Rn.x2 rfl rfl) (RT.cons (Rn.x2 rfl rfl) (RT.cons (Rn.same hnT) (RT.cons (Rn.same rfl) (RT.cons (Rn.same rfl) (RT.cons (Rn.same (Qfz _ _ _)) RT.nil))))))))⟩
            exact RB.cells rfl rfl gg (RnL.same hnr) (RB.cells rfl rfl gg (RnL.cons (Rn.same (Qab _)) (RnL.cons (Rn.same rfl) (RnL.cons (Rn.same (Qab _)) (RnL.cons (Rn.same (Qak _)) (RnL.cons (Rn.x1 rfl rfl) (RnL.cons (Rn.x1 rfl rfl) (RnL.cons (Rn.x1 rfl rfl) (RnL.cons (Rn.x1 rfl rfl) RnL.nil)))))))) (RB.cells rfl rfl gg (RnL.same rfl) (RB.cells rfl rfl gg (RnL.same rfl) (RB.cells rfl rfl gg (RnL.same (SU.Qao (Qaj Qab _) hn1)) (RB.cells rfl rfl gg (RnL.same (SU.Qao (Qaj Qab _) hn2)) (RB.cells rfl rfl gg (RnL.same (SU.Qao (Qac _) rfl)) (RB.cells rfl rfl gg (RnL.same (Qb7 _)) RB.nil)))))))
          case hfr=>
            exact(by repeat (first|exact Fresh.e|exact Fresh.le (by assumption) (by omega)|refine Fresh.set ?_ (by omega) (by omega)))
          case hY=>
            intro j z hj hz
            have hlt5:=QkM h (List.mem_of_getElem? hz)
            have hctl:(c.ev z.1).c=true:=by simpa using hn3' j z hj hz
            refine RSpec.of_wS (n:=300) rfl gg rfl rfl rfl ?_
            simp(disch:=first|omega|exact PairsOK.mk rfl|(simp only[lenW]<;>omega)) only[upsT,hctl,hlt5,QfD,QgP,evC,Qaa,Qad,Qae,wW,wV,simprocAttr]
            exact⟨rfl,fun x=>set3 rfl⟩
          case hS=>
            refine RSpec.of_wS (n:=300) rfl gg rfl rfl rfl ?_
            simp(disch:=first|omega|exact PairsOK.mk rfl|(simp only[lenW]<;>omega)) only[upsT,hctl,hlt5,QfD,QgP,evC,hlf,Qaa,Qad,Qae,wW,wV,simprocAttr]
            exact⟨rfl,fun x=>set6 rfl⟩
          case hQ=>
            unfold leftQ
            refine⟨rfl,?_⟩
            simp(disch:=first|omega|exact PairsOK.mk rfl|(simp only[lenW]<;>omega)) only[Qaa,Qad,Qae,wW,wV,simprocAttr]
            refine⟨i+1,by omega,by omega,?_⟩
            rw[hia,hib,hip,hsi,hrsi,hrw,hfa,List.length_append,QaF,QaA]
            refine⟨[(51,.blk 51 0),(52,.blk 52 0),(53,.blk 53 0),(60,.blk 60 0),(61,.blk 61 0),(62,.blk 62 0),(63,.blk 63 1)],rfl,RO.zero,?_,RT.cons (Rn.x2 rfl rfl) (RT.cons (Rn.x2 rfl rfl) (RT.cons (Rn.same hS) (RT.cons (Rn.x2 rfl rfl) (RT.cons (Rn.same hnT) au24))))⟩
            exact RB.cells rfl rfl gg (RnL.same hnr) (RB.cells rfl rfl gg (RnL.cons (Rn.same (Qab _)) (RnL.cons (Rn.same rfl) (RnL.cons (Rn.same (Qab _)) (RnL.cons (Rn.same (Qak _)) (RnL.cons (Rn.x1 rfl rfl) (RnL.cons (Rn.x1 rfl rfl) (RnL.cons (Rn.x1 rfl rfl) (RnL.cons (Rn.x1 rfl rfl) RnL.nil)))))))) (RB.cells rfl rfl gg (RnL.same rfl) (RB.cells rfl rfl gg (RnL.same (SU.Qao (Qaj Qab _) hn1)) (RB.cells rfl rfl gg (RnL.same (SU.Qao (Qaj Qab _) hn2)) (RB.cells rfl rfl gg (RnL.same (SU.Qao (Qac _) rfl)) (RB.cells rfl rfl gg (RnL.same (SU.Qao (Qb7 _) rfl)) RB.nil))))))
    · have e : i = T.length := by omega
      subst e
      have hla:((spA c T).map sliN).length=T.length:=by unfold spA;simp
      have hlb:((spB c T).map sliN).length=T.length:=by unfold spB;simp
      have hlp:(ints (nz (spP c P T))).length=T.length:=by unfold spP;simp[ints]
      have hlf:=Qow (forb c T.length)
      simp(disch:=first|omega|exact PairsOK.mk rfl|(simp only[lenW]<;>omega)) only[hlt,List.take_length,Qaa,Qad,Qae,wW,wV,simprocAttr]
      refine⟨(),[(52,.blk 52 0),(53,.blk 53 0)],rfl,RO.zero,?_,RT.cons (Rn.x2 rfl rfl) (RT.cons (Rn.x2 rfl rfl) RT.nil)⟩
      exact RB.cells rfl rfl gg (RnL.cons (Rn.same (Qab _)) (RnL.cons (Rn.same rfl) (RnL.cons (Rn.same (Qab _)) (RnL.cons (Rn.same (Qak _)) (RnL.cons (Rn.fzm (b:=60) (g:=0) gg rfl rfl (by simp[spA]) (by simpa using hla) (RnL.same (Qaj Qab _))) (RnL.cons (Rn.fzm (b:=61) (g:=0) gg rfl rfl (by simp[spB]) (by simpa using hlb) (RnL.same (Qaj Qab _))) (RnL.cons (Rn.fzm (b:=62) (g:=0) gg rfl rfl (by simp[spP]) (by simpa using hlp) (RnL.same (Qac _))) (RnL.cons (Rn.fzm (b:=63) (g:=0) gg rfl rfl rfl hlf (RnL.same (Qb7 _))) RnL.nil)))))))) (RB.cells rfl rfl gg (RnL.same rfl) RB.nil)
  rintro _ _
  simp(disch:=first|omega|exact PairsOK.mk rfl|(simp only[lenW]<;>omega)) only[Qaa,Qad,Qae,wW,wV,simprocAttr]
  exact⟨.inr trivial,_,rfl,Rn.same hns⟩
end Go.AM.SO
namespace Go.AM.SO
open Go.Proofs Go.AM.SD Go.AM.SE
end Go.AM.SO
