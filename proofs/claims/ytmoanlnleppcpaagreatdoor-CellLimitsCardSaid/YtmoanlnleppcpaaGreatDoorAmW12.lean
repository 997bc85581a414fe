/- A part of the proof of CellLimitsCardSaid: lemmas on the way (AmOo, AmGt, AmGu, AmGv, AmTp, AmHd, AmHi, AmGz, AmCzh, AmHx, AmHk, AmOp, AmOn, AmRh, AmRi, AmRj, AmRk, AmOq, AmXn). Conditions: none of ours. -/
import Derived.Test.YtmoanlnleppcpaaGreatDoorProg
import Derived.KernelRfl
import Derived.Test.YtmoanlnleppcpaaGreatDoorAmW11
set_option linter.unusedSectionVars false
set_option maxHeartbeats 32000000
set_option maxRecDepth 100000
set_option linter.unusedVariables false
set_option linter.unusedSimpArgs false
namespace Go.AM.SO
open Go.Proofs Go.AM.SD Go.AM.SE
abbrev auJ (l:List (List UInt8×Aut)):List Aut:=l.map (·.2)
abbrev szJ (l:List (List UInt8×Aut)):List Nat:=l.map (·.2.n)
abbrev celC (ev:List Evn) (l:List (List UInt8×Aut)):List AV:=[evns ev,itsN l,.fsl [] 0 5,.fsl [] 0 2,.fsl [] 0 3]
abbrev celJ (ev:List Evn) (l:List (List UInt8×Aut)):AV:= .agg (celC ev l)
abbrev cdJ (l:List (List UInt8×Aut)):AV:= .agg [sliN (szJ l),.fsl [] 0 2,.fsl [] 0 3]
theorem QcA {l:List (List UInt8×Aut)}:(auJ l).length=l.length:=List.length_map ..
structure CelJ (ev:List Evn) (l:List (List UInt8×Aut)):Prop where
 ck:PSpec Tryz.prog 21 [celJ ev l] (.int .i64 0)
 cd:PSpec Tryz.prog 85 [celJ ev l] (cdJ l)
 c32:PSpec Tryz.prog 32 [cdJ l] (.int .i64 0)
 c0:0<l.length
 c8:l.length<=8
 wf:∀a∈auJ l,WfJ a
theorem CelJ.nrs {ev:List Evn} {l:List (List UInt8×Aut)} (h:CelJ ev l):noRefs (celC ev l)=true:=by
 rw[noRefs,QbY,noRefs,QbB];rfl
theorem CelJ.key {ev:List Evn} {l:List (List UInt8×Aut)} (h:CelJ ev l) {t:List Nat} (ht:InT (auJ l) t):PSpec Tryz.prog 98 [sliN t] (.str (keyT t))/\PSpec Tryz.prog 72 [sliN t] (.str (keyT t)):=by
 have h8:=h.c8
 have hl:=ht.1
 rw[QcA]at hl
 exact⟨key98W t (fun x hx=>ht.ltJ h.wf hx) (by omega),key72W t (fun x hx=>ht.ltJ h.wf hx) (by omega)⟩
theorem _root_.Go.AM.au18 {p:Prop} (h:p:=by repeat (first|exact RT.nil|(refine RT.cons ?_ ?_; · (first|exact Rn.any|exact Rn.x1 rfl rfl|exact Rn.x2 rfl rfl|exact Rn.x3 rfl rfl|exact Rn.x4 rfl rfl|exact Rn.x5 rfl|exact Rn.x6 rfl|exact Rn.x7 rfl|(refine Rn.slot ?_ ?_;(first|rfl|(rw[Int.natCast_add];rfl));(first|rfl|(simp only[noRef,noRefs,Qak,Bool.and_self,Bool.and_true,Bool.true_and,Qac,Qaq,Qab,Qao,QaU,Qaf,SU.Qdd,QbS,QbB];done)))|(refine Rn.fn ?_ ?_<;>(repeat' (first|exact RnL.nil|refine RnL.cons ?_ ?_|exact Rn.same rfl|exact Rn.x6 rfl|exact Rn.x2 rfl rfl|exact Rn.x5 rfl|exact Rn.x1 rfl rfl))))))):p:=h
theorem auto69HJ (l:List (List UInt8×Aut)) (hl:l.length<=1000):HSpec Tryz.prog 69 [itsN l] .e (.sl 60 0 0 l.length 4) (hp [(60,.cells 0 ((auJ l).flatMap auC))]):=by
  refine HSpec.QbP 100 TP.ok69 rfl ?_
  have hni:=QbB l
  simp(disch:=first|omega|exact PairsOK.mk rfl|(simp only[lenW]<;>omega)) only[TP.s69,Qaa,Qad,Qae,wW,wV,simprocAttr]
  refine QaB 100 (fun i:Nat=>[(3,.sl 60 0 0 i 4),(6,itsN l),(7,.int .i64 l.length),(8,.int .i64 i)]) (fun i=>[(60,.cells 0 ((auJ (l.take i)).flatMap auC))]) (fun i=>i<=l.length) (fun i=>l.length-i) 0 0 160 (fun _:Unit=>[(3,.sl 60 0 0 l.length 4)]) (fun _=>[(60,.cells 0 ((auJ l).flatMap auC))]) (fun _=>True) ?_ (Nat.zero_le _) ?_ ?_
  · refine ⟨[(60, .nil)], rfl, au0, ?_, au18⟩
    exact RB.newnil rfl rfl RB.nil
  · rintro i hi
    by_cases hlt:i<l.length
    · obtain ⟨x, hx⟩ := Qal hlt
      have hdr:=QlC hx
      have hdl:5<=((l.flatMap itN).drop (i*5)).length:=by rw[hdr];simp
      have htl:(auJ (l.take i)).length=i:=by rw[List.length_map,List.length_take];omega
      have htm:((auJ (l.take i)).flatMap auC).length=i*4:=by rw[Qhk,htl]
      have hap:(auJ (l.take (i+1))).flatMap auC=(auJ (l.take i)).flatMap auC++auC x.2:=by rw[take_succ' hx];simp
      simp(disch:=first|omega|exact PairsOK.mk rfl|(simp only[lenW]<;>omega)) only[hlt,hdr,hdl,htm,Qab,Qao,Qaa,Qad,Qae,wW,wV,simprocAttr]
      refine⟨i+1,by omega,by omega,?_⟩
      rw[hap]
      refine⟨[(60,.blk 60 1)],rfl,au0,?_,au18⟩
      exact RB.cells rfl rfl gg (RnL.same (SU.QaF (QaU _) (QaU [x.2]))) RB.nil
    · have e : i = l.length := by omega
      subst e
      simp(disch:=first|omega|exact PairsOK.mk rfl|(simp only[lenW]<;>omega)) only[hlt,List.take_length,Qaa,Qad,Qae,wW,wV,simprocAttr]
      refine⟨(),?_⟩
      refine⟨[(60,.blk 60 0)],rfl,au0,?_,au18⟩
      exact RB.cells rfl rfl gg (RnL.same (QaU _)) RB.nil
  rintro _ _
  simp(disch:=first|omega|exact PairsOK.mk rfl|(simp only[lenW]<;>omega)) only[Qaa,Qad,Qae,wW,wV,simprocAttr]
  refine⟨.inr trivial,_,rfl,?_⟩
  refine⟨[(60,.blk 60 0)],rfl,au0,?_,au18⟩
  exact RB.cells rfl rfl gg (RnL.same (QaU _)) RB.nil
theorem automata69J (l:List (List UInt8×Aut)) (hl:l.length<=1000):PSpec Tryz.prog 69 [itsN l] (auts (auJ l)):=by
  refine PSpec.of_rn 64 TP.ok69 rfl (by rw[noRefs,QbB];rfl) (Qa8 _) ?_
  have hni:=QbB l
  simp(disch:=first|omega|exact PairsOK.mk rfl|(simp only[lenW]<;>omega)) only[TP.s69,Qaa,Qad,Qae,wW,wV,simprocAttr]
  refine QaB 100 (fun i:Nat=>[(3,.sl 60 0 0 i 4),(6,itsN l),(7,.int .i64 l.length),(8,.int .i64 i)]) (fun i=>[(60,.cells 0 ((auJ (l.take i)).flatMap auC))]) (fun i=>i<=l.length) (fun i=>l.length-i) 0 0 160 (fun _:Unit=>[(3,auts (auJ l))]) (fun _=>[]) (fun _=>True) ?_ (Nat.zero_le _) ?_ ?_
  · refine ⟨[(60, .nil)], rfl, au0, ?_, au18⟩
    exact RB.newnil rfl rfl RB.nil
  · rintro i hi
    by_cases hlt:i<l.length
    · obtain ⟨x, hx⟩ := Qal hlt
      have hdr:=QlC hx
      have hdl:5<=((l.flatMap itN).drop (i*5)).length:=by rw[hdr];simp
      have htl:(auJ (l.take i)).length=i:=by rw[List.length_map,List.length_take];omega
      have htm:((auJ (l.take i)).flatMap auC).length=i*4:=by rw[Qhk,htl]
      have hap:(auJ (l.take (i+1))).flatMap auC=(auJ (l.take i)).flatMap auC++auC x.2:=by rw[take_succ' hx];simp
      simp(disch:=first|omega|exact PairsOK.mk rfl|(simp only[lenW]<;>omega)) only[hlt,hdr,hdl,htm,Qab,Qao,Qaa,Qad,Qae,wW,wV,simprocAttr]
      refine⟨i+1,by omega,by omega,?_⟩
      rw[hap]
      refine⟨[(60,.blk 60 1)],rfl,au0,?_,au18⟩
      exact RB.cells rfl rfl gg (RnL.same (SU.QaF (QaU _) (QaU [x.2]))) RB.nil
    · have e : i = l.length := by omega
      subst e
      simp(disch:=first|omega|exact PairsOK.mk rfl|(simp only[lenW]<;>omega)) only[hlt,List.take_length,Qaa,Qad,Qae,wW,wV,simprocAttr]
      exact⟨(),[],rfl,RO.zero,RB.nil,RT.cons (Rn.fzm (b:=60) (g:=0) gg rfl rfl (by simp) (by rw[Qhk];simp) (RnL.same (QaU _))) RT.nil⟩
  rintro _ _
  simp(disch:=first|omega|exact PairsOK.mk rfl|(simp only[lenW]<;>omega)) only[Qaa,Qad,Qae,wW,wV,simprocAttr]
  exact⟨.inr trivial,_,rfl,Rn.same (Qa8 _)⟩
variable {ev:List Evn} {l:List (List UInt8×Aut)}
theorem syn_J (h:CelJ ev l):PSpec Tryz.prog 28 [auts (auJ l)] (synV (auJ l)):=by
 have h8:=h.c8
 have h0:=h.c0
 exact sync28J (auJ l) h.wf (by rw[QcA];exact h0) (by rw[QcA];omega) fun t ht=>(h.key ht).1
theorem Qhr (l:List Aut):noRef (synV l)=true:=by
 unfold synV
 split
 ·exact Qpq l
 ·rfl
theorem plant17J (h:CelJ ev l):PSpec Tryz.prog 17 [celJ ev l] (synV (auJ l)):=by
 have hnr:=h.nrs
 refine PSpec.of_rn 64 TP.ok17 rfl (by rw[noRefs,noRef,hnr];rfl) (Qhr _) ?_
 have h8:=h.c8
 have hc:=h.ck
 have ha:=automata69J l (by omega)
 have hs:=syn_J h
 have hn:=Qhr (auJ l)
 unfold synV at*
 split at hs
 ·rename_i hb
  rw[if_pos hb]at hn⊢
  simp(disch:=first|omega|exact PairsOK.mk rfl|(simp only[lenW]<;>omega)) only[TP.s17,Qaa,Qad,Qae,wW,wV,simprocAttr]
  refine cp hc ?_
  simp(disch:=first|omega|exact PairsOK.mk rfl|(simp only[lenW]<;>omega)) only[Qaa,Qad,Qae,wW,wV,simprocAttr]
  refine cp ha ?_
  simp(disch:=first|omega|exact PairsOK.mk rfl|(simp only[lenW]<;>omega)) only[Qaa,Qad,Qae,wW,wV,simprocAttr]
  refine cp hs ?_
  simp(disch:=first|omega|exact PairsOK.mk rfl|(simp only[lenW]<;>omega)) only[Qaa,Qad,Qae,wW,wV,simprocAttr]
  exact⟨.inr trivial,_,rfl,Rn.same hn⟩
 ·rename_i hb
  rw[if_neg hb]at hn⊢
  simp(disch:=first|omega|exact PairsOK.mk rfl|(simp only[lenW]<;>omega)) only[TP.s17,Qaa,Qad,Qae,wW,wV,simprocAttr]
  refine cp hc ?_
  simp(disch:=first|omega|exact PairsOK.mk rfl|(simp only[lenW]<;>omega)) only[Qaa,Qad,Qae,wW,wV,simprocAttr]
  refine cp ha ?_
  simp(disch:=first|omega|exact PairsOK.mk rfl|(simp only[lenW]<;>omega)) only[Qaa,Qad,Qae,wW,wV,simprocAttr]
  refine cp hs ?_
  simp(disch:=first|omega|exact PairsOK.mk rfl|(simp only[lenW]<;>omega)) only[Qaa,Qad,Qae,wW,wV,simprocAttr]
  exact⟨.inr trivial,_,rfl,Rn.same hn⟩
abbrev stF (ev:List Evn) (l:List (List UInt8×Aut)) (p:Aut) (P:List (List Nat)):List AV:=[evns ev,itsN l,.fsl [] 0 5,.fsl [] 0 2,.fsl [] 0 3,sliN p.al,.int .i64 (p.n:Int),sliN p.ms,egsN p.es,tuV P,sliN p.al,.int .i64 (p.n:Int),sliN p.ms,egsN p.es,tuV P,sliN (szJ l),.fsl [] 0 2,.fsl [] 0 3,fmapG keyC (ixV P) P]
abbrev stQ (ev:List Evn) (l:List (List UInt8×Aut)) (p:Aut) (P:List (List Nat)):List AV:=[evns ev,itsN l,.fsl [] 0 5,.fsl [] 0 2,.fsl [] 0 3,sliN p.al,.int .i64 (p.n:Int),sliN p.ms,egsN p.es,tuV P,sliN p.al,.int .i64 (p.n:Int),sliN p.ms,egsN p.es,tuV P,sliN (szJ l),.fsl [] 0 2,.fsl [] 0 3]
def stJ (ev:List Evn) (l:List (List UInt8×Aut)):List AV:=stF ev l (syncA (auJ l)) (sync0 (auJ l)).1
theorem QeK (p:Aut) (P:List (List Nat)):noRefs (stQ ev l p P)=true:=by
 simp only[noRefs,QbY,Qab,Qao,Qbs,QbB]
 rfl
theorem QcL (p:Aut) (P:List (List Nat)):noRefs (stF ev l p P)=true:=by
 simp only[noRefs,QbY,Qab,Qao,Qbs,QbB]
 rw[show noRef (fmapG keyC (ixV P) P)=true by rw[fmapG,noRef,Qam (fun _=>rfl),Qam (fun _=>rfl)];rfl]
 rfl
theorem open70L (h:CelJ ev l) (hb:¬(sync0 (auJ l)).1.length<=4096):PSpec Tryz.prog 70 [celJ ev l] (.tup [.nilptr,.int .i64 3]):=by
 have hnr:=h.nrs
 refine PSpec.of_rn 64 TR.ok70 rfl (by rw[noRefs,noRef,hnr];rfl) rfl ?_
 have hP:=plant17J h
 unfold synV at hP
 rw[if_neg hb]at hP
 simp(disch:=first|omega|exact PairsOK.mk rfl|(simp only[lenW]<;>omega)) only[TR.s70,Qaa,Qad,Qae,wW,wV,simprocAttr]
 refine cp hP ?_
 simp(disch:=first|omega|exact PairsOK.mk rfl|(simp only[lenW]<;>omega)) only[Qaa,Qad,Qae,wW,wV,simprocAttr]
 exact⟨.inr trivial,_,rfl,Rn.same rfl⟩
theorem open70J (h : CelJ ev l) (hb : (sync0 (auJ l)).1.length <= 4096) : PSpec Tryz.prog 70 [celJ ev l] (.tup [.fptr (stJ ev l), .int .i64 0]) := by
  have hnr:=h.nrs
  have hns:noRef (.tup [.fptr (stJ ev l),.int .i64 0])=true:=by rw[noRef,noRefs,noRef,stJ,QcL];rfl
  refine PSpec.of_rn 64 TR.ok70 rfl (by rw[noRefs,noRef,hnr];rfl) hns ?_
  have h8:=h.c8
  have hP:=plant17J h
  have hA:=auto69HJ l (by omega)
  have hB:PSpec Tryz.prog 69 [.fsl [] 0 5] (.fsl [] 0 4):=automata69J [] (by simp)
  have hS:=syn_J h
  have hD:=h.cd
  unfold synV at hP hS
  rw[if_pos hb]at hP hS
  have hPi:=Qeg (fun a ha=>(h.wf a ha).pos) fun a ha=>(h.wf a ha).wf.esn
  have hwf:=h.wf
  have hkey:=fun t (ht:InT (auJ l) t)=>(h.key ht).2
  have hnT:=Qbs (sync0 (auJ l)).1
  have hl1:((auJ l).flatMap auC).length=l.length*4:=by rw[Qhk,QcA]
  have hS':PSpec Tryz.prog 28 [.fsl ((auJ l).flatMap auC) l.length 4] (.tup [aV (syncA (auJ l)),tuV (sync0 (auJ l)).1,.int .i64 0]):=by
    rw[<-QcA (l:=l)];exact hS
  clear hS
  rw[stJ]
  generalize syncA (auJ l)=p at*
  generalize (sync0 (auJ l))=sP at*
  obtain⟨P,es⟩:=sP
  dsimp only at*
  simp(disch:=first|omega|exact PairsOK.mk rfl|(simp only[lenW]<;>omega)) only[TR.s70,Qaa,Qad,Qae,wW,wV,simprocAttr]
  refine cp hP ?_
  simp(disch:=first|omega|exact PairsOK.mk rfl|(simp only[lenW]<;>omega)) only[Qaa,Qad,Qae,wW,wV,simprocAttr]
  refine Qho [] 4 (x:= .f 69) (ag:=[.t 30]) (d:=some 31) rfl rfl rfl ?_
  simp(disch:=first|omega|exact PairsOK.mk rfl|(simp only[lenW]<;>omega)) only[Qaa,Qad,Qae,wW,wV,simprocAttr]
  refine⟨69,(auJ l).flatMap auC,l.length,4,rfl,⟨hA.1,by show noRefs [itsN l]=true;rw[noRefs,QbB];rfl,60,0,0,_,_,rfl,Nat.zero_le _,gg,hA⟩,QaU _,by decide,gg,?_⟩
  simp(disch:=first|omega|exact PairsOK.mk rfl|(simp only[lenW]<;>omega)) only[Qaa,Qad,Qae,wW,wV,simprocAttr]
  refine ch (PSpec.toH hB _) ?_
  simp(disch:=first|omega|exact PairsOK.mk rfl|(simp only[lenW]<;>omega)) only[hl1,Qaa,Qad,Qae,wW,wV,simprocAttr]
  refine ch (HSpec.give1 (g:=1) hS' gg (QaU _) hl1 rfl) ?_
  simp(disch:=first|omega|exact PairsOK.mk rfl|(simp only[lenW]<;>omega)) only[Qaa,Qad,Qae,wW,wV,simprocAttr]
  refine⟨trivial,?_⟩
  refine cp hD ?_
  simp(disch:=first|omega|exact PairsOK.mk rfl|(simp only[lenW]<;>omega)) only[Qaa,Qad,Qae,wW,wV,simprocAttr]
  refine QaB 200 (fun i:Nat=>[(4,.ptr 52 0 0),(59,tuV P),(60,.int .i64 P.length),(61,.int .i64 i)]) (fun i=>[(52,.cells 0 [evns ev,itsN l,.fsl [] 0 5,.fsl [] 0 2,.fsl [] 0 3,sliN p.al,.int .i64 (p.n:Int),sliN p.ms,egsN p.es,tuV P,sliN p.al,.int .i64 (p.n:Int),sliN p.ms,egsN p.es,tuV P,sliN (szJ l),.fsl [] 0 2,.fsl [] 0 3,.map 53 0]),(53,.map 0 (mapG keyC (ixV P) (P.take i)))]) (fun i=>i<=P.length) (fun i=>P.length-i) 0 0 260 (fun _:Unit=>[(4,.ptr 52 0 0)]) (fun _=>[(52,.cells 0 [evns ev,itsN l,.fsl [] 0 5,.fsl [] 0 2,.fsl [] 0 3,sliN p.al,.int .i64 (p.n:Int),sliN p.ms,egsN p.es,tuV P,sliN p.al,.int .i64 (p.n:Int),sliN p.ms,egsN p.es,tuV P,sliN (szJ l),.fsl [] 0 2,.fsl [] 0 3,fmapG keyC (ixV P) P])]) (fun _=>True) ?_ (Nat.zero_le _) ?_ ?_
  · refine ⟨[(52, .blk 69 0), (53, .blk 116 0)], rfl, RO.set rfl (RO.set rfl RO.zero), ?_, RT.cons (Rn.x2 rfl rfl) (RT.cons (Rn.same hnT) au18)⟩
    exact RB.cells rfl rfl gg (RnL.append (xs:=stQ ev l p P) (ys:=stQ ev l p P) (RnL.same (QeK p P)) (RnL.one (Rn.x3 rfl rfl))) (RB.map rfl rfl gg (RnM.mapG fun _ _=>⟨rfl,rfl⟩) RB.nil)
  · rintro i hi
    by_cases hlt:i<P.length
    · obtain ⟨t, ht⟩ := Qal hlt
      have hti:=hPi.inT t (List.mem_of_getElem? ht)
      have hk:=hkey t hti
      have hnew:t∉P.take i:=fun hm=>by
        have h2:ixT (P.take i) t=i:=(QfA (List.take_prefix i P) hm).trans (Qnn hPi.nd ht)
        have h4:=Qhn hm
        rw[h2,List.length_take]at h4
        omega
      have hup:updG (ixV P) t (.int .i64 ((i:Nat):Int))=ixV P:=by
        funext x
        unfold updG
        split
        · rename_i e;subst e;unfold ixV;rw[Qnn hPi.nd ht]
        · rfl
      simp(disch:=first|omega|exact PairsOK.mk rfl|(simp only[lenW]<;>omega)) only[hlt,QhJ ht,Qaa,Qad,Qae,wW,wV,simprocAttr]
      refine cp hk ?_
      simp(disch:=first|omega|exact PairsOK.mk rfl|(simp only[lenW]<;>omega)) only[Qaa,Qad,Qae,wW,wV,simprocAttr]
      refine Qca (c:=keyC) (f:=ixV P) (x:=t) (l:=P.take i) (g:=0) gg (Qeh hwf hti fun x hx=>hPi.inT x (List.mem_of_mem_take hx)) hnew (by omega) ?_
      rw[hup]
      simp(disch:=first|omega|exact PairsOK.mk rfl|(simp only[lenW]<;>omega)) only[Qaa,Qad,Qae,wW,wV,simprocAttr]
      refine⟨i+1,by omega,by omega,?_⟩
      rw[take_succ' ht]
      refine⟨[(52,.blk 52 0),(53,.blk 53 0)],rfl,RO.zero,?_,RT.cons (Rn.x2 rfl rfl) (RT.cons (Rn.same hnT) au18)⟩
      exact RB.cells rfl rfl gg (RnL.append (xs:=stQ ev l p P) (ys:=stQ ev l p P) (RnL.same (QeK p P)) (RnL.one (Rn.x3 rfl rfl))) (RB.map rfl rfl gg (RnM.mapG fun _ _=>⟨rfl,rfl⟩) RB.nil)
    · have e : i = P.length := by omega
      subst e
      simp(disch:=first|omega|exact PairsOK.mk rfl|(simp only[lenW]<;>omega)) only[hlt,List.take_length,Qaa,Qad,Qae,wW,wV,simprocAttr]
      refine⟨(),[(52,.blk 52 0)],rfl,RO.zero,?_,RT.cons (Rn.x2 rfl rfl) RT.nil⟩
      exact RB.cells rfl rfl gg (RnL.append (xs:=stQ ev l p P) (ys:=stQ ev l p P) (RnL.same (QeK p P)) (RnL.one (Rn.fzM (b:=53) (g:=0) gg rfl rfl fun _ _=>⟨rfl,rfl⟩))) RB.nil
  rintro _ _
  simp(disch:=first|omega|exact PairsOK.mk rfl|(simp only[lenW]<;>omega)) only[Qaa,Qad,Qae,wW,wV,simprocAttr]
  refine⟨.inr trivial,_,rfl,?_⟩
  refine Rn.tup (RnL.cons ?_ (RnL.same rfl))
  exact Rn.frzp (b:=52) (g:=0) rfl (Nat.zero_le _) (fun b' g' _ e=>by simp[π0]at e) (by simp) (RnL.same (QcL p P))
end Go.AM.SO
namespace Go.AM.SO
open Go.Proofs Go.AM.SD Go.AM.SE
theorem check112B (a:Aut) (h:WfA a):PSpec Tryz.prog 112 [aV a] (.int .i64 0):=check112 a h (by have:=WfA.el1 h;omega)
theorem QhM {l:List Aut} {ev:List Nat} {T:List (List Nat)} {j:Nat} {t:List Nat} {x:Ed} (h:x∈rowE l ev T j t):x.1=j/\x.2.1∈ev/\∃n,stepT l t x.2.1=some n/\x.2.2=ixT T n:=by
 unfold rowE at h
 obtain⟨e,he,h2⟩:=List.mem_filterMap.1 h
 cases hs:stepT l t e with
 |none=>rw[hs]at h2;cases h2
 |some n=>
  rw[hs]at h2
  simp only[Option.map_some,Option.some.injEq]at h2
  subst h2
  exact⟨rfl,he,n,hs,rfl⟩
theorem Qge {l:List Aut} {T:List (List Nat)} {j:Nat} {t:List Nat}:∀{ev:List Nat},ev.Pairwise (· < ·)->(rowE l ev T j t).Pairwise fun x y=>x.1<y.1\/(x.1=y.1/\x.2.1<y.2.1)
 |[],_=>by simp[rowE]
 | e :: ev, h => by
  rw[List.pairwise_cons]at h
  have ih:=Qge (l:=l) (T:=T) (j:=j) (t:=t) h.2
  unfold rowE at ih⊢
  rw[List.filterMap_cons]
  cases hs:stepT l t e with
  |none=>exact ih
  |some n=>
   simp only[Option.map_some]
   rw[List.pairwise_cons]
   refine⟨fun y hy=>?_,ih⟩
   obtain⟨h1,h2,_⟩:=QhM (l:=l) (T:=T) (j:=j) (t:=t) (ev:=ev) (by unfold rowE;exact hy)
   exact .inr ⟨h1.symm,h.1 _ h2⟩
theorem Qgf {f:Nat->List Ed} (hf:∀j,(f j).Pairwise (fun x y=>x.1<y.1\/(x.1=y.1/\x.2.1<y.2.1))/\∀x∈f j,x.1=j):∀i,((List.range i).flatMap f).Pairwise fun x y=>x.1<y.1\/(x.1=y.1/\x.2.1<y.2.1)
 |0=>by simp
 |i+1=>by
  rw[List.range_succ,List.flatMap_append,List.flatMap_cons,List.flatMap_nil,List.append_nil,List.pairwise_append]
  refine⟨Qgf hf i,(hf i).1,fun x hx y hy=>?_⟩
  obtain⟨j,hj,hx⟩:=List.mem_flatMap.1 hx
  have:=List.mem_range.1 hj
  rw[(hf j).2 x hx,(hf i).2 y hy]
  exact .inl this
theorem out199 (a:Aut) (v:Nat) (h:WfA a) (hv:v<=100000):PSpec Tryz.prog 199 [aV a,.int .i64 (v:Int)] (egsN (sOut a.es (fun _=>true) v)):=out58 a v h (by have:=WfA.el1 h;omega) (by omega)
end Go.AM.SO
namespace Go.AM.SO
open Go.Proofs Go.AM.SD Go.AM.SE
theorem state207 (a:Aut) (v:Nat) (h:WfA a) (hv:v<a.n):PSpec Tryz.prog 207 [aV a,.int .i64 (v:Int)] (.int .i64 0):=by
 refine PSpec.Qau 64 TQ.ok207 rfl (by(try simp only[noRefs,Qac,Qat,Qaf,noRef,noRefs,Bool.and_self,Bool.and_true])<;>rfl) rfl ?_
 have hc:=check112B a h
 have g1:¬(v:Int)<0:=by omega
 have g2:¬(a.n:Int)<=(v:Int):=by omega
 simp(disch:=first|omega|exact PairsOK.mk rfl|(simp only[lenW]<;>omega)) only[TQ.s207,Qaa,Qad,Qae,wW,wV,simprocAttr]
 refine cp hc ?_
 simp(disch:=first|omega|exact PairsOK.mk rfl|(simp only[lenW]<;>omega)) only[g1,g2,Qaa,Qad,Qae,wW,wV,simprocAttr]
 exact⟨.inr trivial,_,rfl,rfl⟩
def evO (a:Aut) (v:Nat):List Nat:=(sOut a.es (fun _=>true) v).map (·.2.1)
theorem _root_.Go.AM.au19 {p:Prop} (h:p:=by repeat (first|exact RT.nil|(refine RT.cons ?_ ?_; · (first|exact Rn.any|exact Rn.x1 rfl rfl|exact Rn.x2 rfl rfl|exact Rn.x3 rfl rfl|exact Rn.x4 rfl rfl|exact Rn.x5 rfl|exact Rn.x6 rfl|exact Rn.x7 rfl|(refine Rn.slot ?_ ?_;(first|rfl|(rw[Int.natCast_add];rfl));(first|rfl|(simp only[noRef,noRefs,Qak,Bool.and_self,Bool.and_true,Bool.true_and,Qac,Qaq,Qab,Qao,QaU,Qaf,SU.Qdd];done)))|(refine Rn.fn ?_ ?_<;>(repeat' (first|exact RnL.nil|refine RnL.cons ?_ ?_|exact Rn.same rfl|exact Rn.x6 rfl|exact Rn.x2 rfl rfl|exact Rn.x5 rfl|exact Rn.x1 rfl rfl))))))):p:=h
theorem enabled161 (a:Aut) (v:Nat) (h:WfA a) (hv:v<a.n):PSpec Tryz.prog 161 [aV a,.int .i64 (v:Int)] (.tup [sliN (evO a v),.int .i64 0]):=by
  have hn:=h.n5
  have hno:noRef (.tup [sliN (evO a v),.int .i64 0])=true:=by rw[noRef,noRefs,Qab];rfl
  refine PSpec.of_rn 64 TQ.ok161 rfl (by(try simp only[noRefs,Qac,Qat,Qaf,noRef,noRefs,Bool.and_self,Bool.and_true])<;>rfl) hno ?_
  have hc:=state207 a v h hv
  have ho:=out199 a v h (by omega)
  have hol:(sOut a.es (fun _=>true) v).length<=131072:=Nat.le_trans (List.length_filter_le ..) (WfA.el1 h)
  unfold evO at hno⊢
  generalize sOut a.es (fun _=>true) v=o at*
  simp(disch:=first|omega|exact PairsOK.mk rfl|(simp only[lenW]<;>omega)) only[TQ.s161,Qaa,Qad,Qae,wW,wV,simprocAttr]
  refine cp hc ?_
  simp(disch:=first|omega|exact PairsOK.mk rfl|(simp only[lenW]<;>omega)) only[Qaa,Qad,Qae,wW,wV,simprocAttr]
  refine cp ho ?_
  simp(disch:=first|omega|exact PairsOK.mk rfl|(simp only[lenW]<;>omega)) only[Qaa,Qad,Qae,wW,wV,simprocAttr]
  refine QaB 120 (fun i:Nat=>[(7,.sl 60 0 0 i 1),(18,egsN o),(19,.int .i64 o.length),(20,.int .i64 i)]) (fun i=>[(60,.cells 0 (ints (nz ((o.take i).map (·.2.1)))))]) (fun i=>i<=o.length) (fun i=>o.length-i) 0 0 180 (fun _:Unit=>[(7,sliN (o.map (·.2.1)))]) (fun _=>[]) (fun _=>True) ?_ (Nat.zero_le _) ?_ ?_
  · refine ⟨[(60, .nil)], rfl, au0, ?_, au19⟩
    exact RB.newnil rfl rfl RB.nil
  · rintro i hi
    by_cases hlt:i<o.length
    · obtain ⟨e, he⟩ := Qal hlt
      have hdr:=Qbb he
      have hdl:3<=((o.flatMap edC).drop (i*3)).length:=by rw[hdr];simp
      have htl:(ints (nz ((o.take i).map (·.2.1)))).length=i:=by simp[ints];omega
      simp(disch:=first|omega|exact PairsOK.mk rfl|(simp only[lenW]<;>omega)) only[hlt,hdr,hdl,htl,Qaa,Qad,Qae,wW,wV,simprocAttr]
      refine⟨i+1,by omega,by omega,?_⟩
      rw[take_succ' he,List.map_append,Qbn,Qa3]
      refine⟨[(60,.blk 60 1)],rfl,au0,?_,au19⟩
      exact RB.cells rfl rfl gg (RnL.same (SU.QaF (Qac _) rfl)) RB.nil
    · have e : i = o.length := by omega
      subst e
      simp(disch:=first|omega|exact PairsOK.mk rfl|(simp only[lenW]<;>omega)) only[hlt,List.take_length,Qaa,Qad,Qae,wW,wV,simprocAttr]
      exact⟨(),[],rfl,RO.zero,RB.nil,RT.cons (Rn.fzm (b:=60) (g:=0) gg rfl rfl (by simp) (by simp[ints]) (RnL.same (Qac _))) RT.nil⟩
  rintro _ _
  simp(disch:=first|omega|exact PairsOK.mk rfl|(simp only[lenW]<;>omega)) only[Qaa,Qad,Qae,wW,wV,simprocAttr]
  exact⟨.inr trivial,_,rfl,Rn.same hno⟩
end Go.AM.SO
namespace Go.AM.SO
open Go.Proofs Go.AM.SD Go.AM.SE
theorem QoX {t:List Nat} {n:Nat}:(ints (nz t)).take n=ints (nz (t.take n)):=by simp[ints,nz,List.map_take]
theorem Qof {t:List Nat} {n:Nat}:(ints (nz t)).drop n=ints (nz (t.drop n)):=by simp[ints,nz,List.map_drop]
theorem QkJ {cs:List AV} {len sz:Nat} {k k2:IntKind} {b m:Int} (h:0<b):aSliceC (some sz) (.fsl cs len sz) none (some (.int k b)) (some (.int k2 m))=
  if b<=m/\m<=len then some (.fsl (cs.take (b.toNat*sz)) b.toNat sz)else none:=by
 have e:¬((0:Int)=0/\b=0/\m=0):=by omega
 have e2:(0:Int)<=b:=by omega
 simp only[aSliceC,if_true,aSlice,bnd,Int.le_refl,true_and,e2,Int.toNat_zero,Nat.zero_mul,List.drop_zero,Nat.sub_zero]
 rw[if_neg (by omega)]
end Go.AM.SO
namespace Go.AM
variable {P:Program}
theorem RSpec.of_wS {b N n:Nat} {T:Tmps} {ps:List Nat} {asg body:SCode} {args:List AV} {h h':Heap} {v:AV} (hn:(noLoop asg&&noLoop body)=true) (hb:h.get b=some (.loop 0 N T ps (.s asg) (.s body) .ready))
  (hl:Nat.blt b 1099511627775=true) (hlen:args.length=ps.length) (hps:(ps.all fun p=>Nat.blt p N)=true)
  (hw : wS P ⟨N, 0⟩ asg [] n (upsT T ps args) h fun e T1 h1 n1 => e = .normal /\ h1.get b = some (.loop 0 N T ps (.s asg) (.s body) .ready) /\
   wS P ⟨N,0⟩ body [] n1 T1 (h1.set b (.loop 0 N T ps (.s asg) (.s body) .busy)) fun e T2 h2 _=>h2.get b=some (.loop 0 N T ps (.s asg) (.s body) .busy)/\v= .bool e.isNormal/\∀x,(h2.set b (.loop 0 N T ps (.s asg) (.s body) (stOf e))).get x=h'.get x):RSpec P b 0 args h v h':=by
 simp only[Bool.and_eq_true]at hn
 refine RSpec.of_W hb (by simpa[lim]using hl) hlen (fun p hp=>by simp_all) ((wpC.toW1 hn.1 hw).mono ?_)
 rintro e B ⟨n1,rfl,h1,h2⟩
 refine⟨rfl,N,T,ps,.s asg,.s body,h1,(wpC.toW1 hn.2 h2).mono ?_⟩
 rintro e C ⟨n2,k1,k2,k3⟩
 grind
section
variable {k m n:Nat} {T:Tmps} {h:Heap} {Q:QC} {fs:List Fr}
theorem QcB {g:Opd} {ps:List Nat} {asg body:SCode} {f b n':Nat} {first cap:List AV} {v:AV} {h2:Heap} {T' T2:Tmps} {L:HL} {N2:Nat} {ps2:List Nat} {as2 body2:LCode} {st:LSt} (hr:Rec m T' L T h) (hg:ev T' g= .fn f first cap) (hb:(hp L).get b=none) (hl:Nat.blt b 1099511627775=true)
  (hs:HSpec P f (first++[.yld b 0]++cap) ((hp L).set b (.loop 0 k T' ps (.s asg) (.s body) .ready)) v h2) (hst:h2.get b=some (.loop 0 N2 T2 ps2 as2 body2 st))
  (hQ:leftQ (fun e B=>wX P ⟨k,m⟩ e fs n' B.T B.h Q) ⟨T',h2.set b (.dead 0)⟩ st):wS P ⟨k,m⟩ (.rfunc g ps k asg body) fs n T h Q:=by
 show W2 P ⟨k,m⟩ (.rfunc g ps k asg body) (fun e B=>∃n,ct P ⟨k,m⟩ fs Q e B.T B.h n) ⟨T,h⟩
 refine W2.recL hr (W2.of_W (W.rfunc (las:= .s asg) (lbody:= .s body) rfl rfl hg hb (by simpa[lim]using hl) hs hst ?_))
 cases st with
 |ready=>exact⟨n',hQ⟩
 |busy=>exact hQ
 |done e=>exact⟨hQ.1,n',hQ.2⟩
theorem cy {N:NM} {b g:Nat} {args:List AV} {v:AV} {h1:Heap} {d:Option Nat} {ops:List SOper} {dead:List Nat} (hR:RSpec P b g args h v h1) (hk:wR P N ops dead fs (n+1) (putD T d v) h1 Q):wCall P N .heap (.yld b g) args d ops dead fs n T h Q:=⟨_,_,hR,hk⟩
theorem W2.weakE {N:NM} {c:SCode} {Q:SX->St->Prop} {T L:Tmps} {h h':Heap} (hT:Sub L T) (he:∀b,h.get b=h'.get b) (hw:W2 P N c Q ⟨L,h'⟩):W2 P N c Q ⟨T,h⟩:=
 W2.weak hT (W2.congr hw ⟨fun _=>rfl,he⟩)
def loopI (P:Program) (k m:Nat) {α:Type} (env:α->Tmps) (H:α->Heap) (I:α->Prop) (μ:α->Nat) (a:α) (fs:List Fr) (Q:QC):QC:=fun e T h n=>
 match e with
 | .normal=>∃a',μ a'<μ a/\I a'/\Sub (env a') T/\∀b,h.get b=(H a').get b
 |e=>wX P ⟨k,m⟩ e fs n T h Q
section
variable {α:Type} {env:α->Tmps} {H:α->Heap} {I:α->Prop} {μ:α->Nat} {a:α}
theorem Qag:loopI P k m env H I μ a fs Q .normal T h n=∃a',μ a'<μ a/\I a'/\Sub (env a') T/\∀b,h.get b=(H a').get b:=rfl
theorem Qai {i:Nat}:loopI P k m env H I μ a fs Q (.exit i) T h n=wX P ⟨k,m⟩ (.exit i) fs n T h Q:=rfl
theorem Qaj:loopI P k m env H I μ a fs Q .ret T h n=wX P ⟨k,m⟩ .ret fs n T h Q:=rfl
theorem Qog {b:SCode} (n0:Nat) (env:α->Tmps) (H:α->Heap) (I:α->Prop) (μ:α->Nat) (a0:α)
  (h0:Sub (env a0) T) (hh:∀b,h.get b=(H a0).get b) (hI:I a0) (round:∀a,I a->wS P ⟨k,m⟩ b [] n0 (env a) (H a) (loopI P k m env H I μ a fs Q)):wS P ⟨k,m⟩ (.loop b) fs n T h Q:=by
 show W2 P ⟨k,m⟩ (.loop b) (fun e B=>∃n,ct P ⟨k,m⟩ fs Q e B.T B.h n) ⟨T,h⟩
 refine W2.loop (fun q B=>∃a,μ a=q/\I a/\Sub (env a) B.T/\∀b,B.h.get b=(H a).get b) (μ a0) ⟨a0,rfl,hI,h0,hh⟩ ?_
 rintro q B ⟨a,rfl,hi,hs,he⟩
 refine W2.weakE hs he ((wpC.toW (round a hi)).mono ?_)
 rintro e C ⟨n2,hq⟩
 cases e with
 |normal=>obtain⟨a',h1,h2,h3⟩:=hq;exact⟨μ a',h1,a',rfl,h2,h3⟩
 |exit i=>exact⟨n2,hq⟩
 |ret=>exact⟨n2,hq⟩
end
end
theorem HSpec.of_I {f:Nat} {sf:SFn} {args:List AV} {h h':Heap} {v:AV} (m n:Nat) (hok:okFn P f sf=true) (hl:Nat.ble args.length sf.n=true) (hm:Fresh m h)
  (hw:wS P ⟨sf.n,m⟩ sf.body [] n (argT 0 args) h fun e T k _=>(e= .normal\/e= .ret)/\∃vs,resV T k sf.res=some vs/\resOf vs=v/\∀b,k.get b=h'.get b):HSpec P f args h v h':=by
 obtain⟨_,_,_,_,_,_,_,hc⟩:=Qb6 hok
 refine⟨hc,fun c w cargs H ha=>(Qdg (m:=m) (R:=fun vs k=>resOf vs=v/\∀b,k.get b=h'.get b) hok (Nat.le_of_ble_eq_true hl) ((wpC.toW hw).mono fun e B ⟨_,h1,vs,h2,h3⟩=>⟨h1,vs,h2,h3⟩) H ha).mono ?_⟩
 rintro e w' ⟨cv,c',vs,k,rfl,E,H',V,rfl,hk⟩
 refine⟨cv,c',rfl,⟨E.os,E.tape,E.output,E.size,E.shape,E.keep,fun b g p hp=>?_,E.frz,E.frzNew,E.own,E.base⟩,QbW hk H',V⟩
 rcases Nat.lt_or_ge b m with h1|h1
 ·exact E.rho b g p h1 hp
 ·rw[H.fresh b (hm b h1) g]at hp;cases hp
end Go.AM
namespace Go.AM.SO
open Go.Proofs Go.AM.SD Go.AM.SE
theorem clone41 (l:List Nat) (hl:l.length<=1000000):PSpec Tryz.prog 41 [sliN l] (sliN l):=by
 have h:=(clone56 l hl).freeze (b:=83) (g:=0) (ds:=ints (nz l)) gg (by
  have:∀m:List Int,flatVs (ints m)=true:=fun m=>by
   induction m with
   |nil=>rfl
   |cons x m ih=>simp only[ints,List.map_cons,flatVs,Bool.and_eq_true];exact⟨rfl,ih⟩
  exact this _) (by simp[ints]) rfl
 have e:(ints (nz l)).take (l.length*1)=ints (nz l):=by rw[List.take_of_length_le (by simp[ints])]
 rw[e]at h
 exact⟨by rw[noRefs,Qab];rfl,Qab _,_,h⟩
end Go.AM.SO
namespace Go.Proofs
open Go.Shelf Go.RowKit Go.Lib Go.Sort
def Tryz.Qmf:Go.Shelf.Ren:=⟨fun|6=>76|15=>164|14=>163|28=>217|29=>218|20=>209|21=>210|22=>211|23=>212|24=>213|25=>214|26=>215|27=>216|46=>237|47=>238|48=>239|49=>240|50=>241|57=>267|n=>n,fun|22=>31|24=>35|25=>161|3=>3|39=>253|0=>0|53=>300|55=>302|4=>4|46=>294|45=>293|50=>188|5=>5|9=>9|66=>315|70=>319|76=>336|77=>278|n=>n,fun|n=>n⟩
theorem Tryz.sortEd:Go.Proofs.SlLaysF0.n6 Tryz.prog Tryz.Qmf:={
 mixed:=by kernel_rfl
 f6:=⟨Tryz.f76.name,by decide,Tryz.func76.trans (congrArg some (by kernel_rfl))⟩
 f14:=⟨Tryz.f163.name,by decide,Tryz.func163.trans (congrArg some (by kernel_rfl))⟩
 f15:=Tryz.func164.trans (congrArg some (by kernel_rfl))
 f20:=⟨Tryz.f209.name,by decide,Tryz.func209.trans (congrArg some (by kernel_rfl))⟩
 f21:=⟨Tryz.f210.name,by decide,Tryz.func210.trans (congrArg some (by kernel_rfl))⟩
 f22:=⟨Tryz.f211.name,by decide,Tryz.func211.trans (congrArg some (by kernel_rfl))⟩
 f23:=⟨Tryz.f212.name,by decide,Tryz.func212.trans (congrArg some (by kernel_rfl))⟩
 f24:=⟨Tryz.f213.name,by decide,Tryz.func213.trans (congrArg some (by kernel_rfl))⟩
 f25:=⟨Tryz.f214.name,by decide,Tryz.func214.trans (congrArg some (by kernel_rfl))⟩
 f26:=⟨Tryz.f215.name,by decide,Tryz.func215.trans (congrArg some (by kernel_rfl))⟩
 f27:=⟨Tryz.f216.name,by decide,Tryz.func216.trans (congrArg some (by kernel_rfl))⟩
 f28:=Tryz.func217.trans (congrArg some (by kernel_rfl))
 f29:=Tryz.func218.trans (congrArg some (by kernel_rfl))
 f46:=⟨Tryz.f237.name,by decide,Tryz.func237.trans (congrArg some (by kernel_rfl))⟩
 f47:=Tryz.func238.trans (congrArg some (by kernel_rfl))
 f48:=Tryz.func239.trans (congrArg some (by kernel_rfl))
 f49:=⟨Tryz.f240.name,by decide,Tryz.func240.trans (congrArg some (by kernel_rfl))⟩
 f50:=⟨Tryz.f241.name,by decide,Tryz.func241.trans (congrArg some (by kernel_rfl))⟩
 f57:=⟨Tryz.f267.name,by decide,Tryz.func267.trans (congrArg some (by kernel_rfl))⟩
 t0:=Tryz.underlying0
 a0:=Tryz.isAgg0
 z0:=Tryz.sizeOf0
 v0:=Tryz.zeroValue0
 t3:=Tryz.underlying3
 a3:=Tryz.isAgg3
 z3:=Tryz.sizeOf3
 v3:=Tryz.zeroValue3
 t4:=Tryz.underlying4
 a4:=Tryz.isAgg4
 z4:=Tryz.sizeOf4
 v4:=Tryz.zeroValue4
 t5:=Tryz.underlying5
 a5:=Tryz.isAgg5
 z5:=Tryz.sizeOf5
 v5:=Tryz.zeroValue5
 t9:=Tryz.underlying9
 a9:=Tryz.isAgg9
 z9:=Tryz.sizeOf9
 v9:=Tryz.zeroValue9
 t22:=Tryz.underlying31
 a22:=Tryz.isAgg31
 z22:=Tryz.sizeOf31
 v22:=Tryz.zeroValue31
 t25:=Tryz.underlying161
 a25:=Tryz.isAgg161
 z25:=Tryz.sizeOf161
 v25:=Tryz.zeroValue161
 t39:=Tryz.underlying253
 a39:=Tryz.isAgg253
 z39:=Tryz.sizeOf253
 v39:=Tryz.zeroValue253
 t45:=Tryz.underlying293
 a45:=Tryz.isAgg293
 z45:=Tryz.sizeOf293
 v45:=Tryz.zeroValue293
 t46:=Tryz.underlying294
 a46:=Tryz.isAgg294
 z46:=Tryz.sizeOf294
 v46:=Tryz.zeroValue294
 t50:=Tryz.underlying188
 a50:=Tryz.isAgg188
 z50:=Tryz.sizeOf188
 v50:=Tryz.zeroValue188
 t53:=Tryz.underlying300
 a53:=Tryz.isAgg300
 z53:=Tryz.sizeOf300
 v53:=Tryz.zeroValue300
 t55:=Tryz.underlying302
 a55:=Tryz.isAgg302
 z55:=Tryz.sizeOf302
 v55:=Tryz.zeroValue302
 t66:=Tryz.underlying315
 a66:=Tryz.isAgg315
 z66:=Tryz.sizeOf315
 v66:=Tryz.zeroValue315
 t70:=Tryz.underlying319
 a70:=Tryz.isAgg319
 z70:=Tryz.sizeOf319
 v70:=Tryz.zeroValue319
 t76:=Tryz.underlying336
 a76:=Tryz.isAgg336
 z76:=Tryz.sizeOf336
 v76:=Tryz.zeroValue336
 t77:=Tryz.underlying278
 a77:=Tryz.isAgg278
 z77:=Tryz.sizeOf278
 v77:=Tryz.zeroValue278}
abbrev Ed3:=Fin 1048576×Fin 1048576×Fin 1048576
def ciE (x:Ed3):List Int:=[(x.1.val:Int),(x.2.1.val:Int),(x.2.2.val:Int)]
def cfE (x y:Ed3):Int:=if x.1=y.1 then(x.2.1.val:Int)-(y.2.1.val:Int)else(x.1.val:Int)-(y.1.val:Int)
theorem Tryz.cmp77 (x y:Ed3) (W:World):Calls Tryz.prog 77 #[.agg #[.int .i64 (x.1.val:Int),.int .i64 (x.2.1.val:Int),.int .i64 (x.2.2.val:Int)],.agg #[.int .i64 (y.1.val:Int),.int .i64 (y.2.1.val:Int),.int .i64 (y.2.2.val:Int)]] W fun e w'=>e= .returned (.int .i64 (cfE x y))/\∃q os',w'=grow (W.drewN q) os':=by
 obtain⟨⟨a,ha⟩,⟨b,hb⟩,⟨c,hc⟩⟩:=x
 obtain⟨⟨a',ha'⟩,⟨b',hb'⟩,⟨c',hc'⟩⟩:=y
 unfold cfE
 simp only[Fin.mk.injEq]
 by_cases h:a=a'
 ·subst h
  rw[if_pos rfl]
  go_enter Tryz.func77,Tryz.ntmps77
  go_wp2
  go_ret
  exact⟨rfl,0,_,by rw[alloc_eq_grow,alloc_eq_grow,grow_grow];rfl⟩
 ·rw [if_neg h]
  have h':¬((a:Int)=(a':Int)):=by omega
  go_enter Tryz.func77,Tryz.ntmps77
  go_wp2
  go_ret
  exact⟨rfl,0,_,by rw[alloc_eq_grow,alloc_eq_grow,grow_grow];rfl⟩
theorem Qfs (x y:Ed3):ltOf cfE x y=decide (x.1.val<y.1.val\/x.1.val=y.1.val/\x.2.1.val<y.2.1.val):=by
 unfold ltOf cfE
 grind
theorem QoY:SWO (ltOf cfE) where
 irrefl x:=by rw[Qfs];simp
 trans x y z h1 h2:=by rw[Qfs,decide_eq_true_eq]at*;omega
 ntrans x y z h1 h2:=by grind [Qfs]
end Go.Proofs
namespace Go.AM.SO
open Go.Proofs Go.AM.SD Go.AM.SE Go.Sort Go.Shelf
def toE (e:Ed):Ed3:=(⟨e.1 % 1048576,Nat.mod_lt _ (by decide)⟩,⟨e.2.1 % 1048576,Nat.mod_lt _ (by decide)⟩,⟨e.2.2 % 1048576,Nat.mod_lt _ (by decide)⟩)
def SmE (e:Ed):Prop:=e.1<1048576/\e.2.1<1048576/\e.2.2<1048576
theorem Qpt {e:Ed} (h:SmE e):avI ciE (toE e)=edC e:=by
 obtain⟨h1,h2,h3⟩:=h
 simp_all [avI,ciE,toE,edC,Nat.mod_eq_of_lt]
theorem QgK:∀{l:List Ed},(∀e∈l,SmE e)->(l.map toE).flatMap (avI ciE)=l.flatMap edC
 |[],_=>rfl
 |e::l,h=>by
  rw[List.map_cons,List.flatMap_cons,List.flatMap_cons,Qpt (h e (by simp)),QgK fun x hx=>h x (by simp[hx])]
abbrev ltE (x y:Ed):Prop:=x.1<y.1\/(x.1=y.1/\x.2.1<y.2.1)
theorem QoZ {M:List Ed} (hs:M.Pairwise ltE) {x y:Ed} (hx:x∈M) (hy:y∈M) (h1:x.1=y.1) (h2:x.2.1=y.2.1):x=y:=by
 obtain⟨i,hi,rfl⟩:=List.getElem_of_mem hx
 obtain⟨j,hj,rfl⟩:=List.getElem_of_mem hy
 rw[List.pairwise_iff_getElem]at hs
 grind
theorem call76:Callable Tryz.prog 76:=⟨_,Tryz.func76,by kernel_rfl,by kernel_rfl⟩
theorem sort76 {l M:List Ed} (hb:∀e∈l,SmE e) (hl:l.length<1000000000) (hM:M.Perm l) (hs:M.Pairwise ltE) {h:Heap} {b γ:Nat} (hg:h.get b=some (.cells γ (l.flatMap edC))) (hlim:b<1099511627775):
  HSpec Tryz.prog 76 [.sl b γ 0 l.length 3,.fn 77 [] []] h (.tup []) (h.set b (.cells γ (M.flatMap edC))):=by
 have hbM:∀e∈M,SmE e:=fun e he=>hb e (hM.mem_iff.1 he)
 obtain⟨l',hp,hsrt,hsp⟩:=HSpec.sortK (f:=76) (g:=77) (γ:=γ) (h:=h) (b:=b) Tryz.sortEd rfl call76 3 (by decide) Tryz.isAgg35 Tryz.sizeOf35 ciE (fun _=>rfl) cfE QoY (enters_of Tryz.func77 (by kernel_rfl) rfl) (fun x y w=>Tryz.cmp77 x y w) (l.map toE) (by grind) (by rw[hg,QgK hb]) hlim
 have e:l'=M.map toE:=by
  refine List.Perm.eq_of_pairwise (le:=fun x y=>ltOf cfE y x=false) ?_ hsrt ?_ (hp.trans (hM.map toE).symm)
  ·intro x y hx hy h1 h2
   have hx':x∈l.map toE:=hp.mem_iff.1 hx
   obtain⟨m1,hm1,rfl⟩:=List.mem_map.1 hx'
   obtain⟨m2,hm2,rfl⟩:=List.mem_map.1 hy
   grind [Qfs,SmE,toE,QoZ]
  ·rw [List.pairwise_map]
   refine hs.imp_of_mem fun{x y} hx hy h=>?_
   have b1:=hbM x hx
   have b2:=hbM y hy
   unfold SmE at b1 b2
   rw[Qfs,decide_eq_false_iff_not]
   simp only[toE]
   omega
 simp_all [QgK]
end Go.AM.SO
namespace Go.AM.TS
open Go.Proofs
set_option maxHeartbeats 4000000
noncomputable section
def cf:YA.Cf:={most:= .pure,always:=[48,52,75,76,115,120].map fun k=>(k,.heap),value:= .pure}
def s19:SFn:=by
 refine(?f:YA.Yt Tryz.prog cf 19 [[0,4],[1,18,19,17,20,21],[22],[5,23,24,25],[23,26,27,28,29,30],[31],[5,6,32,33],[32,34,35,36,37,38,39,40,41,42,43,44,45,46,47,48,49,50,51,52,53,54],[55,56,57],[],[61,62,63,64],[8,66,67,68,65,69,70],[72,73,74,75,76,77,71,78,79,80,81,11,12,14],[13],[82,83,84,85,86],[9,82,87,88,89,90,91,92,93],[10,15,94,95,96],[3,4,5,58,59,60,97,98,99],[2,6,7,16,100,101,102,103,104,105,106,107,108],[7,97,109],[4,5,58,59,60,110,111,112],[6,113,114,115,116,117]] [(14,[(6,19)]),(0,[(0,4)])]) ?s ?h
 case h=>exact YA.rr
 exact fun s _=>s
theorem ok19:okFn Tryz.prog 19 s19=true:=by kernel_rfl
end
end Go.AM.TS
namespace Go.AM.SO
open Go.Proofs Go.AM.SD Go.AM.SE
theorem QpC {a b:List UInt8}:aBin .eql (.str a) (.str b)=some (.bool (decide (a=b))):=rfl
end Go.AM.SO
namespace Go.AM.TV
open Go.Proofs
set_option maxHeartbeats 4000000
noncomputable section
def cf:YA.Cf:={}
def s75:SFn:=by
 refine(?f:YA.Yt Tryz.prog cf 75 [[2],[3],[0,4],[0,4,5,6,7]]) ?s ?h
 case h=>exact YA.rr
 exact fun s _=>s
theorem ok75:okFn Tryz.prog 75 s75=true:=by kernel_rfl
end
end Go.AM.TV
namespace Go.AM.SO
open Go.Proofs Go.AM.SD Go.AM.SE
theorem _root_.Go.AM.au20 {p:Prop} (h:p:=by repeat' (first|exact RB.nil|(refine RnL.same ?_;first|rfl|(simp only[noRef,noRefs,Qak,Bool.and_self,Bool.and_true,Bool.true_and,Qac,Qaq,Qab,Qao,QaU,Qaf,QbS];done))|exact RnM.keyM rfl|exact RnL.nil|exact(True.intro:RnM _ _ _ [] [])|refine RnL.cons ?_ ?_|(refine Rn.same ?_;first|rfl|(simp only[noRef,noRefs,Qak,Bool.and_self,Bool.and_true,Bool.true_and,Qac,Qaq,Qab,Qao,QaU,Qaf,QbS];done))|exact Rn.x1 rfl rfl|exact Rn.x2 rfl rfl|exact Rn.x3 rfl rfl|exact Rn.x4 rfl rfl|exact Rn.x5 rfl|exact Rn.x6 rfl|exact Rn.x7 rfl|refine RB.newnil rfl rfl ?_|refine RB.cells rfl rfl rfl ?_ ?_|refine RB.map rfl rfl rfl ?_ ?_|refine RB.cellsB rfl rfl ?_ ?_|refine RB.mapB rfl rfl ?_ ?_)):p:=h
theorem _root_.Go.AM.au21 {p:Prop} (h:p:=by repeat (first|exact RT.nil|(refine RT.cons ?_ ?_; · (first|exact Rn.any|exact Rn.x1 rfl rfl|exact Rn.x2 rfl rfl|exact Rn.x3 rfl rfl|exact Rn.x4 rfl rfl|exact Rn.x5 rfl|exact Rn.x6 rfl|exact Rn.x7 rfl|(refine Rn.slot ?_ ?_;(first|rfl|(rw[Int.natCast_add];rfl));(first|rfl|(simp only[noRef,noRefs,Qak,Bool.and_self,Bool.and_true,Bool.true_and,Qac,Qaq,Qab,Qao,QaU,Qaf,QbS];done)))|(refine Rn.fn ?_ ?_<;>(repeat' (first|exact RnL.nil|refine RnL.cons ?_ ?_|exact Rn.same rfl|exact Rn.x6 rfl|exact Rn.x2 rfl rfl|exact Rn.x5 rfl|exact Rn.x1 rfl rfl))))))):p:=h
theorem clone75 (l:List Ed) (hl:l.length<=1000000):HSpec Tryz.prog 75 [egsN l] .e (.sl 83 0 0 l.length 3) (hp [(83,.cells 0 (l.flatMap edC))]):=by
 cases l with
 | nil =>
  refine HSpec.empty ?_ ?_
  ·refine HSpec.QbP 100 TV.ok75 rfl ?_
   have hq:aEqN false .nilsl= .ret (.bool true):=rfl
   simp(disch:=first|omega|exact PairsOK.mk rfl|(simp only[lenW]<;>omega)) only[TV.s75,hq,Qaa,Qad,Qae,wW,wV,simprocAttr]
   exact⟨.inr trivial,_,rfl,⟨[(83,.nil)],rfl,au0,au20,au21⟩⟩
  ·refine HSpec.QbP 100 TV.ok75 rfl ?_
   have hq:aEqN false .nsl= .ret (.bool false):=rfl
   simp(disch:=first|omega|exact PairsOK.mk rfl|(simp only[lenW]<;>omega)) only[TV.s75,hq,Qc5,Qaa,Qad,Qae,wW,wV,simprocAttr]
   exact⟨.inr trivial,_,rfl,⟨[(83,.blk 103 1)],rfl,au0,au20,au21⟩⟩
 |cons x l=>
  refine HSpec.QbP 100 TV.ok75 rfl ?_
  have hq:aEqN false (egsN (x::l))= .ret (.bool false):=rfl
  have hone:((x::l).flatMap edC).all AV.one=true:=QeF (fun _=>rfl) _
  have hln:((x::l).flatMap edC).length=(x::l).length*3:=Qbg (k:=3) (fun _=>rfl) _
  generalize x::l=q at*
  simp(disch:=first|omega|exact PairsOK.mk rfl|(simp only[lenW]<;>omega)) only[TV.s75,hq,hone,hln,Qaa,Qad,Qae,wW,wV,simprocAttr]
  refine⟨.inr trivial,_,rfl,?_⟩
  refine⟨[(83,.blk 103 1)],rfl,au0,?_,au21⟩
  exact RB.cells rfl rfl gg (RnL.same (Qaf _)) RB.nil
theorem Qfm (l:List Ed):(l.flatMap edC).length=l.length*3:=Qbg (k:=3) (fun _=>rfl) l
end Go.AM.SO
namespace Go.AM.SO
open Go.Proofs Go.AM.SD Go.AM.SE
theorem Qkf {l:List Aut} (h:∀a∈l,WfJ a) (hb:(sync0 l).1.length<=4096):WfA (syncA l):=by
 have hw:∀a∈l,∀e∈a.es,e.1<a.n/\e.2.2<a.n:=fun a ha=>(h a ha).wf.esn
 have hpos:∀a∈l,0<a.n:=fun a ha=>(h a ha).pos
 have hs:=QiE hpos hw
 have hin:∀e∈(sync0 l).2,e.2.1∈evA l/\e.1<(sync0 l).1.length/\e.2.2<(sync0 l).1.length:=fun e he=>by
  rw[hs.ed]at he
  obtain⟨j,hj,he⟩:=List.mem_flatMap.1 he
  have hj:=List.mem_range.1 hj
  obtain⟨h1,h2,n,h3,h4⟩:=QhM he
  obtain⟨t,ht⟩:=Qal hj
  rw[List.getD_eq_getElem?_getD,ht]at h3
  have hm:=hs.cl j t hj ht _ h2 n h3
  exact⟨h2,by omega,by rw[h4];exact Qhn hm⟩
 have h5:∀x∈evA l,x<32:=fun x hx=>by
  obtain⟨a,ha,hxa⟩:=((Qdv h).2 x).1 hx
  exact(h a ha).wf.al5 x hxa
 refine⟨(Qdv h).1,h5,hb,?_,fun x hx=>?_,?_,fun e he=>⟨(hin e he).2.1,(hin e he).2.2⟩,fun e he=>(hin e he).1⟩
 ·exact List.pairwise_lt_range.filter _
 ·exact List.mem_range.1 (List.mem_filter.1 hx).1
 ·show (sync0 l).2.Pairwise _
  rw[hs.ed]
  exact Qgf (fun j=>⟨Qge (Qdv h).1,fun x hx=>(QhM hx).1⟩) _
variable {ev:List Evn} {l:List (List UInt8×Aut)}
theorem Qdf:noRef (.fptr (stJ ev l))=true:=by rw[noRef,stJ];exact QcL _ _
theorem split71J (t:List Nat) (h0:0<l.length) (h:t.length=l.length):PSpec Tryz.prog 71 [.fptr (stJ ev l),sliN t] (.tup [sliN t,.fsl [] 0 1]):=by
 have hno:noRef (.tup [sliN t,.fsl [] 0 1])=true:=by rw[noRef,noRefs,Qab];rfl
 refine PSpec.of_rn 64 TQ.ok71 rfl (by rw[noRefs,Qdf,noRefs,Qab];rfl) hno ?_
 have hs:=@Qdf ev l
 rw[stJ]at hs⊢
 generalize syncA (auJ l)=p at*
 generalize (sync0 (auJ l)).1=P at*
 have hle:(l.length:Int)<=(t.length:Int):=by omega
 have hl0:(0:Int)<(l.length:Int):=by omega
 have htt:t.take l.length=t:=List.take_of_length_le (by omega)
 have htd:t.drop l.length=[]:=List.drop_eq_nil_of_le (by omega)
 have hz:t.length-l.length=0:=by omega
 simp(disch:=first|omega|exact PairsOK.mk rfl|(simp only[lenW]<;>omega)) only[TQ.s71,hle,QkJ,QoX,Qof,htd,htt,hz,Qaa,Qad,Qae,Qag,Qai,Qaj,wW,wV,simprocAttr]
 refine⟨.inr trivial,_,rfl,?_⟩
 have e1:sliN t= .fsl (ints (nz t)) l.length 1:=by rw[sliN,h]
 rw[e1]at hno⊢
 exact Rn.same hno
theorem _root_.Go.AM.au22 {p:Prop} (h:p:=by repeat (first|exact RT.nil|(refine RT.cons ?_ ?_; · (first|exact Rn.any|exact Rn.x1 rfl rfl|exact Rn.x2 rfl rfl|exact Rn.x3 rfl rfl|exact Rn.x4 rfl rfl|exact Rn.x5 rfl|exact Rn.x6 rfl|exact Rn.x7 rfl|(refine Rn.slot ?_ ?_;(first|rfl|(rw[Int.natCast_add];rfl));(first|rfl|(simp only[noRef,noRefs,Qak,Bool.and_self,Bool.and_true,Bool.true_and,Qac,Qaq,Qab,Qao,QaU,Qaf,QbS,Qbs];done)))|(refine Rn.fn ?_ ?_<;>(repeat' (first|exact RnL.nil|refine RnL.cons ?_ ?_|exact Rn.same rfl|exact Rn.x6 rfl|exact Rn.x2 rfl rfl|exact Rn.x5 rfl|exact Rn.x1 rfl rfl))))))):p:=h
theorem _root_.Go.AM.au23 {p:Prop} (h:p:=by repeat' (first|exact RB.nil|(refine RnL.same ?_;first|rfl|(simp only[noRef,noRefs,Qak,Bool.and_self,Bool.and_true,Bool.true_and,Qac,Qaq,Qab,Qao,QaU,Qaf,QbS,Qbs];done))|exact RnM.keyM rfl|exact RnL.nil|exact(True.intro:RnM _ _ _ [] [])|refine RnL.cons ?_ ?_|(refine Rn.same ?_;first|rfl|(simp only[noRef,noRefs,Qak,Bool.and_self,Bool.and_true,Bool.true_and,Qac,Qaq,Qab,Qao,QaU,Qaf,QbS,Qbs];done))|exact Rn.x1 rfl rfl|exact Rn.x2 rfl rfl|exact Rn.x3 rfl rfl|exact Rn.x4 rfl rfl|exact Rn.x5 rfl|exact Rn.x6 rfl|exact Rn.x7 rfl|refine RB.newnil rfl rfl ?_|refine RB.cells rfl rfl rfl ?_ ?_|refine RB.map rfl rfl rfl ?_ ?_|refine RB.cellsB rfl rfl ?_ ?_|refine RB.mapB rfl rfl ?_ ?_)):p:=h
theorem refuser162J (r:AV) (hr:noRef r=true) (e:Nat):PSpec Tryz.prog 162 [.fptr (stJ ev l),r,.int .i64 (e:Int)] (.int .i64 (-1)):=by
 refine PSpec.Qau 64 TQ.ok162 rfl (by rw[noRefs,Qdf,noRefs,hr];rfl) rfl ?_
 rw[stJ]
 generalize syncA (auJ l)=p at*
 generalize (sync0 (auJ l)).1=P at*
 simp(disch:=first|omega|exact PairsOK.mk rfl|(simp only[lenW]<;>omega)) only[TQ.s162,Qaa,Qad,Qae,Qag,Qai,Qaj,wW,wV,simprocAttr]
 refine QaB 100 (fun i:Nat=>[(1,r),(2,.int .i64 (e:Int)),(16,.fsl [] 0 5),(17,.int .i64 0),(18,.int .i64 i)]) (fun _=>[]) (fun i=>i=0) (fun i=>0) 0 0 200 (fun _:Unit=>[]) (fun _=>[]) (fun _=>True) ?_ rfl ?_ ?_
 ·exact⟨[],rfl,RO.zero,RB.nil,RT.cons (Rn.same hr) (RT.cons (Rn.same rfl) (RT.cons (Rn.same rfl) au22))⟩
 ·rintro i rfl
  simp(disch:=first|omega|exact PairsOK.mk rfl|(simp only[lenW]<;>omega)) only[Qaa,Qad,Qae,Qag,Qai,Qaj,wW,wV,simprocAttr]
  exact⟨(),⟨[],rfl,au0,au23,au22⟩⟩
 rintro _ _
 simp(disch:=first|omega|exact PairsOK.mk rfl|(simp only[lenW]<;>omega)) only[Qaa,Qad,Qae,Qag,Qai,Qaj,wW,wV,simprocAttr]
 exact⟨.inr trivial,_,rfl,rfl⟩
def rfJ (ev:List Evn) (l:List (List UInt8×Aut)) (k:Nat) (r:AV):AV:= .fn 160 [] [.fptr [.fptr (stJ ev l)],.fptr [.int .i64 (k:Int)],.fptr [r]]
theorem Qft (k:Nat) (r:AV) (hr:noRef r=true):noRef (rfJ ev l k r)=true:=by
 have:=@Qdf ev l
 rw[noRef]at this
 simp only[rfJ,noRef,noRefs,Qac,this,hr];rfl
theorem refused74J (k:Nat):PSpec Tryz.prog 74 [.fptr (stJ ev l),.int .i64 (k:Int),.fsl [] 0 1] (rfJ ev l k (.fsl [] 0 1)):=by
 have hs:=@Qdf ev l
 refine PSpec.of_rn 64 TQ.ok74 rfl (by rw[noRefs,hs];rfl) (Qft _ _ rfl) ?_
 unfold rfJ
 have hb:(AV.fptr (stJ ev l)).boxable=true:=rfl
 have hc:(AV.fptr (stJ ev l)).cells=[.fptr (stJ ev l)]:=rfl
 have ho:(AV.fptr (stJ ev l)).one=true:=rfl
 generalize AV.fptr (stJ ev l)=S at*
 simp(disch:=first|omega|exact PairsOK.mk rfl|(simp only[lenW]<;>omega)) only[TQ.s74,hb,hc,ho,Qaa,Qad,Qae,Qag,Qai,Qaj,wW,wV,simprocAttr]
 refine⟨.inr trivial,_,rfl,?_⟩
 refine Rn.fn RnL.nil (RnL.cons (Rn.frzp (b:=64) (g:=0) rfl (Nat.zero_le _) (fun b' g' _ e=>by simp[π0]at e) (by simp) (RnL.same ?_)) (RnL.cons (Rn.frzp (b:=65) (g:=0) rfl (Nat.zero_le _) (fun b' g' _ e=>by simp[π0]at e) (by simp) (RnL.same rfl)) (RnL.cons (Rn.frzp (b:=66) (g:=0) rfl (Nat.zero_le _) (fun b' g' _ e=>by simp[π0]at e) (by simp) (RnL.same rfl)) RnL.nil)))
 show noRefs [S]=true
 rw[noRefs,hs];rfl
theorem refused160J (hw:CelJ ev l) (hb:(sync0 (auJ l)).1.length<=4096) {k:Nat} (hk:k<(syncA (auJ l)).n) {b m:Nat} (H:Heap) (hf:Fresh m H):
    HSpec Tryz.prog 160 [.yld b 0,.fptr [.fptr (stJ ev l)],.fptr [.int .i64 (k:Int)],.fptr [.fsl [] 0 1]] H (.tup []) H:=by
  refine HSpec.of_I m 1099511627000 TR.ok160 rfl hf ?_
  have hwa:=Qkf hw.wf hb
  have hE161:=enabled161 (syncA (auJ l)) k hwa hk
  have hR:=fun e=>refuser162J (ev:=ev) (l:=l) (.fsl [] 0 1) rfl e
  have hol:(evO (syncA (auJ l)) k).length<=131072:=by
    unfold evO;rw[List.length_map]
    exact Nat.le_trans (List.length_filter_le ..) (WfA.el1 hwa)
  rw[stJ]at*
  generalize evO (syncA (auJ l)) k=o at*
  generalize syncA (auJ l)=p at*
  generalize (sync0 (auJ l)).1=P at*
  simp(disch:=first|omega|exact PairsOK.mk rfl|(simp only[lenW]<;>omega)) only[TR.s160,Qaa,Qad,Qae,Qag,Qai,Qaj,wW,wV,simprocAttr]
  refine cp hE161 ?_
  simp(disch:=first|omega|exact PairsOK.mk rfl|(simp only[lenW]<;>omega)) only[Qaa,Qad,Qae,Qag,Qai,Qaj,wW,wV,simprocAttr]
  refine Qog 1099511627100 (fun i:Nat=>[(0,.yld b 0),(1,.fptr [.fptr (stF ev l p P)]),(3,.fptr [.fsl [] 0 1]),(19,sliN o),(20,.int .i64 o.length),(21,.int .i64 i)]) (fun i=>H) (fun i=>i<=o.length) (fun i=>o.length-i) 0 ?_ (fun _=>rfl) (Nat.zero_le _) ?_
  · repeat (first|exact Sub.nil|refine Sub.cons (by first|rfl|(rw[Int.natCast_add];rfl)) ?_)
  rintro i hi
  by_cases hlt:i<o.length
  · obtain ⟨x, hx⟩ := Qal hlt
    have hRx:=hR x
    simp(disch:=first|omega|exact PairsOK.mk rfl|(simp only[lenW]<;>omega)) only[hlt,Qa5 hx,Qaa,Qad,Qae,Qag,Qai,Qaj,wW,wV,simprocAttr]
    refine cp hRx ?_
    simp(disch:=first|omega|exact PairsOK.mk rfl|(simp only[lenW]<;>omega)) only[Qaa,Qad,Qae,Qag,Qai,Qaj,wW,wV,simprocAttr]
    refine⟨i+1,by omega,by omega,?_,fun _=>trivial⟩
    repeat (first|exact Sub.nil|refine Sub.cons (by first|rfl|(rw[Int.natCast_add];rfl)) ?_)
  · have e : i = o.length := by omega
    subst e
    simp(disch:=first|omega|exact PairsOK.mk rfl|(simp only[lenW]<;>omega)) only[hlt,Qaa,Qad,Qae,Qag,Qai,Qaj,wW,wV,simprocAttr]
    exact⟨.inl trivial,_,rfl,rfl,fun _=>trivial⟩
theorem Qhs:noRefs [sliN (szJ l),.fsl [] 0 2,.fsl [] 0 3]=true:=by rw[noRefs,Qab];rfl
theorem tokJ (h:CelJ ev l) {t:List Nat} (ht:InT (auJ l) t):TOk (szJ l) t [] []:=by
 have hl:t.length=l.length:=by rw[ht.1,QcA]
 have h8:=h.c8
 refine⟨by rw[hl,List.length_map],by omega,fun k hk=>(by cases hk),fun i x n hi hn=>?_,fun x hx=>(by cases hx),fun x hx=>(by cases hx),by simp,by simp⟩
 have hil:i<l.length:=by rw[<-hl];exact(List.getElem?_eq_some_iff.1 hi).1
 obtain⟨y,hy⟩:=Qal hil
 have h1:=ht.2 i y.2 (by rw[List.getElem?_map,hy];rfl)
 rw[List.getD_eq_getElem?_getD,hi]at h1
 rw[List.getElem?_map,hy]at hn
 simp only[Option.map_some,Option.some.injEq]at hn
 subst hn
 simpa using h1
theorem checkT157J (h:CelJ ev l) {t:List Nat} (ht:InT (auJ l) t):PSpec Tryz.prog 157 [cdJ l,sliN t] (.int .i64 0):=by
 have hncd:=@Qhs l
 refine PSpec.Qau 64 TQ.ok157 rfl (by rw[noRefs,noRef,hncd,noRefs,Qab];rfl) rfl ?_
 have h1:=h.c32
 have h2:PSpec Tryz.prog 202 [cdJ l,sliN t] (.int .i64 0):=checkT202 (tokJ h ht)
 show wS _ _ _ _ _ (argT 0 [.agg [sliN (szJ l),.fsl [] 0 2,.fsl [] 0 3],sliN t]) _ _
 simp(disch:=first|omega|exact PairsOK.mk rfl|(simp only[lenW]<;>omega)) only[TQ.s157,Qaa,Qad,Qae,Qag,Qai,Qaj,wW,wV,simprocAttr]
 refine cp h1 ?_
 simp(disch:=first|omega|exact PairsOK.mk rfl|(simp only[lenW]<;>omega)) only[Qaa,Qad,Qae,Qag,Qai,Qaj,wW,wV,simprocAttr]
 refine cp h2 ?_
 simp(disch:=first|omega|exact PairsOK.mk rfl|(simp only[lenW]<;>omega)) only[Qaa,Qad,Qae,Qag,Qai,Qaj,wW,wV,simprocAttr]
 exact⟨.inr trivial,_,rfl,rfl⟩
theorem violated73J (h:CelJ ev l) {t:List Nat} (ht:InT (auJ l) t):PSpec Tryz.prog 73 [cdJ l,sliN t] (.tup [.int .i64 0,.int .i64 0,.bool false,.int .i64 0]):=by
 have hncd:=@Qhs l
 refine PSpec.Qau 64 TQ.ok73 rfl (by rw[noRefs,noRef,hncd,noRefs,Qab];rfl) rfl ?_
 have h1:=checkT157J h ht
 have h2:PSpec Tryz.prog 159 [cdJ l] (.fsl [] 0 1):=conds159 (S:=szJ l) (xs:=[]) (ks:=[]) (by simp) (by simp)
 have h3:PSpec Tryz.prog 158 [.fsl [] 0 1,sliN t] (.int .i64 (-1)):=violated158 (tokJ h ht)
 show wS _ _ _ _ _ (argT 0 [.agg [sliN (szJ l),.fsl [] 0 2,.fsl [] 0 3],sliN t]) _ _
 simp(disch:=first|omega|exact PairsOK.mk rfl|(simp only[lenW]<;>omega)) only[TQ.s73,Qaa,Qad,Qae,Qag,Qai,Qaj,wW,wV,simprocAttr]
 refine cp h1 ?_
 simp(disch:=first|omega|exact PairsOK.mk rfl|(simp only[lenW]<;>omega)) only[Qaa,Qad,Qae,Qag,Qai,Qaj,wW,wV,simprocAttr]
 refine cp h2 ?_
 simp(disch:=first|omega|exact PairsOK.mk rfl|(simp only[lenW]<;>omega)) only[Qaa,Qad,Qae,Qag,Qai,Qaj,wW,wV,simprocAttr]
 refine cp h3 ?_
 simp(disch:=first|omega|exact PairsOK.mk rfl|(simp only[lenW]<;>omega)) only[Qaa,Qad,Qae,Qag,Qai,Qaj,wW,wV,simprocAttr]
 exact⟨.inr trivial,_,rfl,rfl⟩
abbrev spK (p:Aut) (P T:List (List Nat)):List AV:=[sliN p.al,.int .i64 (p.n:Int),sliN p.ms,egsN p.es,tuV T,.fsl (T.map fun _=> .fsl [] 0 1) T.length 1,sliN (T.map fun t=>ixT P t),.nilsl]
def spJ (l:List (List UInt8×Aut)):List AV:=spK (syncA (auJ l)) (sync0 (auJ l)).1 (sync0 (auJ l)).1
theorem Qmg (p:Aut) (P T:List (List Nat)):noRefs (spK p P T)=true:=by
 simp only[noRefs,Qab,Qao,Qbs]
 rw[show noRef (.fsl (T.map fun _=> .fsl [] 0 1) T.length 1)=true by rw[noRef];exact Qam (fun _=>rfl) T]
 rfl
abbrev nl8:List AV:=[.nilsl,.int .i64 0,.nilsl,.nilsl,.nilsl,.nilsl,.nilsl,.nilsl]
theorem specify18L (h:CelJ ev l) (hb:¬(sync0 (auJ l)).1.length<=4096):PSpec Tryz.prog 18 [celJ ev l] (.tup [.agg nl8,.int .i64 3]):=by
 have hnr:=h.nrs
 refine PSpec.of_rn 64 TQ.ok18 rfl (by rw[noRefs,noRef,hnr];rfl) rfl ?_
 have hO:=open70L h hb
 simp(disch:=first|omega|exact PairsOK.mk rfl|(simp only[lenW]<;>omega)) only[TQ.s18,Qaa,Qad,Qae,Qag,Qai,Qaj,wW,wV,simprocAttr]
 refine cp hO ?_
 simp(disch:=first|omega|exact PairsOK.mk rfl|(simp only[lenW]<;>omega)) only[Qaa,Qad,Qae,Qag,Qai,Qaj,wW,wV,simprocAttr]
 exact⟨.inr trivial,_,rfl,Rn.same rfl⟩
theorem specify18J (h : CelJ ev l) (hb : (sync0 (auJ l)).1.length <= 4096) : PSpec Tryz.prog 18 [celJ ev l] (.tup [.agg (spJ l), .int .i64 0]) := by
  have hnr:=h.nrs
  have hns:noRef (.tup [.agg (spJ l),.int .i64 0])=true:=by rw[noRef,noRefs,noRef,spJ,Qmg];rfl
  refine PSpec.of_rn 64 TQ.ok18 rfl (by rw[noRefs,noRef,hnr];rfl) hns ?_
  have h0:=h.c0
  have h8:=h.c8
  have hwf:=h.wf
  have hO:=open70J h hb
  have hPi:=Qeg (fun a ha=>(h.wf a ha).pos) fun a ha=>(h.wf a ha).wf.esn
  have hPin:∀x∈(sync0 (auJ l)).1,InT (auJ l) x:=hPi.inT
  have hkey:=fun t (ht:InT (auJ l) t)=>(h.key ht).2
  have hpn:(syncA (auJ l)).n=(sync0 (auJ l)).1.length:=rfl
  have hsplit:=fun t (ht:t.length=l.length)=>split71J (ev:=ev) t h0 ht
  have hviol:=fun t (ht:InT (auJ l) t)=>violated73J h ht
  have href:=fun k=>refused74J (ev:=ev) (l:=l) k
  have hfor:=fun{k:Nat} (hk:k<(syncA (auJ l)).n) {b m:Nat} H hf=>@refused160J ev l h hb k hk b m H hf
  have hnf:∀k,noRef (rfJ ev l k (.fsl [] 0 1))=true:=fun k=>Qft k _ rfl
  have hst:=QcL (ev:=ev) (l:=l) (syncA (auJ l)) (sync0 (auJ l)).1
  have hcl2:PSpec Tryz.prog 41 [.fsl [] 0 1] (.fsl [] 0 1):=clone41 [] (by simp)
  rw[spJ]at*
  rw[stJ]at hO hsplit href
  generalize syncA (auJ l)=p at*
  generalize (sync0 (auJ l)).1=P at*
  have hnT:=Qbs P
  have hS:noRef (.fptr (stF ev l p P))=true:=by rw[noRef];exact hst
  simp(disch:=first|omega|exact PairsOK.mk rfl|(simp only[lenW]<;>omega)) only[TQ.s18,Qaa,Qad,Qae,Qag,Qai,Qaj,wW,wV,simprocAttr]
  refine cp hO ?_
  simp(disch:=first|omega|exact PairsOK.mk rfl|(simp only[lenW]<;>omega)) only[Qaa,Qad,Qae,Qag,Qai,Qaj,wW,wV,simprocAttr]
  refine QaB 200 (fun i:Nat=>[(1,.ptr 51 0 0),(2,.ptr 53 0 0),(4,.fptr (stF ev l p P)),(6,.ptr 52 0 0),(35,tuV P),(36,.int .i64 P.length),(37,.int .i64 i)]) (fun i=>[(51,.cells 0 [evns ev,itsN l,.fsl [] 0 5,.fsl [] 0 2,.fsl [] 0 3]),(52,.cells 0 [sliN p.al,.int .i64 (p.n:Int),sliN p.ms,egsN p.es,.sl 60 0 0 i 1,.sl 61 0 0 i 1,.sl 62 0 0 i 1,.nilsl]),(53,.cells 0 [.nilsl,.int .i64 0,.nilsl,.nilsl,.nilsl,.nilsl,.nilsl,.nilsl]),(60,.cells 0 ((P.take i).map sliN)),(61,.cells 0 ((P.take i).map fun _=> .fsl [] 0 1)),(62,.cells 0 (ints (nz ((P.take i).map fun t=>ixT P t))))]) (fun i=>i<=P.length) (fun i=>P.length-i) 0 0 400
    (fun _:Unit=>[(2,.ptr 53 0 0),(6,.ptr 52 0 0)]) (fun _=>[(52,.cells 0 (spK p P P)),(53,.cells 0 [.nilsl,.int .i64 0,.nilsl,.nilsl,.nilsl,.nilsl,.nilsl,.nilsl])]) (fun _=>True) ?_ (Nat.zero_le _) ?_ ?_
  · refine ⟨[(51, .blk 64 0), (52, .blk 81 0), (53, .blk 65 0), (60, .nil), (61, .nil), (62, .nil)], rfl, RO.zero, ?_, RT.cons (Rn.x2 rfl rfl) (RT.cons (Rn.x2 rfl rfl) (RT.cons (Rn.same hS) (RT.cons (Rn.x2 rfl rfl) (RT.cons (Rn.same hnT) au22))))⟩
    exact RB.cells rfl rfl gg (RnL.same hnr) (RB.cells rfl rfl gg (RnL.cons (Rn.same (Qab _)) (RnL.cons (Rn.same rfl) (RnL.cons (Rn.same (Qab _)) (RnL.cons (Rn.same (Qao _)) (RnL.cons (Rn.x4 rfl rfl) (RnL.cons (Rn.x4 rfl rfl) (RnL.cons (Rn.x4 rfl rfl) (RnL.cons (Rn.same rfl) RnL.nil)))))))) (RB.cells rfl rfl gg (RnL.same rfl) (RB.newnil rfl rfl (RB.newnil rfl rfl (RB.newnil rfl rfl RB.nil)))))
  · rintro i hi
    by_cases hlt:i<P.length
    · obtain ⟨t, ht⟩ := Qal hlt
      have hit:=hPin t (List.mem_of_getElem? ht)
      have htl:t.length=l.length:=by rw[hit.1,QcA]
      have hsp:=hsplit t htl
      have hky:=hkey t hit
      have hv:=hviol t hit
      have hcl1:=clone41 t (by omega)
      have hmt:=List.mem_of_getElem? ht
      have hk:=Qhn hmt
      have hia:(P.take (i+1)).map sliN=(P.take i).map sliN++[sliN t]:=by rw[take_succ' ht];simp
      have hib:((P.take (i+1)).map fun _=>AV.fsl [] 0 1)=((P.take i).map fun _=>AV.fsl [] 0 1)++[.fsl [] 0 1]:=by rw[take_succ' ht];simp
      have hip:((P.take (i+1)).map fun t=>ixT P t)=((P.take i).map fun t=>ixT P t)++[ixT P t]:=by rw[take_succ' ht];simp
      have hla:((P.take i).map sliN).length=i:=by simp;omega
      have hlb:((P.take i).map fun _=>AV.fsl [] 0 1).length=i:=by simp;omega
      have hlp:(ints (nz ((P.take i).map fun t=>ixT P t))).length=i:=by simp[ints];omega
      have hk:ixT P t<p.n:=by rw[hpn];exact hk
      have hn1:noRefs [sliN t]=true:=by rw[noRefs,Qab];rfl
      have hnLA:noRefs ((P.take i).map sliN)=true:=Qam Qab _
      have hnLB:noRefs ((P.take i).map fun _=>AV.fsl [] 0 1)=true:=Qam (fun _=>rfl) _
      generalize (P.take i).map sliN=LA at*
      generalize ((P.take i).map fun _=>AV.fsl [] 0 1)=LB at*
      generalize ((P.take i).map fun t=>ixT P t)=LP at*
      have hrf:=href (ixT P t)
      have hnfk:=hnf (ixT P t)
      simp(disch:=first|omega|exact PairsOK.mk rfl|(simp only[lenW]<;>omega)) only[hlt,QhJ ht,Qaa,Qad,Qae,Qag,Qai,Qaj,wW,wV,simprocAttr]
      refine cp hsp ?_
      simp(disch:=first|omega|exact PairsOK.mk rfl|(simp only[lenW]<;>omega)) only[Qaa,Qad,Qae,Qag,Qai,Qaj,wW,wV,simprocAttr]
      refine cp hky ?_
      simp(disch:=first|omega|exact PairsOK.mk rfl|(simp only[lenW]<;>omega)) only[Qaa,Qad,Qae,Qag,Qai,Qaj,wW,wV,simprocAttr]
      refine QdO (c:=keyC) (f:=ixV P) (x:=t) (l:=P) (Qeh hwf hit hPin) hmt ?_
      simp(disch:=first|omega|exact PairsOK.mk rfl|(simp only[lenW]<;>omega)) only[ixV,Qaa,Qad,Qae,Qag,Qai,Qaj,wW,wV,simprocAttr]
      refine Ql7 [(56,[60]),(62,[61]),(68,[62])] rfl rfl ?_
      simp(disch:=first|omega|exact PairsOK.mk rfl|(simp only[lenW]<;>omega)) only[Qaa,Qad,Qae,Qag,Qai,Qaj,wW,wV,simprocAttr]
      refine cp hcl1 ?_
      simp(disch:=first|omega|exact PairsOK.mk rfl|(simp only[lenW]<;>omega)) only[Qaa,Qad,Qae,Qag,Qai,Qaj,wW,wV,simprocAttr]
      refine cp hcl2 ?_
      simp(disch:=first|omega|exact PairsOK.mk rfl|(simp only[lenW]<;>omega)) only[hla,hlb,hlp,Qaa,Qad,Qae,Qag,Qai,Qaj,wW,wV,simprocAttr]
      refine⟨⟨⟨_,rfl,fun b hb=>hb⟩,⟨_,rfl,fun b hb=>hb⟩,⟨_,rfl,fun b hb=>hb⟩,trivial⟩,?_⟩
      refine cp hv ?_
      simp(disch:=first|omega|exact PairsOK.mk rfl|(simp only[lenW]<;>omega)) only[Qaa,Qad,Qae,Qag,Qai,Qaj,wW,wV,simprocAttr]
      refine cp hrf ?_
      simp(disch:=first|omega|exact PairsOK.mk rfl|(simp only[lenW]<;>omega)) only[Qaa,Qad,Qae,Qag,Qai,Qaj,wW,wV,simprocAttr]
      have hnone:∀{x1 x2 x3 x4 x5 x6 x7:Blk},(hp [(51,x1),(52,x2),(53,x3),(54,x4),(60,x5),(61,x6),(62,x7)]).get 150=none:=fun{x1 x2 x3 x4 x5 x6 x7}=>by simp(disch:=omega) only[Qcv,Qhb,Qa1,get_e]
      refine QcB (n':=700) (b:=150) (T':=[(1,.ptr 51 0 0),(2,.ptr 53 0 0),(4,.fptr (stF ev l p P)),(6,.ptr 52 0 0),(7,.ptr 54 0 0),(35,tuV P),(36,.int .i64 P.length),(37,.int .i64 i),(99,rfJ ev l (ixT P t) (.fsl [] 0 1))]) (L:=[(51,.cells 0 [evns ev,itsN l,.fsl [] 0 5,.fsl [] 0 2,.fsl [] 0 3]),(52,.cells 0 [sliN p.al,.int .i64 (p.n:Int),sliN p.ms,egsN p.es,.sl 60 0 0 (i+1) 1,.sl 61 0 0 (i+1) 1,.sl 62 0 0 (i+1) 1,.nilsl]),(53,.cells 0 [.nilsl,.int .i64 0,.nilsl,.nilsl,.nilsl,.nilsl,.nilsl,.nilsl]),(54,.cells 0 [.int .i64 (i:Int)]),(60,.cells 0 (LA++[sliN t])),(61,.cells 0 (LB++[.fsl [] 0 1])),(62,.cells 0 (ints (nz LP)++[.int .i64 (ixT P t:Int)]))]) ?_ rfl hnone rfl (hfor (m:=1000) hk _ ?_) gg ?_
      · refine ⟨[(51, .blk 51 0), (52, .blk 52 0), (53, .blk 53 0), (54, .blk 204 0), (60, .blk 60 1), (61, .blk 61 1), (62, .blk 62 1)], rfl, RO.zero, ?_, RT.cons (Rn.x2 rfl rfl) (RT.cons (Rn.x2 rfl rfl) (RT.cons (Rn.same hS) (RT.cons (Rn.x2 rfl rfl) (RT.cons (Rn.x2 rfl rfl) (RT.cons (Rn.same hnT) (RT.cons (Rn.same rfl) (RT.cons (Rn.same rfl) (RT.cons (Rn.same hnfk) RT.nil))))))))⟩
        exact RB.cells rfl rfl gg (RnL.same hnr) (RB.cells rfl rfl gg (RnL.cons (Rn.same (Qab _)) (RnL.cons (Rn.same rfl) (RnL.cons (Rn.same (Qab _)) (RnL.cons (Rn.same (Qao _)) (RnL.cons (Rn.x1 rfl rfl) (RnL.cons (Rn.x1 rfl rfl) (RnL.cons (Rn.x1 rfl rfl) (RnL.cons (Rn.same rfl) RnL.nil)))))))) (RB.cells rfl rfl gg (RnL.same rfl) (RB.cells rfl rfl gg (RnL.same rfl) (RB.cells rfl rfl gg (RnL.same (SU.QaF hnLA hn1)) (RB.cells rfl rfl gg (RnL.same (SU.QaF hnLB rfl)) (RB.cells rfl rfl gg (RnL.same (SU.QaF (Qac _) rfl)) RB.nil))))))
      · exact(by repeat (first|exact Fresh.e|exact Fresh.le (by assumption) (by omega)|refine Fresh.set ?_ (by omega) (by omega)))
      · unfold leftQ
        simp(disch:=first|omega|exact PairsOK.mk rfl|(simp only[lenW]<;>omega)) only[Qaa,Qad,Qae,Qag,Qai,Qaj,wW,wV,simprocAttr]
        refine⟨i+1,by omega,by omega,?_⟩
        rw[hia,hib,hip,Qbn,Qa3]
        refine⟨[(51,.blk 51 0),(52,.blk 52 0),(53,.blk 53 0),(60,.blk 60 0),(61,.blk 61 0),(62,.blk 62 0)],rfl,RO.zero,?_,RT.cons (Rn.x2 rfl rfl) (RT.cons (Rn.x2 rfl rfl) (RT.cons (Rn.same hS) (RT.cons (Rn.x2 rfl rfl) (RT.cons (Rn.same hnT) au22))))⟩
        exact RB.cells rfl rfl gg (RnL.same hnr) (RB.cells rfl rfl gg (RnL.cons (Rn.same (Qab _)) (RnL.cons (Rn.same rfl) (RnL.cons (Rn.same (Qab _)) (RnL.cons (Rn.same (Qao _)) (RnL.cons (Rn.x1 rfl rfl) (RnL.cons (Rn.x1 rfl rfl) (RnL.cons (Rn.x1 rfl rfl) (RnL.cons (Rn.same rfl) RnL.nil)))))))) (RB.cells rfl rfl gg (RnL.same rfl) (RB.cells rfl rfl gg (RnL.same (SU.QaF hnLA hn1)) (RB.cells rfl rfl gg (RnL.same (SU.QaF hnLB rfl)) (RB.cells rfl rfl gg (RnL.same (SU.QaF (Qac _) rfl)) RB.nil)))))
    · have e : i = P.length := by omega
      subst e
      simp(disch:=first|omega|exact PairsOK.mk rfl|(simp only[lenW]<;>omega)) only[hlt,List.take_length,Qaa,Qad,Qae,Qag,Qai,Qaj,wW,wV,simprocAttr]
      refine⟨(),[(52,.blk 52 0),(53,.blk 53 0)],rfl,RO.zero,?_,RT.cons (Rn.x2 rfl rfl) (RT.cons (Rn.x2 rfl rfl) RT.nil)⟩
      exact RB.cells rfl rfl gg (RnL.cons (Rn.same (Qab _)) (RnL.cons (Rn.same rfl) (RnL.cons (Rn.same (Qab _)) (RnL.cons (Rn.same (Qao _)) (RnL.cons (Rn.fzm (b:=60) (g:=0) gg rfl rfl rfl (by simp) (RnL.same (Qam Qab _))) (RnL.cons (Rn.fzm (b:=61) (g:=0) gg rfl rfl rfl (by simp) (RnL.same (Qam (fun _=>rfl) _))) (RnL.cons (Rn.fzm (b:=62) (g:=0) gg rfl rfl (by simp) (by simp[ints]) (RnL.same (Qac _))) (RnL.cons (Rn.same rfl) RnL.nil)))))))) (RB.cells rfl rfl gg (RnL.same rfl) RB.nil)
  rintro _ _
  simp(disch:=first|omega|exact PairsOK.mk rfl|(simp only[lenW]<;>omega)) only[Qaa,Qad,Qae,Qag,Qai,Qaj,wW,wV,simprocAttr]
  exact⟨.inr trivial,_,rfl,Rn.same hns⟩
abbrev nl4:List AV:=[.nilsl,.int .i64 0,.nilsl,.nilsl]
theorem complete19L (h:CelJ ev l) (hb:¬(sync0 (auJ l)).1.length<=4096):PSpec Tryz.prog 19 [celJ ev l] (.tup [.agg nl4,.nilsl,.int .i64 3]):=by
 have hnr:=h.nrs
 refine PSpec.of_rn 64 TS.ok19 rfl (by rw[noRefs,noRef,hnr];rfl) rfl ?_
 have hO:=open70L h hb
 simp(disch:=first|omega|exact PairsOK.mk rfl|(simp only[lenW]<;>omega)) only[TS.s19,Qaa,Qad,Qae,Qag,Qai,Qaj,wW,wV,simprocAttr]
 refine cp hO ?_
 simp(disch:=first|omega|exact PairsOK.mk rfl|(simp only[lenW]<;>omega)) only[Qaa,Qad,Qae,Qag,Qai,Qaj,wW,wV,simprocAttr]
 exact⟨.inr trivial,_,rfl,Rn.same rfl⟩
theorem complete19M (h:CelJ ev l) (hb:(sync0 (auJ l)).1.length=4096):PSpec Tryz.prog 19 [celJ ev l] (.tup [.agg nl4,.nilsl,.int .i64 3]):=by
 have hnr:=h.nrs
 refine PSpec.of_rn 64 TS.ok19 rfl (by rw[noRefs,noRef,hnr];rfl) rfl ?_
 have hO:=open70J h (by omega)
 have hpn:(syncA (auJ l)).n=(sync0 (auJ l)).1.length:=rfl
 rw[stJ]at hO
 generalize syncA (auJ l)=p at*
 generalize (sync0 (auJ l)).1=P at*
 have hq4:(4096:Int)<=(p.n:Int):=by omega
 simp(disch:=first|omega|exact PairsOK.mk rfl|(simp only[lenW]<;>omega)) only[TS.s19,Qaa,Qad,Qae,Qag,Qai,Qaj,wW,wV,simprocAttr]
 refine cp hO ?_
 simp(disch:=first|omega|exact PairsOK.mk rfl|(simp only[lenW]<;>omega)) only[hq4,Qaa,Qad,Qae,Qag,Qai,Qaj,wW,wV,simprocAttr]
 exact⟨.inr trivial,_,rfl,Rn.same rfl⟩
def cpJ (l:List (List UInt8×Aut)):AV:= .tup [.agg [sliN (syncA (auJ l)).al,.int .i64 (((syncA (auJ l)).n:Int)+1),sliN (syncA (auJ l)).ms,egsN (syncA (auJ l)).es],sliN [(sync0 (auJ l)).1.length],.int .i64 0]
theorem Qnv:noRef (cpJ l)=true:=by
 unfold cpJ
 simp only[noRef,noRefs,Qac,Qaf];rfl
theorem complete19J (h : CelJ ev l) (hb : (sync0 (auJ l)).1.length < 4096) : PSpec Tryz.prog 19 [celJ ev l] (cpJ l) := by
  have hnr:=h.nrs
  have hns:=@Qnv l
  refine PSpec.of_rn 64 TS.ok19 rfl (by rw[noRefs,noRef,hnr];rfl) hns ?_
  have h0:=h.c0
  have h8:=h.c8
  have hwf:=h.wf
  have hO:=open70J h (by omega)
  have hwa:=Qkf h.wf (by omega)
  have hPi:=Qeg (fun a ha=>(h.wf a ha).pos) fun a ha=>(h.wf a ha).wf.esn
  have hPin:∀x∈(sync0 (auJ l)).1,InT (auJ l) x:=hPi.inT
  have hkey:=fun t (ht:InT (auJ l) t)=>(h.key ht).2
  have hpn:(syncA (auJ l)).n=(sync0 (auJ l)).1.length:=rfl
  have hsplit:=fun t (ht:t.length=l.length)=>split71J (ev:=ev) t h0 ht
  have hviol:=fun t (ht:InT (auJ l) t)=>violated73J h ht
  have href:=fun k=>refused74J (ev:=ev) (l:=l) k
  have hfor:=fun{k:Nat} (hk:k<(syncA (auJ l)).n) {b m:Nat} H hf=>@refused160J ev l h (by omega) k hk b m H hf
  have hnf:∀k,noRef (rfJ ev l k (.fsl [] 0 1))=true:=fun k=>Qft k _ rfl
  have hst:=QcL (ev:=ev) (l:=l) (syncA (auJ l)) (sync0 (auJ l)).1
  have hal:=QbA hwa.al hwa.al5
  have hms:=QbA hwa.ms hwa.msn
  have hel:=WfA.el1 hwa
  have hcA:=clone41 (syncA (auJ l)).al (by omega)
  have hcM:=clone41 (syncA (auJ l)).ms (by omega)
  have hcE:=clone75 (syncA (auJ l)).es (by omega)
  have hsm:∀e∈(syncA (auJ l)).es,SmE e:=fun e he=>by
    have h1:=hwa.esn e he
    have h2:=hwa.al5 _ (hwa.ev e he)
    exact⟨by omega,by omega,by omega⟩
  have hsrt:=hwa.es
  rw[cpJ]at*
  rw[stJ]at hO hsplit href
  generalize syncA (auJ l)=p at*
  generalize (sync0 (auJ l)).1=P at*
  have hnT:=Qbs P
  have hS:noRef (.fptr (stF ev l p P))=true:=by rw[noRef];exact hst
  have hqi:((p.n:Int)=(P.length:Int)):=by omega
  have hq4:¬(4096:Int)<=(p.n:Int):=by omega
  have hle:=Qfm p.es
  simp(disch:=first|omega|exact PairsOK.mk rfl|(simp only[lenW]<;>omega)) only[TS.s19,Qaa,Qad,Qae,Qag,Qai,Qaj,wW,wV,simprocAttr]
  refine cp hO ?_
  simp(disch:=first|omega|exact PairsOK.mk rfl|(simp only[lenW]<;>omega)) only[hq4,Qaa,Qad,Qae,Qag,Qai,Qaj,wW,wV,simprocAttr]
  refine Qho [] 19 (x:= .f 75) (ag:=[.t 52]) (d:=some 53) rfl rfl rfl ?_
  simp(disch:=first|omega|exact PairsOK.mk rfl|(simp only[lenW]<;>omega)) only[Qaa,Qad,Qae,Qag,Qai,Qaj,wW,wV,simprocAttr]
  refine cp hcA ?_
  simp(disch:=first|omega|exact PairsOK.mk rfl|(simp only[lenW]<;>omega)) only[Qaa,Qad,Qae,Qag,Qai,Qaj,wW,wV,simprocAttr]
  refine cp hcM ?_
  simp(disch:=first|omega|exact PairsOK.mk rfl|(simp only[lenW]<;>omega)) only[Qaa,Qad,Qae,Qag,Qai,Qaj,wW,wV,simprocAttr]
  refine⟨75,p.es.flatMap edC,p.es.length,3,rfl,⟨hcE.1,by show noRefs [egsN p.es]=true;rw[noRefs,Qao];rfl,83,0,0,_,_,rfl,Nat.zero_le _,gg,hcE⟩,Qaf _,by decide,gg,?_⟩
  simp(disch:=first|omega|exact PairsOK.mk rfl|(simp only[lenW]<;>omega)) only[Qaa,Qad,Qae,Qag,Qai,Qaj,wW,wV,simprocAttr]
  refine⟨trivial,?_⟩
  refine QaB 200 (fun i:Nat=>[(2,.ptr 52 0 0),(3,.nilsl),(5,.fptr (stF ev l p P)),(6,.ptr 53 0 0),(58,tuV P),(59,.int .i64 P.length),(60,.int .i64 i)]) (fun i=>[(52,.cells 0 [sliN p.al,.int .i64 ((p.n:Int)+1),sliN p.ms,.sl 60 0 0 p.es.length 3]),(53,.cells 0 [.int .i64 (p.n:Int)]),(60,.cells 0 (p.es.flatMap edC))]) (fun i=>i<=P.length) (fun i=>P.length-i) 0 0 800
    (fun _:Unit=>[(2,.ptr 52 0 0),(3,.nilsl),(6,.ptr 53 0 0)]) (fun _=>[(52,.cells 0 [sliN p.al,.int .i64 ((p.n:Int)+1),sliN p.ms,.sl 60 0 0 p.es.length 3]),(53,.cells 0 [.int .i64 (p.n:Int)]),(60,.cells 0 (p.es.flatMap edC))]) (fun _=>True) ?_ (Nat.zero_le _) ?_ ?_
  · refine ⟨[(52, .blk 65 0), (53, .blk 82 0), (60, .blk 105 0)], rfl, RO.zero, ?_, RT.cons (Rn.x2 rfl rfl) (RT.cons (Rn.same rfl) (RT.cons (Rn.same hS) (RT.cons (Rn.x2 rfl rfl) (RT.cons (Rn.same hnT) au22))))⟩
    exact RB.cells rfl rfl gg (RnL.cons (Rn.same (Qab _)) (RnL.cons (Rn.same rfl) (RnL.cons (Rn.same (Qab _)) (RnL.cons (Rn.x1 rfl rfl) RnL.nil)))) (RB.cells rfl rfl gg (RnL.same rfl) (RB.cells rfl rfl gg (RnL.same (Qaf _)) RB.nil))
  · rintro i hi
    by_cases hlt:i<P.length
    · obtain ⟨t, ht⟩ := Qal hlt
      have hit:=hPin t (List.mem_of_getElem? ht)
      have htl:t.length=l.length:=by rw[hit.1,QcA]
      have hsp:=hsplit t htl
      have hky:=hkey t hit
      have hv:=hviol t hit
      have hmt:=List.mem_of_getElem? ht
      have hk:ixT P t<p.n:=by rw[hpn];exact Qhn hmt
      have hrf:=href (ixT P t)
      have hnfk:=hnf (ixT P t)
      have hnone:∀{x1 x2 x3 x4:Blk},(hp [(52,x1),(60,x4),(53,x2),(54,x3)]).get 150=none:=fun{x1 x2 x3 x4}=>by simp(disch:=omega) only[Qcv,Qhb,Qa1,get_e]
      simp(disch:=first|omega|exact PairsOK.mk rfl|(simp only[lenW]<;>omega)) only[hlt,QhJ ht,Qaa,Qad,Qae,Qag,Qai,Qaj,wW,wV,simprocAttr]
      refine cp hsp ?_
      simp(disch:=first|omega|exact PairsOK.mk rfl|(simp only[lenW]<;>omega)) only[Qaa,Qad,Qae,Qag,Qai,Qaj,wW,wV,simprocAttr]
      refine cp hv ?_
      simp(disch:=first|omega|exact PairsOK.mk rfl|(simp only[lenW]<;>omega)) only[Qaa,Qad,Qae,Qag,Qai,Qaj,wW,wV,simprocAttr]
      refine cp hky ?_
      simp(disch:=first|omega|exact PairsOK.mk rfl|(simp only[lenW]<;>omega)) only[Qaa,Qad,Qae,Qag,Qai,Qaj,wW,wV,simprocAttr]
      refine QdO (c:=keyC) (f:=ixV P) (x:=t) (l:=P) (Qeh hwf hit hPin) hmt ?_
      simp(disch:=first|omega|exact PairsOK.mk rfl|(simp only[lenW]<;>omega)) only[ixV,Qaa,Qad,Qae,Qag,Qai,Qaj,wW,wV,simprocAttr]
      refine cp hrf ?_
      simp(disch:=first|omega|exact PairsOK.mk rfl|(simp only[lenW]<;>omega)) only[Qaa,Qad,Qae,Qag,Qai,Qaj,wW,wV,simprocAttr]
      refine QcB (n':=900) (b:=150) (T':=[(2,.ptr 52 0 0),(3,.nilsl),(5,.fptr (stF ev l p P)),(6,.ptr 53 0 0),(7,.ptr 54 0 0),(58,tuV P),(59,.int .i64 P.length),(60,.int .i64 i),(97,rfJ ev l (ixT P t) (.fsl [] 0 1))]) (L:=[(52,.cells 0 [sliN p.al,.int .i64 ((p.n:Int)+1),sliN p.ms,.sl 60 0 0 p.es.length 3]),(60,.cells 0 (p.es.flatMap edC)),(53,.cells 0 [.int .i64 (p.n:Int)]),(54,.cells 0 [.int .i64 (i:Int)])]) ?_ rfl hnone rfl (hfor (m:=1000) hk _ ?_) gg ?_
      · refine ⟨[(52, .blk 52 0), (60, .blk 60 0), (53, .blk 53 0), (54, .blk 204 0)], rfl, RO.zero, ?_, RT.cons (Rn.x2 rfl rfl) (RT.cons (Rn.same rfl) (RT.cons (Rn.same hS) (RT.cons (Rn.x2 rfl rfl) (RT.cons (Rn.x2 rfl rfl) (RT.cons (Rn.same hnT) (RT.cons (Rn.same rfl) (RT.cons (Rn.same rfl) (RT.cons (Rn.same hnfk) RT.nil))))))))⟩
        exact RB.cells rfl rfl gg (RnL.cons (Rn.same (Qab _)) (RnL.cons (Rn.same rfl) (RnL.cons (Rn.same (Qab _)) (RnL.cons (Rn.x1 rfl rfl) RnL.nil)))) (RB.cells rfl rfl gg (RnL.same (Qaf _)) (RB.cells rfl rfl gg (RnL.same rfl) (RB.cells rfl rfl gg (RnL.same rfl) RB.nil)))
      · exact(by repeat (first|exact Fresh.e|exact Fresh.le (by assumption) (by omega)|refine Fresh.set ?_ (by omega) (by omega)))
      · unfold leftQ
        simp(disch:=first|omega|exact PairsOK.mk rfl|(simp only[lenW]<;>omega)) only[Qaa,Qad,Qae,Qag,Qai,Qaj,wW,wV,simprocAttr]
        refine⟨i+1,by omega,by omega,?_⟩
        refine⟨[(52,.blk 52 0),(53,.blk 53 0),(60,.blk 60 0)],rfl,RO.zero,?_,RT.cons (Rn.x2 rfl rfl) (RT.cons (Rn.same rfl) (RT.cons (Rn.same hS) (RT.cons (Rn.x2 rfl rfl) (RT.cons (Rn.same hnT) au22))))⟩
        exact RB.cells rfl rfl gg (RnL.cons (Rn.same (Qab _)) (RnL.cons (Rn.same rfl) (RnL.cons (Rn.same (Qab _)) (RnL.cons (Rn.x1 rfl rfl) RnL.nil)))) (RB.cells rfl rfl gg (RnL.same rfl) (RB.cells rfl rfl gg (RnL.same (Qaf _)) RB.nil))
    · have e : i = P.length := by omega
      subst e
      simp(disch:=first|omega|exact PairsOK.mk rfl|(simp only[lenW]<;>omega)) only[hlt,Qaa,Qad,Qae,Qag,Qai,Qaj,wW,wV,simprocAttr]
      refine⟨(),[(52,.blk 52 0),(53,.blk 53 0),(60,.blk 60 0)],rfl,RO.zero,?_,RT.cons (Rn.x2 rfl rfl) (RT.cons (Rn.same rfl) (RT.cons (Rn.x2 rfl rfl) RT.nil))⟩
      exact RB.cells rfl rfl gg (RnL.cons (Rn.same (Qab _)) (RnL.cons (Rn.same rfl) (RnL.cons (Rn.same (Qab _)) (RnL.cons (Rn.x1 rfl rfl) RnL.nil)))) (RB.cells rfl rfl gg (RnL.same rfl) (RB.cells rfl rfl gg (RnL.same (Qaf _)) RB.nil))
  rintro _ _
  simp(disch:=first|omega|exact PairsOK.mk rfl|(simp only[lenW]<;>omega)) only[Qaa,Qad,Qae,Qag,Qai,Qaj,wW,wV,simprocAttr]
  refine ch (sort76 (l:=p.es) (M:=p.es) (b:=60) (γ:=0) hsm (by omega) (List.Perm.refl _) hsrt gg (by omega)) ?_
  have e2:sliN [P.length]= .fsl [.int .i64 (P.length:Int)] 1 1:=rfl
  rw[e2]
  simp(disch:=first|omega|exact PairsOK.mk rfl|(simp only[lenW]<;>omega)) only[hqi,Qaa,Qad,Qae,Qag,Qai,Qaj,wW,wV,simprocAttr]
  refine Eq.mpr (QkH (len:=0)) ?_
  simp(disch:=first|omega|exact PairsOK.mk rfl|(simp only[lenW]<;>omega)) only[Qaa,Qad,Qae,Qag,Qai,Qaj,wW,wV,simprocAttr]
  refine⟨_,rfl,rfl,.inr trivial,_,rfl,?_⟩
  exact Rn.tup (RnL.cons (Rn.agg (RnL.cons (Rn.same (Qab _)) (RnL.cons (Rn.same rfl) (RnL.cons (Rn.same (Qab _)) (RnL.cons (Rn.fz0 (b:=60) (g:=0) gg hle (RnL.same (Qaf _))) RnL.nil))))) (RnL.cons (Rn.fz0 (b:=807) (g:=0) gg (by simp) (RnL.same rfl)) (RnL.cons (Rn.same rfl) RnL.nil)))
end Go.AM.SO
namespace Go.AM.SO
open Go.Proofs Go.AM.SD Go.AM.SE
def Chain (l:List Aut):Prop:=∀(i:Nat) (a:Aut),l[i]?=some a->∀k:Nat,k+1<a.n->∃e∈evA l,e∈a.al/\stepA a.es k e=some (k+1)/\∀(j:Nat) (b:Aut),j≠i->l[j]?=some b->e∉b.al
theorem Qnw {l:List Aut} {t:List Nat} {e i to:Nat} {a:Aut} (hl:t.length=l.length) (ha:l[i]?=some a) (he:e∈a.al) (hs:stepA a.es (t.getD i 0) e=some to) (ho:∀(j:Nat) (b:Aut),j≠i->l[j]?=some b->e∉b.al):
  stepT l t e=some (t.set i to):=by
 have hi:i<l.length:=(List.getElem?_eq_some_iff.1 ha).1
 rw[Qhi (by omega)]
 refine⟨by simp,fun j hj=>?_,fun j b hj hb=>?_⟩
 ·rw[List.getElem?_set_ne (by omega)]
 ·by_cases e1 : j = i
  ·subst e1
   rw[ha]at hb;cases hb
   rw[if_pos he,hs,List.getElem?_set_self (by omega)]
  ·rw[if_neg (ho j b e1 hb),List.getElem?_set_ne (Ne.symm e1)]
theorem Qkg:∀{t:List Nat} {i x:Nat},t[i]?=some (x+1)->(t.set i x).sum+1=t.sum
 |[],i,x,h=>by simp at h
 |y::t,0,x,h=>by
  simp only[List.getElem?_cons_zero,Option.some.injEq]at h
  subst h
  simp only[List.set_cons_zero,List.sum_cons];omega
 |y::t,i+1,x,h=>by
  simp only[List.getElem?_cons_succ]at h
  have:=Qkg h
  simp only[List.set_cons_succ,List.sum_cons];omega
theorem QlG:∀{t:List Nat},0<t.sum->∃(i x:Nat),t[i]?=some (x+1)
 |[],h=>by simp at h
 | y :: t, h => by
  cases y with
  |succ y=>exact⟨0,y,rfl⟩
  |zero=>
   simp only[List.sum_cons,Nat.zero_add]at h
   obtain⟨i,x,hx⟩:=QlG h
   exact⟨i+1,x,by simpa using hx⟩
theorem Qkh:∀{t:List Nat},t.sum=0->t=List.replicate t.length 0
 |[],_=>rfl
 |y::t,h=>by
  simp only[List.sum_cons]at h
  have h1:y=0:=by omega
  subst h1
  rw[List.length_cons,List.replicate_succ,<-Qkh (t:=t) (by omega)]
theorem Qnx {l:List Aut} (h0:∀a∈l,0<a.n) (hw:∀a∈l,∀e∈a.es,e.1<a.n/\e.2.2<a.n) (hc:Chain l):∀(s:Nat) {t:List Nat},InT l t->t.sum=s->t∈(sync0 l).1
 |0,t,ht,hs=>by
  rw[Qkh hs,ht.1]
  exact(Qn9 (l:=l)).subset (by simp)
 | s + 1, t, ht, hs => by
  obtain⟨i,x,hx⟩:=QlG (t:=t) (by omega)
  have hit:i<t.length:=(List.getElem?_eq_some_iff.1 hx).1
  obtain⟨a,ha⟩:=Qal (l:=l) (i:=i) (by rw[<-ht.1];exact hit)
  have hxa:=ht.2 i a ha
  rw[List.getD_eq_getElem?_getD,hx]at hxa
  have hxa:x+1<a.n:=hxa
  have hss:=Qkg hx
  have hin:InT l (t.set i x):=by
   refine⟨by rw[List.length_set];exact ht.1,fun j b hb=>?_⟩
   by_cases e1:j=i
   ·subst e1
    rw[ha]at hb;cases hb
    rw[List.getD_eq_getElem?_getD,List.getElem?_set_self hit]
    show x<a.n
    omega
   ·rw [List.getD_eq_getElem?_getD, List.getElem?_set_ne (Ne.symm e1), <- List.getD_eq_getElem?_getD]
    exact ht.2 j b hb
  have hm:=Qnx h0 hw hc s hin (by omega)
  obtain⟨e,he,hea,hst,ho⟩:=hc i a ha x hxa
  obtain⟨j,hj⟩:=List.getElem?_of_mem hm
  have hstep:stepT l (t.set i x) e=some t:=by
   rw[Qnw (to:=x+1) hin.1 ha hea (by rw[List.getD_eq_getElem?_getD,List.getElem?_set_self hit];exact hst) ho,List.set_set]
   congr 1
   refine List.ext_getElem? fun k=>?_
   by_cases e1:k=i
   ·subst e1;rw[List.getElem?_set_self hit,hx]
   ·rw[List.getElem?_set_ne (Ne.symm e1)]
  exact(QiE h0 hw).cl j _ (List.getElem?_eq_some_iff.1 hj).1 hj e he t hstep
theorem QlH:∀{l:List Aut} {t:List Nat},t∈allT l->InT l t
 |[],t,h=>by
  simp only[allT,List.mem_singleton]at h
  subst h
  exact⟨rfl,fun i a ha=>by simp at ha⟩
 |a::l,t,h=>by
  simp only[allT,List.mem_flatMap,List.mem_range,List.mem_map]at h
  obtain⟨x,hx,u,hu,rfl⟩:=h
  obtain⟨h1,h2⟩:=QlH hu
  refine⟨by simp[h1],fun i b hb=>?_⟩
  cases i with
  |zero=>simp only[List.getElem?_cons_zero,Option.some.injEq]at hb;subst hb;simpa using hx
  |succ i=>simpa using h2 i b (by simpa using hb)
theorem QlI:∀{l:List Aut},(allT l).Nodup
 |[]=>by simp[allT]
 | a :: l => by
  have ih:=QlI (l:=l)
  unfold allT
  rw[List.nodup_iff_pairwise_ne,List.pairwise_flatMap]
  refine⟨fun x _=>?_,?_⟩
  ·rw [List.pairwise_map]
   rw[List.nodup_iff_pairwise_ne]at ih
   exact ih.imp fun h e=>h (List.cons.inj e).2
  ·refine List.pairwise_lt_range.imp fun hxy u hu v hv e => ?_
   obtain⟨u',_,rfl⟩:=List.mem_map.1 hu
   obtain⟨v',_,rfl⟩:=List.mem_map.1 hv
   have:=(List.cons.inj e).1
   omega
theorem Qoh {l:List Aut} (h0:∀a∈l,0<a.n) (hw:∀a∈l,∀e∈a.es,e.1<a.n/\e.2.2<a.n) (hc:Chain l):(sync0 l).1.length=box l:=by
 refine Nat.le_antisymm (Qn6 h0 hw) ?_
 rw[<-QgC]
 exact Qfn QlI fun t ht=>Qnx h0 hw hc _ (QlH ht) rfl
end Go.AM.SO
namespace Go.AM.SO
open Go.Proofs Go.AM.SD Go.AM.SE
def grB (n:Int):Bool:=decide (n< -65536\/65536<n)
theorem great190X (n:Int):PSpec Tryz.prog 190 [.int .i64 n] (.bool (grB n)):=by
  refine PSpec.Qau 64 ok190 rfl rfl rfl ?_
  unfold grB
  by_cases g1:n< -65536
  · simp (disch := first | omega | exact PairsOK.mk rfl | (simp only [lenW] <;> omega)) only [s190, g1, wW, wV, simprocAttr]
    exact⟨.inr trivial,_,rfl,by simp[g1,resOf,QaD]⟩
  · by_cases g2 : 65536 < n
    · simp (disch := first | omega | exact PairsOK.mk rfl | (simp only [lenW] <;> omega)) only [s190, g1, g2, wW, wV, simprocAttr]
      exact⟨.inr trivial,_,rfl,by simp[g1,g2,resOf,QaD]⟩
    · simp (disch := first | omega | exact PairsOK.mk rfl | (simp only [lenW] <;> omega)) only [s190, g1, g2, wW, wV, simprocAttr]
      exact⟨.inr trivial,_,rfl,by simp[g1,g2,resOf,QaD]⟩
def exEr (S:List Int) (l:List (Int×Int)) (i:Nat):Int:=
 let x:=l.getD i (0,0)
 let y:=l.getD (i-1) (0,0)
 if x.1<0\/(S.length:Int)<=x.1 then 2 else if 0<i/\x.1<=y.1 then 5 else if x.2<0\/S.getD x.1.toNat 0<=x.2 then 2 else 0
theorem Qo0 {S:List Int} {l:List (Int×Int)} {i:Nat} {x:Int×Int} (h:l[i]?=some x):exEr S l i=if x.1<0\/(S.length:Int)<=x.1 then 2 else if 0<i/\x.1<=(l.getD (i-1) (0,0)).1 then 5 else if x.2<0\/S.getD x.1.toNat 0<=x.2 then 2 else 0:=by unfold exEr;rw[QaY h]
def exErr (S:List Int) (l:List (Int×Int)):Int:=if l.length=0 then 12 else fe (exEr S l) l.length
theorem Qcn {S:List Int} {l:List (Int×Int)} (hl0:l.length≠0) (e:Int) (h:fe (exEr S l) l.length=e) (_:e≠0):exErr S l=e:=(if_neg hl0).trans h
theorem _root_.Go.AM.au24 {p:Prop} (h:p:=by repeat (first|exact RT.nil|(refine RT.cons ?_ ?_; · (first|exact Rn.any|exact Rn.x1 rfl rfl|exact Rn.x2 rfl rfl|exact Rn.x3 rfl rfl|exact Rn.x4 rfl rfl|exact Rn.x5 rfl|exact Rn.x6 rfl|exact Rn.x7 rfl|(refine Rn.slot ?_ ?_;(first|rfl|(rw[Int.natCast_add];rfl));(first|rfl|(simp only[noRef,noRefs,Qak,Bool.and_self,Bool.and_true,Bool.true_and,Qac,Qaq,Qab,Qd1];done)))|(refine Rn.fn ?_ ?_<;>(repeat' (first|exact RnL.nil|refine RnL.cons ?_ ?_|exact Rn.same rfl|exact Rn.x6 rfl|exact Rn.x2 rfl rfl|exact Rn.x5 rfl|exact Rn.x1 rfl rfl))))))):p:=h
theorem excl103X (S : List Int) (xs : List Exn) (ks : List Con) (x : Exn) (hl : x.2.length <= 8796093021952) :
    PSpec Tryz.prog 103 [cdZ S xs ks,.agg (exZ x)] (.int .i64 (exErr S x.2)):=by
  obtain⟨nm,l⟩:=x
  dsimp only at hl
  have hex:exZ (nm,l)=[.str nm,prs l]:=rfl
  rw[hex]
  have hnr1:=@QcK S xs ks
  have hnr2:noRefs [.str nm,prs l]=true:=by rw[noRefs,noRefs,Qbo];rfl
  refine PSpec.Qau 64 ok103 rfl (by rw[noRefs,noRefs,noRef,noRef,hnr1,hnr2];rfl) rfl ?_
  have hll:=Qde l
  by_cases hz:l.length=0
  · have hl0 : (l.length : Int) = 0 := by omega
    simp(disch:=first|omega|exact PairsOK.mk rfl|(simp only[lenW]<;>omega)) only[s103,hl0,wW,wV,simprocAttr]
    exact⟨.inr trivial,_,rfl,by rw[exErr,if_pos hz];rfl⟩
  have hl0:=hz
  have hl1:¬(l.length:Int)=0:=by omega
  simp(disch:=first|omega|exact PairsOK.mk rfl|(simp only[lenW]<;>omega)) only[s103,hl1,wW,wV,simprocAttr]
  refine Qba 100 (fun i:Nat=>[(2,.ptr 50 0 0),(3,.ptr 51 0 0),(12,prs l),(13,.int .i64 l.length),(14,.int .i64 i)]) (fun _=>[(50,.cells 0 (cdK S xs ks)),(51,.cells 0 [.str nm,prs l])]) (fun i=>i<=l.length/\∀j,j<i->exEr S l j=0) (fun i=>l.length-i) 0 ?_ ⟨Nat.zero_le _,fun j hj=>absurd hj (Nat.not_lt_zero _)⟩ ?_
  · refine ⟨[(50, .blk 64 0), (51, .blk 65 0)], rfl, au0, ?_, au24⟩
    exact RB.cells rfl rfl gg (RnL.same hnr1) (RB.cells rfl rfl gg (RnL.same hnr2) RB.nil)
  rintro i ⟨hi,hb⟩
  by_cases hlt:i<l.length
  · obtain ⟨x, hx⟩ := Qal hlt
    have hdr:=QfC hx
    have hdl:2<=((l.flatMap prZ).drop (i*2)).length:=by rw[hdr];simp
    have at0:∀e:Int,exEr S l i=e->e≠0->fe (exEr S l) l.length=e:=fun e h h0=>fe_at h h0 hb hlt
    have up:exEr S l i=0->∀j,j<i+1->exEr S l j=0:=fe_up hb
    have ke:=Qo0 (S:=S) hx
    rw[ke]at at0 up
    clear ke
    obtain⟨c,s⟩:=x
    dsimp only at*
    by_cases h1:c<0
    · simp (disch := first | omega | exact PairsOK.mk rfl | (simp only [lenW] <;> omega)) only [hlt, hdr, hdl, h1, wW, wV, simprocAttr]
      exact⟨.inr trivial,_,rfl,by rw[Qcn hl0 2 (at0 2 (by rw[if_pos (.inl h1)]) (by decide)) (by decide)];rfl⟩
    by_cases h2:(S.length:Int)<=c
    · simp (disch := first | omega | exact PairsOK.mk rfl | (simp only [lenW] <;> omega)) only [hlt, hdr, hdl, h1, h2, wW, wV, simprocAttr]
      exact⟨.inr trivial,_,rfl,by rw[Qcn hl0 2 (at0 2 (by rw[if_pos (.inr h2)]) (by decide)) (by decide)];rfl⟩
    have h12:¬(c<0\/(S.length:Int)<=c):=by omega
    rw[if_neg h12]at at0 up
    obtain⟨k,rfl⟩:∃k:Nat,c=k:=⟨c.toNat,by omega⟩
    have hks:k<S.length:=by omega
    obtain⟨z,hz⟩:=Qal hks
    have hgz:S.getD k 0=z:=QaY hz
    try simp only[Int.toNat_natCast,hgz]at at0 up
    have hh2:¬(S.length:Int)<=(k:Int):=by omega
    by_cases h0:i=0
    · have h4 : ¬ (0 : Int) < (i : Int) := by omega
      rw[if_neg (by omega)]at at0 up
      by_cases q1:s<0
      · simp (disch := first | omega | exact PairsOK.mk rfl | (simp only [lenW] <;> omega)) only [hlt, hdr, hdl, h1, hh2, h4, q1, wW, wV, simprocAttr]
        exact⟨.inr trivial,_,rfl,by rw[Qcn hl0 2 (at0 2 (by rw[if_pos (.inl q1)]) (by decide)) (by decide)];rfl⟩
      by_cases q2:z<=s
      · simp (disch := first | omega | exact PairsOK.mk rfl | (simp only [lenW] <;> omega)) only [hlt, hdr, hdl, h1, hh2, h4, q1, q2, QaP hz, hks, wW, wV, simprocAttr]
        exact⟨.inr trivial,_,rfl,by rw[Qcn hl0 2 (at0 2 (by rw[if_pos (.inr q2)]) (by decide)) (by decide)];rfl⟩
      simp(disch:=first|omega|exact PairsOK.mk rfl|(simp only[lenW]<;>omega)) only[hlt,hdr,hdl,h1,hh2,h4,q1,q2,QaP hz,hks,wW,wV,simprocAttr]
      refine⟨i+1,by omega,⟨by omega,up (by rw[if_neg (by omega)])⟩,?_⟩
      refine⟨[(50,.blk 50 0),(51,.blk 51 0)],rfl,au0,?_,au24⟩
      exact RB.cells rfl rfl gg (RnL.same hnr1) (RB.cells rfl rfl gg (RnL.same hnr2) RB.nil)
    · obtain ⟨y, hy⟩ := Qal (l := l) (i := i - 1) (by omega)
      have hdr':=QfC hy
      have hgy:l.getD (i-1) (0,0)=y:=QaY hy
      have h4:(0:Int)<(i:Int):=by omega
      have h5:(i:Int)-1=((i-1:Nat):Int):=by omega
      have h6:((i-1:Nat):Int)<l.length:=by omega
      have h7:i-1<l.length:=by omega
      rw[hgy]at at0 up
      by_cases h3:(k:Int)<=y.1
      · simp (disch := first | omega | exact PairsOK.mk rfl | (simp only [lenW] <;> omega)) only [hlt, hdr, hdl, h1, hh2, h4, h5, h6, h7, hdr', h3, wW, wV, simprocAttr]
        exact⟨.inr trivial,_,rfl,by rw[Qcn hl0 5 (at0 5 (by rw[if_pos ⟨by omega,h3⟩]) (by decide)) (by decide)];rfl⟩
      rw[if_neg (by omega)]at at0 up
      by_cases q1:s<0
      · simp (disch := first | omega | exact PairsOK.mk rfl | (simp only [lenW] <;> omega)) only [hlt, hdr, hdl, h1, hh2, h4, h5, h6, h7, hdr', h3, q1, wW, wV, simprocAttr]
        exact⟨.inr trivial,_,rfl,by rw[Qcn hl0 2 (at0 2 (by rw[if_pos (.inl q1)]) (by decide)) (by decide)];rfl⟩
      by_cases q2:z<=s
      · simp (disch := first | omega | exact PairsOK.mk rfl | (simp only [lenW] <;> omega)) only [hlt, hdr, hdl, h1, hh2, h4, h5, h6, h7, hdr', h3, q1, q2, QaP hz, hks, wW, wV, simprocAttr]
        exact⟨.inr trivial,_,rfl,by rw[Qcn hl0 2 (at0 2 (by rw[if_pos (.inr q2)]) (by decide)) (by decide)];rfl⟩
      simp(disch:=first|omega|exact PairsOK.mk rfl|(simp only[lenW]<;>omega)) only[hlt,hdr,hdl,h1,hh2,h4,h5,h6,h7,hdr',h3,q1,q2,QaP hz,hks,wW,wV,simprocAttr]
      refine⟨i+1,by omega,⟨by omega,up (by rw[if_neg (by omega)])⟩,?_⟩
      refine⟨[(50,.blk 50 0),(51,.blk 51 0)],rfl,au0,?_,au24⟩
      exact RB.cells rfl rfl gg (RnL.same hnr1) (RB.cells rfl rfl gg (RnL.same hnr2) RB.nil)
  · simp (disch := first | omega | exact PairsOK.mk rfl | (simp only [lenW] <;> omega)) only [hlt, wW, wV, simprocAttr]
    exact⟨.inr trivial,_,rfl,by rw[exErr,if_neg hl0,QbH fun j hj=>hb j (by omega)];rfl⟩
def coEr (S:List Int) (l:List (Int×Int)) (i:Nat):Int:=
 let x:=l.getD i (0,0)
 let y:=l.getD (i-1) (0,0)
 if x.1<0\/(S.length:Int)<=x.1 then 2 else if 0<i/\x.1<=y.1 then 5 else if x.2=0\/grB x.2=true then 2 else 0
theorem Qo1 {S:List Int} {l:List (Int×Int)} {i:Nat} {x:Int×Int} (h:l[i]?=some x):coEr S l i=if x.1<0\/(S.length:Int)<=x.1 then 2 else if 0<i/\x.1<=(l.getD (i-1) (0,0)).1 then 5 else if x.2=0\/grB x.2=true then 2 else 0:=by unfold coEr;rw[QaY h]
def coErr (S:List Int) (l:List (Int×Int)) (bd:Int):Int:=if l.length=0 then 12 else if fe (coEr S l) l.length≠0 then fe (coEr S l) l.length else if grB bd=true then 2 else 0
theorem Qco {S:List Int} {l:List (Int×Int)} {bd:Int} (hl0:l.length≠0) (e:Int) (h:fe (coEr S l) l.length=e) (he:e≠0):coErr S l bd=e:=(if_neg hl0).trans ((if_pos (by rw[h];exact he)).trans h)
theorem cons105X (S : List Int) (xs : List Exn) (ks : List Con) (x : Con) (hl : x.2.1.length <= 8796093021952) :
    PSpec Tryz.prog 105 [cdZ S xs ks,.agg (coZ x)] (.int .i64 (coErr S x.2.1 x.2.2)):=by
  obtain⟨nm,l,bd⟩:=x
  dsimp only at hl
  have hex:coZ (nm,l,bd)=[.str nm,prs l,.int .i64 bd]:=rfl
  rw[hex]
  have hnr1:=@QcK S xs ks
  have hnr2:noRefs [.str nm,prs l,.int .i64 bd]=true:=by rw[noRefs,noRefs,Qbo];rfl
  refine PSpec.Qau 64 ok105 rfl (by rw[noRefs,noRefs,noRef,noRef,hnr1,hnr2];rfl) rfl ?_
  have hll:=Qde l
  by_cases hz:l.length=0
  · have hl0 : (l.length : Int) = 0 := by omega
    simp(disch:=first|omega|exact PairsOK.mk rfl|(simp only[lenW]<;>omega)) only[s105,hl0,wW,wV,simprocAttr]
    exact⟨.inr trivial,_,rfl,by rw[coErr,if_pos hz];rfl⟩
  have hl0:=hz
  have hl1:¬(l.length:Int)=0:=by omega
  simp(disch:=first|omega|exact PairsOK.mk rfl|(simp only[lenW]<;>omega)) only[s105,hl1,wW,wV,simprocAttr]
  refine Qba 100 (fun i:Nat=>[(2,.ptr 50 0 0),(3,.ptr 51 0 0),(12,prs l),(13,.int .i64 l.length),(14,.int .i64 i)]) (fun _=>[(50,.cells 0 (cdK S xs ks)),(51,.cells 0 [.str nm,prs l,.int .i64 bd])]) (fun i=>i<=l.length/\∀j,j<i->coEr S l j=0) (fun i=>l.length-i) 0 ?_ ⟨Nat.zero_le _,fun j hj=>absurd hj (Nat.not_lt_zero _)⟩ ?_
  · refine ⟨[(50, .blk 64 0), (51, .blk 65 0)], rfl, au0, ?_, au24⟩
    exact RB.cells rfl rfl gg (RnL.same hnr1) (RB.cells rfl rfl gg (RnL.same hnr2) RB.nil)
  rintro i ⟨hi,hb⟩
  by_cases hlt:i<l.length
  · obtain ⟨x, hx⟩ := Qal hlt
    have hdr:=QfC hx
    have hdl:2<=((l.flatMap prZ).drop (i*2)).length:=by rw[hdr];simp
    have at0:∀e:Int,coEr S l i=e->e≠0->fe (coEr S l) l.length=e:=fun e h h0=>fe_at h h0 hb hlt
    have up:coEr S l i=0->∀j,j<i+1->coEr S l j=0:=fe_up hb
    have ke:=Qo1 (S:=S) hx
    rw[ke]at at0 up
    clear ke
    obtain⟨c,s⟩:=x
    dsimp only at*
    by_cases h1:c<0
    · simp (disch := first | omega | exact PairsOK.mk rfl | (simp only [lenW] <;> omega)) only [hlt, hdr, hdl, h1, wW, wV, simprocAttr]
      exact⟨.inr trivial,_,rfl,by rw[Qco hl0 2 (at0 2 (by rw[if_pos (.inl h1)]) (by decide)) (by decide)];rfl⟩
    by_cases h2:(S.length:Int)<=c
    · simp (disch := first | omega | exact PairsOK.mk rfl | (simp only [lenW] <;> omega)) only [hlt, hdr, hdl, h1, h2, wW, wV, simprocAttr]
      exact⟨.inr trivial,_,rfl,by rw[Qco hl0 2 (at0 2 (by rw[if_pos (.inr h2)]) (by decide)) (by decide)];rfl⟩
    have h12:¬(c<0\/(S.length:Int)<=c):=by omega
    rw[if_neg h12]at at0 up
    obtain⟨k,rfl⟩:∃k:Nat,c=k:=⟨c.toNat,by omega⟩
    have hks:k<S.length:=by omega
    obtain⟨z,hz⟩:=Qal hks
    have hgz:S.getD k 0=z:=QaY hz
    try simp only[Int.toNat_natCast,hgz]at at0 up
    have hh2:¬(S.length:Int)<=(k:Int):=by omega
    by_cases h0:i=0
    · have h4 : ¬ (0 : Int) < (i : Int) := by omega
      rw[if_neg (by omega)]at at0 up
      by_cases q1:s=0
      · subst q1
        simp(disch:=first|omega|exact PairsOK.mk rfl|(simp only[lenW]<;>omega)) only[hlt,hdr,hdl,h1,hh2,h4,wW,wV,simprocAttr]
        exact⟨.inr trivial,_,rfl,by rw[Qco hl0 2 (at0 2 (by rw[if_pos (.inl rfl)]) (by decide)) (by decide)];rfl⟩
      have hg:=great190X s
      cases q2:grB s with
      | true =>
        rw[q2]at hg
        simp(disch:=first|omega|exact PairsOK.mk rfl|(simp only[lenW]<;>omega)) only[hlt,hdr,hdl,h1,hh2,h4,q1,wW,wV,simprocAttr]
        refine cp hg ?_
        simp(disch:=first|omega|exact PairsOK.mk rfl|(simp only[lenW]<;>omega)) only[wW,wV,simprocAttr]
        exact⟨.inr trivial,_,rfl,by rw[Qco hl0 2 (at0 2 (by rw[if_pos (.inr q2)]) (by decide)) (by decide)];rfl⟩
      | false =>
        rw[q2]at hg
        simp(disch:=first|omega|exact PairsOK.mk rfl|(simp only[lenW]<;>omega)) only[hlt,hdr,hdl,h1,hh2,h4,q1,wW,wV,simprocAttr]
        refine cp hg ?_
        simp(disch:=first|omega|exact PairsOK.mk rfl|(simp only[lenW]<;>omega)) only[wW,wV,simprocAttr]
        refine⟨i+1,by omega,⟨by omega,up (by rw[if_neg (fun h=>h.elim q1 fun h=>by rw[q2]at h;cases h)])⟩,?_⟩
        refine⟨[(50,.blk 50 0),(51,.blk 51 0)],rfl,au0,?_,au24⟩
        exact RB.cells rfl rfl gg (RnL.same hnr1) (RB.cells rfl rfl gg (RnL.same hnr2) RB.nil)
    · obtain ⟨y, hy⟩ := Qal (l := l) (i := i - 1) (by omega)
      have hdr':=QfC hy
      have hgy:l.getD (i-1) (0,0)=y:=QaY hy
      have h4:(0:Int)<(i:Int):=by omega
      have h5:(i:Int)-1=((i-1:Nat):Int):=by omega
      have h6:((i-1:Nat):Int)<l.length:=by omega
      have h7:i-1<l.length:=by omega
      rw[hgy]at at0 up
      by_cases h3:(k:Int)<=y.1
      · simp (disch := first | omega | exact PairsOK.mk rfl | (simp only [lenW] <;> omega)) only [hlt, hdr, hdl, h1, hh2, h4, h5, h6, h7, hdr', h3, wW, wV, simprocAttr]
        exact⟨.inr trivial,_,rfl,by rw[Qco hl0 5 (at0 5 (by rw[if_pos ⟨by omega,h3⟩]) (by decide)) (by decide)];rfl⟩
      rw[if_neg (by omega)]at at0 up
      by_cases q1:s=0
      · subst q1
        simp(disch:=first|omega|exact PairsOK.mk rfl|(simp only[lenW]<;>omega)) only[hlt,hdr,hdl,h1,hh2,h4,h5,h6,h7,hdr',h3,wW,wV,simprocAttr]
        exact⟨.inr trivial,_,rfl,by rw[Qco hl0 2 (at0 2 (by rw[if_pos (.inl rfl)]) (by decide)) (by decide)];rfl⟩
      have hg:=great190X s
      cases q2:grB s with
      | true =>
        rw[q2]at hg
        simp(disch:=first|omega|exact PairsOK.mk rfl|(simp only[lenW]<;>omega)) only[hlt,hdr,hdl,h1,hh2,h4,h5,h6,h7,hdr',h3,q1,wW,wV,simprocAttr]
        refine cp hg ?_
        simp(disch:=first|omega|exact PairsOK.mk rfl|(simp only[lenW]<;>omega)) only[wW,wV,simprocAttr]
        exact⟨.inr trivial,_,rfl,by rw[Qco hl0 2 (at0 2 (by rw[if_pos (.inr q2)]) (by decide)) (by decide)];rfl⟩
      | false =>
        rw[q2]at hg
        simp(disch:=first|omega|exact PairsOK.mk rfl|(simp only[lenW]<;>omega)) only[hlt,hdr,hdl,h1,hh2,h4,h5,h6,h7,hdr',h3,q1,wW,wV,simprocAttr]
        refine cp hg ?_
        simp(disch:=first|omega|exact PairsOK.mk rfl|(simp only[lenW]<;>omega)) only[wW,wV,simprocAttr]
        refine⟨i+1,by omega,⟨by omega,up (by rw[if_neg (fun h=>h.elim q1 fun h=>by rw[q2]at h;cases h)])⟩,?_⟩
        refine⟨[(50,.blk 50 0),(51,.blk 51 0)],rfl,au0,?_,au24⟩
        exact RB.cells rfl rfl gg (RnL.same hnr1) (RB.cells rfl rfl gg (RnL.same hnr2) RB.nil)
  · have hz := QbH (f := coEr S l) (n := l.length) fun j hj => hb j (by omega)
    have hg:=great190X bd
    cases q2:grB bd with
    | true =>
      rw[q2]at hg
      simp(disch:=first|omega|exact PairsOK.mk rfl|(simp only[lenW]<;>omega)) only[hlt,wW,wV,simprocAttr]
      refine cp hg ?_
      simp(disch:=first|omega|exact PairsOK.mk rfl|(simp only[lenW]<;>omega)) only[wW,wV,simprocAttr]
      exact⟨.inr trivial,_,rfl,by rw[coErr,if_neg hl0,if_neg (fun h=>h hz),if_pos q2];rfl⟩
    | false =>
      rw[q2]at hg
      simp(disch:=first|omega|exact PairsOK.mk rfl|(simp only[lenW]<;>omega)) only[hlt,wW,wV,simprocAttr]
      refine cp hg ?_
      simp(disch:=first|omega|exact PairsOK.mk rfl|(simp only[lenW]<;>omega)) only[wW,wV,simprocAttr]
      exact⟨.inr trivial,_,rfl,by rw[coErr,if_neg hl0,if_neg (fun h=>h hz),if_neg (by rw[q2];decide)];rfl⟩
end Go.AM.SO
namespace Go.AM
theorem Rn.yldB {m b g:Nat} {π:Nat->Option Src} {h:Heap} (hm:Nat.ble (b+1) m=true):Rn m π h (.yld b g) (.yld b g):=fun _ c w v _ _ hv=>by
 have e:(nctx m π h c).ρ b g=c.ρ b g:=QbJ (Nat.le_of_ble_eq_true hm)
 simp only[VRel]at hv⊢
 rw[e];exact hv
theorem RB.loopB {m b g N:Nat} {π:Nat->Option Src} {h:Heap} {T:Tmps} {ps:List Nat} {asg body:LCode} {st:LSt} {r:HL} (hm:Nat.blt b m=true) (hg:h.get b=some (.loop g N T ps asg body st)) (hT:RT m π h T T) (hr:RB m π h r):RB m π h ((b,.loop g N T ps asg body st)::r):=
 ⟨.inl ⟨by simpa using hm,T,hg,hT⟩,hr⟩
end Go.AM
namespace Go.AM.SO
open Go.Proofs Go.AM.SD Go.AM.SE
abbrev nlA:SCode:=(.region [Zm 5 10 []] [] [9,10])
abbrev nlB:SCode:=(.block 1 (.seq (.region [Zm 11 5 [],
 Zl 12 2 [],
 Zb 13 .eql 11 12 [0,1]] [] [2,5,11,12])
 (.cond (.t 13)
 (.seq (.region [Zy (.store 1 (.t 4) (.c (.int .i64 8))) []] [] [13])
 .ret)
 .skip)))
abbrev nlT (f:Nat) (cap:List AV):Tmps:=[(2,.ptr 64 0 0),(4,.ptr 65 0 0),(9,.fn f [] cap)]
abbrev nlP (f:Nat) (cap:List AV) (st:LSt):Blk:= .loop 0 14 (nlT f cap) [10] (.s nlA) (.s nlB) st
abbrev nlH (s:List UInt8) (e:Int) (f:Nat) (cap:List AV) (st:LSt):HL:=[(150,nlP f cap st),(64,.cells 0 [.str s]),(65,.cells 0 [.int .i64 e])]
theorem QiL {a b:List UInt8}:aBin .eql (.str a) (.str b)=some (.bool (decide (a=b))):=rfl
theorem set2h {h:Heap} {k j:Nat} {a b:Blk} (hk:Nat.blt k 1099511627775=true) (hb:h.get k=some b):((h.set k a).set k b).get j=h.get j:=by
 have hk':k<1099511627775:=by simpa using hk
 by_cases e:j=k
 ·subst e;rw[Qa6 hk',hb]
 ·rw[Qa1 hk' e,Qa1 hk' e]
theorem set3h {h:Heap} {k k2 j:Nat} {a b c:Blk} (hk:(Nat.blt k 1099511627775&&Nat.blt k2 1099511627775)=true):(((h.set k a).set k2 b).set k c).get j=((h.set k2 b).set k c).get j:=by
 simp only[Bool.and_eq_true,Nat.blt_eq]at hk
 obtain⟨h1,h2⟩:=hk
 by_cases e:j=k
 ·subst e;rw[Qa6 h1,Qa6 h1]
 ·rw [Qa1 h1 e, Qa1 h1 e]
  by_cases e2:j=k2
  ·subst e2;rw[Qa6 h2,Qa6 h2]
  ·rw[Qa1 h2 e2,Qa1 h2 e2,Qa1 h1 e]
theorem QeL {α:Type} {f:α->List AV} {k:Nat} (h:∀x,(f x).length=k):∀{l:List α} (i:Nat),(l.flatMap f).take (i*k)=(l.take i).flatMap f
 |[],i=>by simp
 |y::l,0=>by simp
 |y::l,i+1=>by
  rw[List.flatMap_cons,List.take_append,h,List.take_of_length_le (by rw[h,Nat.succ_mul];omega),List.take_succ_cons,List.flatMap_cons]
  have:(i+1)*k-k=i*k:=by rw[Nat.succ_mul];omega
  rw[this,QeL h i]
theorem Qki {s t:List UInt8} {f:Nat} {cap:List AV} {h:Heap} (hne:t≠s) (h1:h.get 64=some (.cells 0 [.str s])) (h3:h.get 150=some (nlP f cap .ready)):
  RSpec Tryz.prog 150 0 [.str t] h (.bool true) h:=by
 refine RSpec.of_wS (n:=300) rfl h3 rfl rfl rfl ?_
 simp(disch:=first|omega|exact PairsOK.mk rfl|(simp only[lenW]<;>omega)) only[upsT,h1,h3,QiL,hne,wW,wV,simprocAttr]
 exact⟨rfl,fun x=>set2h rfl h3⟩
theorem QiM {s:List UInt8} {f:Nat} {cap:List AV} {h:Heap} (h1:h.get 64=some (.cells 0 [.str s])) (h2:h.get 65=some (.cells 0 [.int .i64 0])) (h3:h.get 150=some (nlP f cap .ready)):
  RSpec Tryz.prog 150 0 [.str s] h (.bool false) ((h.set 65 (.cells 0 [.int .i64 8])).set 150 (nlP f cap (.done .ret))):=by
 refine RSpec.of_wS (n:=300) rfl h3 rfl rfl rfl ?_
 simp(disch:=first|omega|exact PairsOK.mk rfl|(simp only[lenW]<;>omega)) only[upsT,h1,h2,h3,QiL,wW,wV,simprocAttr]
 exact⟨rfl,fun x=>set3h rfl⟩
def nmErr (s:List UInt8) (N:List (List UInt8)):Int:=if nmOk s=false then 7 else if s∈N then 8 else 0
theorem clos101 (s : List UInt8) (S K : AV) (xs : List Exn) (i : Nat) (hi : i <= xs.length) (hl : xs.length <= 1000) (hn : noRefs [S, exsZ xs, K] = true) (d : Bool) (hd : d = decide (s ∈ (xs.take i).map (·.1))) :
    HSpec Tryz.prog 101 [.yld 150 0,.fptr [S,exsZ xs,K],.fptr [.int .i64 (i:Int)]] (hp (nlH s 0 101 [.fptr [S,exsZ xs,K],.fptr [.int .i64 (i:Int)]] .ready)) (.tup [])
      (hp (nlH s (if d then 8 else 0) 101 [.fptr [S,exsZ xs,K],.fptr [.int .i64 (i:Int)]] (if d then .done .ret else .ready))):=by
  refine HSpec.Qck (m:=200) 1000 TX.ok101 rfl rfl rfl ?_
  have hln:=QfD xs
  have hil:(i:Int)<=(xs.length:Int):=by omega
  have htk:((xs.flatMap exZ).take (i*2))=(xs.take i).flatMap exZ:=QeL (k:=2) (fun _=>rfl) i
  have hNl:(xs.take i).length=i:=by rw[List.length_take];omega
  simp(disch:=first|omega|exact PairsOK.mk rfl|(simp only[lenW]<;>omega)) only[TX.s101,hil,htk,wW,wV,simprocAttr]
  clear htk hil hln
  generalize hcp:[AV.fptr [S,exsZ xs,K],AV.fptr [.int .i64 (i:Int)]]=cap at*
  have hcn:noRef (.fn 101 [] cap)=true:=by
    have:noRefs cap=true:=by rw[<-hcp];simp only[noRefs,noRef]at hn⊢;rw[hn];rfl
    exact Qbl this
  clear hcp
  generalize xs.take i=N at*
  have hRT:∀{π:Nat->Option Src} {h:Heap},RT 200 π h (nlT 101 cap) (nlT 101 cap):=fun{π h}=>RT.cons (Rn.x6 rfl) (RT.cons (Rn.x6 rfl) (RT.cons (Rn.same hcn) RT.nil))
  have hRB:∀{π:Nat->Option Src} {h:Heap} {s:List UInt8} {e:Int} {st:LSt},h.get 64=some (.cells 0 [.str s])->h.get 65=some (.cells 0 [.int .i64 e])->h.get 150=some (nlP 101 cap st)->RB 200 π h (nlH s e 101 cap st):=fun{π h s e st} h1 h2 h3=>RB.loopB rfl h3 hRT (RB.cellsB rfl h1 (RnL.same rfl) (RB.cellsB rfl h2 (RnL.same rfl) RB.nil))
  subst hNl
  have hnN:=Qcg N
  refine QaB 1100 (fun k:Nat=>[(0,.yld 150 0),(9,exsZ N),(10,.int .i64 N.length),(11,.int .i64 k)]) (fun _=>nlH s 0 101 cap .ready) (fun k=>k<=N.length/\∀(j:Nat) y,j<k->N[j]?=some y->y.1≠s) (fun k=>N.length-k) 0 0 1200 (fun _:Unit=>[]) (fun _=>nlH s 0 101 cap .ready) (fun _=>d=false) ?_ ⟨Nat.zero_le _,fun j y hj=>absurd hj (Nat.not_lt_zero _)⟩ ?_ ?_
  · refine⟨[(150,.nil),(64,.nil),(65,.nil)],rfl,au0,hRB gg gg gg,RT.cons (Rn.yldB rfl) (RT.cons (Rn.same hnN) au24)⟩
  · rintro k ⟨hk, hb⟩
    by_cases hlt:k<N.length
    · obtain ⟨x, hx⟩ := Qal hlt
      have hdr:=QgI hx
      have hdl:2<=((N.flatMap exZ).drop (k*2)).length:=by rw[hdr];simp
      by_cases he:x.1=s
      · subst he
        have hm:decide (x.1∈N.map (·.1))=true:=decide_eq_true (List.mem_map.2 ⟨x,List.mem_of_getElem? hx,rfl⟩)
        rw[hm]at hd
        subst hd
        simp(disch:=first|omega|exact PairsOK.mk rfl|(simp only[lenW]<;>omega)) only[hlt,hdr,hdl,wW,wV,simprocAttr]
        refine cy (QiM (f:=101) (cap:=cap) gg gg gg) ?_
        simp(disch:=first|omega|exact PairsOK.mk rfl|(simp only[lenW]<;>omega)) only[wW,wV,simprocAttr]
        exact⟨.inr trivial,_,rfl,rfl,[(150,.nil),(64,.nil),(65,.nil)],rfl,au0,hRB gg gg gg,RT.nil⟩
      · simp (disch := first | omega | exact PairsOK.mk rfl | (simp only [lenW] <;> omega)) only [hlt, hdr, hdl, wW, wV, simprocAttr]
        refine cy (Qki (f:=101) (cap:=cap) he gg gg) ?_
        simp(disch:=first|omega|exact PairsOK.mk rfl|(simp only[lenW]<;>omega)) only[wW,wV,simprocAttr]
        refine⟨k+1,by omega,⟨by omega,fun j y hj hy=>?_⟩,[(150,.nil),(64,.nil),(65,.nil)],rfl,au0,hRB gg gg gg,RT.cons (Rn.yldB rfl) (RT.cons (Rn.same hnN) au24)⟩
        by_cases e:j=k
        · subst e;rw[hx]at hy;cases hy;exact he
        · exact hb j y (by omega) hy
    · have hm : s ∉ N.map (·.1) := fun h => by
        obtain⟨y,hy,e⟩:=List.mem_map.1 h
        obtain⟨j,hj,hjl⟩:=List.getElem_of_mem hy
        exact hb j y (by omega) (by rw[List.getElem?_eq_getElem hj,hjl]) e
      have hd2:d=false:=by rw[hd];exact decide_eq_false hm
      simp(disch:=first|omega|exact PairsOK.mk rfl|(simp only[lenW]<;>omega)) only[hlt,wW,wV,simprocAttr]
      exact⟨(),hd2,[(150,.nil),(64,.nil),(65,.nil)],rfl,au0,hRB gg gg gg,RT.nil⟩
  · rintro _ hd2
    subst hd2
    simp(disch:=first|omega|exact PairsOK.mk rfl|(simp only[lenW]<;>omega)) only[wW,wV,simprocAttr]
    exact⟨.inl trivial,_,rfl,rfl,[(150,.nil),(64,.nil),(65,.nil)],rfl,au0,hRB gg gg gg,RT.nil⟩
theorem name101 (s:List UInt8) (S K:AV) (xs:List Exn) (i:Nat) (hi:i<=xs.length) (hl:xs.length<=1000) (hsl:s.length<=9223372036854775807) (hn:noRefs [S,exsZ xs,K]=true):
  PSpec Tryz.prog 102 [.str s,.fn 101 [] [.fptr [S,exsZ xs,K],.fptr [.int .i64 (i:Int)]]] (.int .i64 (nmErr s ((xs.take i).map (·.1)))):=by
 have hcn:noRef (.fn 101 [] [AV.fptr [S,exsZ xs,K],AV.fptr [.int .i64 (i:Int)]])=true:=by
  refine Qbl ?_
  simp only[noRefs,noRef]at hn⊢;rw[hn];rfl
 refine PSpec.Qau 64 TX.ok102 rfl (by rw[noRefs,noRefs,hcn];rfl) rfl ?_
 have hc:=clos101 s S K xs i hi hl hn
 have hN:=name135 s hsl
 unfold nmErr
 generalize hcp:[AV.fptr [S,exsZ xs,K],AV.fptr [.int .i64 (i:Int)]]=cap at*
 simp(disch:=first|omega|exact PairsOK.mk rfl|(simp only[lenW]<;>omega)) only[TX.s102,wW,wV,simprocAttr]
 refine cp hN ?_
 cases ho:nmOk s with
 |false=>
  simp(disch:=first|omega|exact PairsOK.mk rfl|(simp only[lenW]<;>omega)) only[wW,wV,simprocAttr]
  exact⟨.inr trivial,_,rfl,rfl⟩
 | true =>
  simp(disch:=first|omega|exact PairsOK.mk rfl|(simp only[lenW]<;>omega)) only[wW,wV,simprocAttr]
  have hrec:Rec 0 (nlT 101 cap) [(64,.cells 0 [.str s]),(65,.cells 0 [.int .i64 0])] [(2,.ptr 64 0 0),(4,.ptr 65 0 0),(9,.fn 101 [] cap)] ((Tr.e.set 64 (.cells 0 [.str s])).set 65 (.cells 0 [.int .i64 0])):=by
   refine⟨[(64,.blk 64 0),(65,.blk 65 0)],rfl,RO.zero,RB.cells rfl rfl gg (RnL.same rfl) (RB.cells rfl rfl gg (RnL.same rfl) RB.nil),RT.cons (Rn.x2 rfl rfl) (RT.cons (Rn.x2 rfl rfl) (RT.cons (Rn.same hcn) RT.nil))⟩
  by_cases hm:s∈(xs.take i).map (·.1)
  ·have h1 := hc true (decide_eq_true hm).symm
   simp only[if_true]at h1
   refine QcB (n':=400) (b:=150) (st:= .done .ret) hrec rfl gg rfl h1 gg ?_
   unfold leftQ
   refine⟨rfl,?_⟩
   simp(disch:=first|omega|exact PairsOK.mk rfl|(simp only[lenW]<;>omega)) only[wW,wV,simprocAttr]
   exact⟨.inr trivial,_,rfl,by rw[if_pos hm];rfl⟩
  ·have h1 := hc false (decide_eq_false hm).symm
   simp only[Bool.false_eq_true,if_false]at h1
   refine QcB (n':=400) (b:=150) (st:= .ready) hrec rfl gg rfl h1 gg ?_
   unfold leftQ
   simp(disch:=first|omega|exact PairsOK.mk rfl|(simp only[lenW]<;>omega)) only[wW,wV,simprocAttr]
   exact⟨.inr trivial,_,rfl,by rw[if_neg hm];rfl⟩
theorem clos104 (s : List UInt8) (S K : AV) (xs : List Con) (i : Nat) (hi : i <= xs.length) (hl : xs.length <= 1000) (hn : noRefs [S, K, cosZ xs] = true) (d : Bool) (hd : d = decide (s ∈ (xs.take i).map (·.1))) :
    HSpec Tryz.prog 104 [.yld 150 0,.fptr [S,K,cosZ xs],.fptr [.int .i64 (i:Int)]] (hp (nlH s 0 104 [.fptr [S,K,cosZ xs],.fptr [.int .i64 (i:Int)]] .ready)) (.tup [])
      (hp (nlH s (if d then 8 else 0) 104 [.fptr [S,K,cosZ xs],.fptr [.int .i64 (i:Int)]] (if d then .done .ret else .ready))):=by
  refine HSpec.Qck (m:=200) 1000 TX.ok104 rfl rfl rfl ?_
  have hln:=QfE xs
  have hil:(i:Int)<=(xs.length:Int):=by omega
  have htk:((xs.flatMap coZ).take (i*3))=(xs.take i).flatMap coZ:=QeL (k:=3) (fun _=>rfl) i
  have hNl:(xs.take i).length=i:=by rw[List.length_take];omega
  simp(disch:=first|omega|exact PairsOK.mk rfl|(simp only[lenW]<;>omega)) only[TX.s104,hil,htk,wW,wV,simprocAttr]
  clear htk hil hln
  generalize hcp:[AV.fptr [S,K,cosZ xs],AV.fptr [.int .i64 (i:Int)]]=cap at*
  have hcn:noRef (.fn 104 [] cap)=true:=by
    have:noRefs cap=true:=by rw[<-hcp];simp only[noRefs,noRef]at hn⊢;rw[hn];rfl
    exact Qbl this
  clear hcp
  generalize xs.take i=N at*
  have hRT:∀{π:Nat->Option Src} {h:Heap},RT 200 π h (nlT 104 cap) (nlT 104 cap):=fun{π h}=>RT.cons (Rn.x6 rfl) (RT.cons (Rn.x6 rfl) (RT.cons (Rn.same hcn) RT.nil))
  have hRB:∀{π:Nat->Option Src} {h:Heap} {s:List UInt8} {e:Int} {st:LSt},h.get 64=some (.cells 0 [.str s])->h.get 65=some (.cells 0 [.int .i64 e])->h.get 150=some (nlP 104 cap st)->RB 200 π h (nlH s e 104 cap st):=fun{π h s e st} h1 h2 h3=>RB.loopB rfl h3 hRT (RB.cellsB rfl h1 (RnL.same rfl) (RB.cellsB rfl h2 (RnL.same rfl) RB.nil))
  subst hNl
  have hnN:=QeJ N
  refine QaB 1100 (fun k:Nat=>[(0,.yld 150 0),(9,cosZ N),(10,.int .i64 N.length),(11,.int .i64 k)]) (fun _=>nlH s 0 104 cap .ready) (fun k=>k<=N.length/\∀(j:Nat) y,j<k->N[j]?=some y->y.1≠s) (fun k=>N.length-k) 0 0 1200 (fun _:Unit=>[]) (fun _=>nlH s 0 104 cap .ready) (fun _=>d=false) ?_ ⟨Nat.zero_le _,fun j y hj=>absurd hj (Nat.not_lt_zero _)⟩ ?_ ?_
  · refine⟨[(150,.nil),(64,.nil),(65,.nil)],rfl,au0,hRB gg gg gg,RT.cons (Rn.yldB rfl) (RT.cons (Rn.same hnN) au24)⟩
  · rintro k ⟨hk, hb⟩
    by_cases hlt:k<N.length
    · obtain ⟨x, hx⟩ := Qal hlt
      have hdr:=QgJ hx
      have hdl:3<=((N.flatMap coZ).drop (k*3)).length:=by rw[hdr];simp
      by_cases he:x.1=s
      · subst he
        have hm:decide (x.1∈N.map (·.1))=true:=decide_eq_true (List.mem_map.2 ⟨x,List.mem_of_getElem? hx,rfl⟩)
        rw[hm]at hd
        subst hd
        simp(disch:=first|omega|exact PairsOK.mk rfl|(simp only[lenW]<;>omega)) only[hlt,hdr,hdl,wW,wV,simprocAttr]
        refine cy (QiM (f:=104) (cap:=cap) gg gg gg) ?_
        simp(disch:=first|omega|exact PairsOK.mk rfl|(simp only[lenW]<;>omega)) only[wW,wV,simprocAttr]
        exact⟨.inr trivial,_,rfl,rfl,[(150,.nil),(64,.nil),(65,.nil)],rfl,au0,hRB gg gg gg,RT.nil⟩
      · simp (disch := first | omega | exact PairsOK.mk rfl | (simp only [lenW] <;> omega)) only [hlt, hdr, hdl, wW, wV, simprocAttr]
        refine cy (Qki (f:=104) (cap:=cap) he gg gg) ?_
        simp(disch:=first|omega|exact PairsOK.mk rfl|(simp only[lenW]<;>omega)) only[wW,wV,simprocAttr]
        refine⟨k+1,by omega,⟨by omega,fun j y hj hy=>?_⟩,[(150,.nil),(64,.nil),(65,.nil)],rfl,au0,hRB gg gg gg,RT.cons (Rn.yldB rfl) (RT.cons (Rn.same hnN) au24)⟩
        by_cases e:j=k
        · subst e;rw[hx]at hy;cases hy;exact he
        · exact hb j y (by omega) hy
    · have hm : s ∉ N.map (·.1) := fun h => by
        obtain⟨y,hy,e⟩:=List.mem_map.1 h
        obtain⟨j,hj,hjl⟩:=List.getElem_of_mem hy
        exact hb j y (by omega) (by rw[List.getElem?_eq_getElem hj,hjl]) e
      have hd2:d=false:=by rw[hd];exact decide_eq_false hm
      simp(disch:=first|omega|exact PairsOK.mk rfl|(simp only[lenW]<;>omega)) only[hlt,wW,wV,simprocAttr]
      exact⟨(),hd2,[(150,.nil),(64,.nil),(65,.nil)],rfl,au0,hRB gg gg gg,RT.nil⟩
  · rintro _ hd2
    subst hd2
    simp(disch:=first|omega|exact PairsOK.mk rfl|(simp only[lenW]<;>omega)) only[wW,wV,simprocAttr]
    exact⟨.inl trivial,_,rfl,rfl,[(150,.nil),(64,.nil),(65,.nil)],rfl,au0,hRB gg gg gg,RT.nil⟩
theorem name104 (s:List UInt8) (S K:AV) (xs:List Con) (i:Nat) (hi:i<=xs.length) (hl:xs.length<=1000) (hsl:s.length<=9223372036854775807) (hn:noRefs [S,K,cosZ xs]=true):
  PSpec Tryz.prog 102 [.str s,.fn 104 [] [.fptr [S,K,cosZ xs],.fptr [.int .i64 (i:Int)]]] (.int .i64 (nmErr s ((xs.take i).map (·.1)))):=by
 have hcn:noRef (.fn 104 [] [AV.fptr [S,K,cosZ xs],AV.fptr [.int .i64 (i:Int)]])=true:=by
  refine Qbl ?_
  simp only[noRefs,noRef]at hn⊢;rw[hn];rfl
 refine PSpec.Qau 64 TX.ok102 rfl (by rw[noRefs,noRefs,hcn];rfl) rfl ?_
 have hc:=clos104 s S K xs i hi hl hn
 have hN:=name135 s hsl
 unfold nmErr
 generalize hcp:[AV.fptr [S,K,cosZ xs],AV.fptr [.int .i64 (i:Int)]]=cap at*
 simp(disch:=first|omega|exact PairsOK.mk rfl|(simp only[lenW]<;>omega)) only[TX.s102,wW,wV,simprocAttr]
 refine cp hN ?_
 cases ho:nmOk s with
 |false=>
  simp(disch:=first|omega|exact PairsOK.mk rfl|(simp only[lenW]<;>omega)) only[wW,wV,simprocAttr]
  exact⟨.inr trivial,_,rfl,rfl⟩
 | true =>
  simp(disch:=first|omega|exact PairsOK.mk rfl|(simp only[lenW]<;>omega)) only[wW,wV,simprocAttr]
  have hrec:Rec 0 (nlT 104 cap) [(64,.cells 0 [.str s]),(65,.cells 0 [.int .i64 0])] [(2,.ptr 64 0 0),(4,.ptr 65 0 0),(9,.fn 104 [] cap)] ((Tr.e.set 64 (.cells 0 [.str s])).set 65 (.cells 0 [.int .i64 0])):=by
   refine⟨[(64,.blk 64 0),(65,.blk 65 0)],rfl,RO.zero,RB.cells rfl rfl gg (RnL.same rfl) (RB.cells rfl rfl gg (RnL.same rfl) RB.nil),RT.cons (Rn.x2 rfl rfl) (RT.cons (Rn.x2 rfl rfl) (RT.cons (Rn.same hcn) RT.nil))⟩
  by_cases hm:s∈(xs.take i).map (·.1)
  ·have h1 := hc true (decide_eq_true hm).symm
   simp only[if_true]at h1
   refine QcB (n':=400) (b:=150) (st:= .done .ret) hrec rfl gg rfl h1 gg ?_
   unfold leftQ
   refine⟨rfl,?_⟩
   simp(disch:=first|omega|exact PairsOK.mk rfl|(simp only[lenW]<;>omega)) only[wW,wV,simprocAttr]
   exact⟨.inr trivial,_,rfl,by rw[if_pos hm];rfl⟩
  ·have h1 := hc false (decide_eq_false hm).symm
   simp only[Bool.false_eq_true,if_false]at h1
   refine QcB (n':=400) (b:=150) (st:= .ready) hrec rfl gg rfl h1 gg ?_
   unfold leftQ
   simp(disch:=first|omega|exact PairsOK.mk rfl|(simp only[lenW]<;>omega)) only[wW,wV,simprocAttr]
   exact⟨.inr trivial,_,rfl,by rw[if_neg hm];rfl⟩
end Go.AM.SO
namespace Go.AM.SO
open Go.Proofs Go.AM.SD Go.AM.SE
def szE (S:List Int) (i:Nat):Int:=if S.getD i 0<1\/4096<S.getD i 0 then 2 else 0
def xsE (S:List Int) (xs:List Exn) (i:Nat):Int:=
 let x:=xs.getD i ([],[])
 if nmErr x.1 ((xs.take i).map (·.1))≠0 then nmErr x.1 ((xs.take i).map (·.1))else exErr S x.2
def ksE (S:List Int) (ks:List Con) (i:Nat):Int:=
 let x:=ks.getD i ([],[],0)
 if nmErr x.1 ((ks.take i).map (·.1))≠0 then nmErr x.1 ((ks.take i).map (·.1))else coErr S x.2.1 x.2.2
def cdErr (S:List Int) (xs:List Exn) (ks:List Con):Int:=
 if 8<S.length then 3 else if fe (szE S) S.length≠0 then fe (szE S) S.length else if 32<xs.length\/32<ks.length then 3
 else if fe (xsE S xs) xs.length≠0 then fe (xsE S xs) xs.length else fe (ksE S ks) ks.length
theorem Qpu {S:List Int} {xs:List Exn} {i:Nat} {x:Exn} (h:xs[i]?=some x):xsE S xs i=if nmErr x.1 ((xs.take i).map (·.1))≠0 then nmErr x.1 ((xs.take i).map (·.1))else exErr S x.2:=by unfold xsE;rw[QaY h]
theorem Qpv {S:List Int} {ks:List Con} {i:Nat} {x:Con} (h:ks[i]?=some x):ksE S ks i=if nmErr x.1 ((ks.take i).map (·.1))≠0 then nmErr x.1 ((ks.take i).map (·.1))else coErr S x.2.1 x.2.2:=by unfold ksE;rw[QaY h]
theorem Qny {S:List Int} {xs:List Exn} {ks:List Con} {e:Int} (h:fe (xsE S xs) xs.length=e) (h0:e≠0):(if fe (xsE S xs) xs.length≠0 then fe (xsE S xs) xs.length else fe (ksE S ks) ks.length)=e:=by rw[h,if_pos h0]
theorem Qnz {S:List Int} {ks:List Con} {e:Int} (h:fe (ksE S ks) ks.length=e) (_:e≠0):fe (ksE S ks) ks.length=e:=h
theorem _root_.Go.AM.au25 {p:Prop} (h:p:=by repeat (first|exact RT.nil|(refine RT.cons ?_ ?_; · (first|exact Rn.any|exact Rn.x1 rfl rfl|exact Rn.x2 rfl rfl|exact Rn.x3 rfl rfl|exact Rn.x4 rfl rfl|exact Rn.x5 rfl|exact Rn.x6 rfl|exact Rn.x7 rfl|(refine Rn.slot ?_ ?_;(first|rfl|(rw[Int.natCast_add];rfl));(first|rfl|(simp only[noRef,noRefs,Qak,Bool.and_self,Bool.and_true,Bool.true_and,Qac,Qaq,Qab,QbZ,Qb0];done)))|(refine Rn.fn ?_ ?_<;>(repeat' (first|exact RnL.nil|refine RnL.cons ?_ ?_|exact Rn.same rfl|exact Rn.x6 rfl|exact Rn.x2 rfl rfl|exact Rn.x5 rfl|exact Rn.x1 rfl rfl))))))):p:=h
theorem conds32X (S : List Int) (xs : List Exn) (ks : List Con) (hS : S.length <= 1000) (hx2 : xs.length <= 1000) (hk1 : ks.length <= 1000) (hxl : ∀ x ∈ xs, x.1.length <= 9223372036854775807 /\ x.2.length <= 8796093021952) (hkl : ∀ x ∈ ks, x.1.length <= 9223372036854775807 /\ x.2.1.length <= 8796093021952) :
    PSpec Tryz.prog 32 [cdZ S xs ks] (.int .i64 (cdErr S xs ks)):=by
  have hnr:=@QcK S xs ks
  refine PSpec.Qau 64 SQ.ok32 rfl (by rw[noRefs,noRef,hnr];rfl) rfl ?_
  unfold cdErr
  by_cases g1:8<S.length
  · have g1' : (8 : Int) < (S.length : Int) := by omega
    simp(disch:=first|omega|exact PairsOK.mk rfl|(simp only[lenW]<;>omega)) only[SQ.s32,g1',wW,wV,simprocAttr]
    exact⟨.inr trivial,_,rfl,by rw[if_pos g1];rfl⟩
  rw[if_neg g1]
  have g1':¬(8:Int)<(S.length:Int):=by omega
  simp(disch:=first|omega|exact PairsOK.mk rfl|(simp only[lenW]<;>omega)) only[SQ.s32,g1',wW,wV,simprocAttr]
  refine QaB 100 (fun i:Nat=>[(1,.ptr 50 0 0),(20,sli S),(21,.int .i64 S.length),(22,.int .i64 i)]) (fun _=>[(50,.cells 0 (cdK S xs ks))]) (fun i=>i<=S.length/\∀j,j<i->szE S j=0) (fun i=>S.length-i) 0 0 140
    (fun _:Unit=>[(1,.ptr 50 0 0)]) (fun _=>[(50,.cells 0 (cdK S xs ks))]) (fun _=>fe (szE S) S.length=0) ⟨[(50,.blk 64 0)],rfl,au0,?_,au25⟩ ⟨Nat.zero_le _,fun j hj=>absurd hj (Nat.not_lt_zero _)⟩ ?_ ?_
  · exact RB.cells rfl rfl gg (RnL.same hnr) RB.nil
  · rintro i ⟨hi, hb⟩
    by_cases hlt:i<S.length
    · obtain ⟨s, hs⟩ := Qal hlt
      have hgs:S.getD i 0=s:=QaY hs
      by_cases q1:s<1
      · simp (disch := first | omega | exact PairsOK.mk rfl | (simp only [lenW] <;> omega)) only [hlt, QaP hs, q1, wW, wV, simprocAttr]
        exact⟨.inr trivial,_,rfl,by rw[fe_at (e:=2) (by unfold szE;rw[hgs,if_pos (.inl q1)]) (by decide) hb hlt,if_pos (by decide)];rfl⟩
      by_cases q2:4096<s
      · simp (disch := first | omega | exact PairsOK.mk rfl | (simp only [lenW] <;> omega)) only [hlt, QaP hs, q1, q2, wW, wV, simprocAttr]
        exact⟨.inr trivial,_,rfl,by rw[fe_at (e:=2) (by unfold szE;rw[hgs,if_pos (.inr q2)]) (by decide) hb hlt,if_pos (by decide)];rfl⟩
      simp(disch:=first|omega|exact PairsOK.mk rfl|(simp only[lenW]<;>omega)) only[hlt,QaP hs,q1,q2,wW,wV,simprocAttr]
      refine⟨i+1,by omega,⟨by omega,fe_up hb (by unfold szE;rw[hgs,if_neg (by omega)])⟩,?_⟩
      refine⟨[(50,.blk 50 0)],rfl,au0,?_,au25⟩
      exact RB.cells rfl rfl gg (RnL.same hnr) RB.nil
    · simp (disch := first | omega | exact PairsOK.mk rfl | (simp only [lenW] <;> omega)) only [hlt, wW, wV, simprocAttr]
      refine⟨(),QbH fun j hj=>hb j (by omega),?_⟩
      refine⟨[(50,.blk 50 0)],rfl,au0,?_,au25⟩
      exact RB.cells rfl rfl gg (RnL.same hnr) RB.nil
  rintro _ hz
  rw[if_neg (fun h=>h hz)]
  by_cases g2:32<xs.length
  · have g2' : (32 : Int) < (xs.length : Int) := by omega
    simp(disch:=first|omega|exact PairsOK.mk rfl|(simp only[lenW]<;>omega)) only[g2',wW,wV,simprocAttr]
    exact⟨.inr trivial,_,rfl,by rw[if_pos (.inl g2)];rfl⟩
  have g2':¬(32:Int)<(xs.length:Int):=by omega
  by_cases g3:32<ks.length
  · have g3' : (32 : Int) < (ks.length : Int) := by omega
    simp(disch:=first|omega|exact PairsOK.mk rfl|(simp only[lenW]<;>omega)) only[g2',g3',wW,wV,simprocAttr]
    exact⟨.inr trivial,_,rfl,by rw[if_pos (.inr g3)];rfl⟩
  have g3':¬(32:Int)<(ks.length:Int):=by omega
  rw[if_neg (by omega)]
  simp(disch:=first|omega|exact PairsOK.mk rfl|(simp only[lenW]<;>omega)) only[g2',g3',wW,wV,simprocAttr]
  refine QaB 200 (fun i:Nat=>[(1,.ptr 50 0 0),(44,exsZ xs),(45,.int .i64 xs.length),(46,.int .i64 i)]) (fun _=>[(50,.cells 0 (cdK S xs ks))]) (fun i=>i<=xs.length/\∀j,j<i->xsE S xs j=0) (fun i=>xs.length-i) 0 2 240
    (fun _:Unit=>[(1,.ptr 50 0 0)]) (fun _=>[(50,.cells 0 (cdK S xs ks))]) (fun _=>fe (xsE S xs) xs.length=0) ⟨[(50,.blk 50 0)],rfl,au0,?_,au25⟩ ⟨Nat.zero_le _,fun j hj=>absurd hj (Nat.not_lt_zero _)⟩ ?_ ?_
  · exact RB.cells rfl rfl gg (RnL.same hnr) RB.nil
  · skip
    rintro i ⟨hi,hb⟩
    by_cases hlt:i<xs.length
    · obtain ⟨x, hx⟩ := Qal hlt
      have hxm:=List.mem_of_getElem? hx
      have hdr:=QgI hx
      have hdl:2<=((xs.flatMap exZ).drop (i*2)).length:=by rw[hdr];simp
      have hN:=name101 x.1 (sli S) (cosZ ks) xs i (by omega) (by omega) (hxl x hxm).1 hnr
      have hE:=excl103X S xs ks x (hxl x hxm).2
      have ke:=Qpu (S:=S) hx
      have at0:∀e:Int,xsE S xs i=e->e≠0->fe (xsE S xs) xs.length=e:=fun e h h0=>fe_at h h0 hb hlt
      have up:xsE S xs i=0->∀j,j<i+1->xsE S xs j=0:=fe_up hb
      rw[ke]at at0 up
      clear ke
      generalize nmErr x.1 ((xs.take i).map (·.1))=e1 at*
      generalize exErr S x.2=e2 at*
      have hex:exZ x=[.str x.1,prs x.2]:=rfl
      rw[hex]at hE
      simp(disch:=first|omega|exact PairsOK.mk rfl|(simp only[lenW]<;>omega)) only[hlt,hdr,hdl,wW,wV,simprocAttr]
      refine SU.chc (HSpec.lend (FrzL.cons (FrzTo.same _) (FrzL.cons (FrzTo.fn FrzL.nil (FrzL.cons (FrzTo.ptr (g:=0) (cs:=cdK S xs ks) gg (FrzL.same _)) (FrzL.cons (FrzTo.ptr (g:=0) (cs:=[.int .i64 (i:Int)]) gg (FrzL.same _)) FrzL.nil))) FrzL.nil)) hN rfl) ?_
      by_cases q1:e1=0
      · simp (disch := first | omega | exact PairsOK.mk rfl | (simp only [lenW] <;> omega)) only [q1, wW, wV, simprocAttr]
        refine cp hE ?_
        by_cases q2:e2=0
        · simp (disch := first | omega | exact PairsOK.mk rfl | (simp only [lenW] <;> omega)) only [q2, wW, wV, simprocAttr]
          refine⟨i+1,by omega,⟨by omega,up (by rw[if_neg (fun h=>h q1)];exact q2)⟩,?_⟩
          refine⟨[(50,.blk 50 0)],rfl,au0,?_,au25⟩
          exact RB.cells rfl rfl gg (RnL.same hnr) RB.nil
        · simp (disch := first | omega | exact PairsOK.mk rfl | (simp only [lenW] <;> omega)) only [q2, wW, wV, simprocAttr]
          exact⟨.inr trivial,_,rfl,by rw[Qny (at0 e2 (by rw[if_neg (fun h=>h q1)]) q2) q2];rfl⟩
      · simp (disch := first | omega | exact PairsOK.mk rfl | (simp only [lenW] <;> omega)) only [q1, wW, wV, simprocAttr]
        exact⟨.inr trivial,_,rfl,by rw[Qny (at0 e1 (by rw[if_pos q1]) q1) q1];rfl⟩
    · simp (disch := first | omega | exact PairsOK.mk rfl | (simp only [lenW] <;> omega)) only [hlt, wW, wV, simprocAttr]
      refine⟨(),QbH fun j hj=>hb j (by omega),?_⟩
      refine⟨[(50,.blk 50 0)],rfl,au0,?_,au25⟩
      exact RB.cells rfl rfl gg (RnL.same hnr) RB.nil
  rintro _ hz2
  rw[if_neg (fun h=>h hz2)]
  simp(disch:=first|omega|exact PairsOK.mk rfl|(simp only[lenW]<;>omega)) only[wW,wV,simprocAttr]
  refine Qba 300 (fun i:Nat=>[(1,.ptr 50 0 0),(67,cosZ ks),(68,.int .i64 ks.length),(69,.int .i64 i)]) (fun _=>[(50,.cells 0 (cdK S xs ks))]) (fun i=>i<=ks.length/\∀j,j<i->ksE S ks j=0) (fun i=>ks.length-i) 0 ⟨[(50,.blk 50 0)],rfl,au0,?_,au25⟩ ⟨Nat.zero_le _,fun j hj=>absurd hj (Nat.not_lt_zero _)⟩ ?_
  · exact RB.cells rfl rfl gg (RnL.same hnr) RB.nil
  rintro i ⟨hi,hb⟩
  by_cases hlt:i<ks.length
  · obtain ⟨x, hx⟩ := Qal hlt
    have hxm:=List.mem_of_getElem? hx
    have hdr:=QgJ hx
    have hdl:3<=((ks.flatMap coZ).drop (i*3)).length:=by rw[hdr];simp
    have hN:=name104 x.1 (sli S) (exsZ xs) ks i (by omega) (by omega) (hkl x hxm).1 hnr
    have hE:=cons105X S xs ks x (hkl x hxm).2
    have ke:=Qpv (S:=S) hx
    have at0:∀e:Int,ksE S ks i=e->e≠0->fe (ksE S ks) ks.length=e:=fun e h h0=>fe_at h h0 hb hlt
    have up:ksE S ks i=0->∀j,j<i+1->ksE S ks j=0:=fe_up hb
    rw[ke]at at0 up
    clear ke
    generalize nmErr x.1 ((ks.take i).map (·.1))=e1 at*
    generalize coErr S x.2.1 x.2.2=e2 at*
    have hex:coZ x=[.str x.1,prs x.2.1,.int .i64 x.2.2]:=rfl
    rw[hex]at hE
    simp(disch:=first|omega|exact PairsOK.mk rfl|(simp only[lenW]<;>omega)) only[hlt,hdr,hdl,wW,wV,simprocAttr]
    refine SU.chc (HSpec.lend (FrzL.cons (FrzTo.same _) (FrzL.cons (FrzTo.fn FrzL.nil (FrzL.cons (FrzTo.ptr (g:=0) (cs:=cdK S xs ks) gg (FrzL.same _)) (FrzL.cons (FrzTo.ptr (g:=0) (cs:=[.int .i64 (i:Int)]) gg (FrzL.same _)) FrzL.nil))) FrzL.nil)) hN rfl) ?_
    by_cases q1:e1=0
    · simp (disch := first | omega | exact PairsOK.mk rfl | (simp only [lenW] <;> omega)) only [q1, wW, wV, simprocAttr]
      refine cp hE ?_
      by_cases q2:e2=0
      · simp (disch := first | omega | exact PairsOK.mk rfl | (simp only [lenW] <;> omega)) only [q2, wW, wV, simprocAttr]
        refine⟨i+1,by omega,⟨by omega,up (by rw[if_neg (fun h=>h q1)];exact q2)⟩,?_⟩
        refine⟨[(50,.blk 50 0)],rfl,au0,?_,au25⟩
        exact RB.cells rfl rfl gg (RnL.same hnr) RB.nil
      · simp (disch := first | omega | exact PairsOK.mk rfl | (simp only [lenW] <;> omega)) only [q2, wW, wV, simprocAttr]
        exact⟨.inr trivial,_,rfl,by rw[Qnz (at0 e2 (by rw[if_neg (fun h=>h q1)]) q2) q2];rfl⟩
    · simp (disch := first | omega | exact PairsOK.mk rfl | (simp only [lenW] <;> omega)) only [q1, wW, wV, simprocAttr]
      exact⟨.inr trivial,_,rfl,by rw[Qnz (at0 e1 (by rw[if_pos q1]) q1) q1];rfl⟩
  · simp (disch := first | omega | exact PairsOK.mk rfl | (simp only [lenW] <;> omega)) only [hlt, wW, wV, simprocAttr]
    exact⟨.inr trivial,_,rfl,by rw[QbH fun j hj=>hb j (by omega)];rfl⟩
end Go.AM.SO
namespace Go.AM.SO
open Go.Proofs Go.AM.SD Go.AM.SE
def uZ (l:List Itn):List Nat:=l.foldl (fun out x=>mrg (fun a b=>a||b) out (natA x.2).al) []
theorem QnA:∀{l:List Itn} {out:List Nat},out.Pairwise (· < ·)->(∀e∈out,e<32)->(∀x∈l,(natA x.2).al.Pairwise (· < ·)/\∀e∈(natA x.2).al,e<32)->
  (l.foldl (fun out x=>mrg (fun a b=>a||b) out (natA x.2).al) out).Pairwise (· < ·)/\∀e∈l.foldl (fun out x=>mrg (fun a b=>a||b) out (natA x.2).al) out,e<32
 |[],out,h,h2,_=>⟨h,h2⟩
 |x::l,out,h,h2,hl=>by
  obtain⟨hx,hx2⟩:=hl x (by simp)
  rw[List.foldl_cons]
  refine QnA (QbX h hx) (fun e he=>?_) fun y hy=>hl y (by simp[hy])
  rw[QbG h hx]at he
  obtain⟨h1,_⟩:=he
  simp only[Bool.or_eq_true,decide_eq_true_eq]at h1
  rcases h1 with h1|h1
  ·exact h2 e h1
  ·exact hx2 e h1
theorem Qpw {l:List Itn} (h:∀x∈l,(natA x.2).al.Pairwise (· < ·)/\∀e∈(natA x.2).al,e<32):(uZ l).length<=32:=by
 obtain⟨h1,h2⟩:=QnA (l:=l) (out:=[]) (by simp) (by simp) h
 exact QbA h1 h2
theorem Qo2 {l:List Itn} {i:Nat} {x:Itn} (h:l[i]?=some x):uZ (l.take (i+1))=mrg (fun a b=>a||b) (uZ (l.take i)) (natA x.2).al:=by
 unfold uZ
 rw[take_succ' h,List.foldl_append];rfl
theorem Qfu {E:Int} {B:List Nat} {N:List (List UInt8)} {x:Itn} (hx:ItOk x) (h:itEr E B N x=0):itNs N x=N++[x.1]/\au (natA x.2)=x.2/\WfA (natA x.2):=by
 cases ho:nmOk x.1 with
 |false=>rw[(Qns ho).1]at h;cases h
 | true =>
  by_cases hm:x.1∈N
  ·rw[(Qnt ho hm).1]at h;cases h
  ·obtain ⟨h1, h2⟩ := Qnu (E := E) (B := B) ho hm
   rw[h1]at h
   unfold itE2 at h
   split at h
   ·rename_i q;exact absurd h q
   ·rename_i q
    exact⟨h2,QgG (by simpa using q) hx.n⟩
abbrev nmZ (l:List Itn):List (List UInt8):=l.map (·.1)
theorem Qkj {l:List Itn} {i:Nat} {x:Itn} (h:l[i]?=some x):nmZ (l.take (i+1))=nmZ (l.take i)++[x.1]:=by
 unfold nmZ;rw[take_succ' h,List.map_append];rfl
def it0:Itn:=([],⟨[],0,[],[]⟩)
def csE (c:CelN) (i:Nat):Int:=itEr c.ev.length (List.range c.ev.length) (nmZ (c.cs.take i)) (c.cs.getD i it0)
def rsE (c:CelN) (i:Nat):Int:=itEr c.ev.length (uZ c.cs) (nmZ c.cs++nmZ (c.rs.take i)) (c.rs.getD i it0)
def celErr (c:CelN):Int:=
 if evErr c.ev≠0 then evErr c.ev else if c.cs.length=0 then 12 else if 8<c.cs.length\/12<c.cs.length+c.rs.length then 3
 else if fe (csE c) c.cs.length≠0 then fe (csE c) c.cs.length else if fe (rsE c) c.rs.length≠0 then fe (rsE c) c.rs.length else cdErr (szZ c) c.xs c.ks
structure CelOk (c:CelN):Prop where
 el:c.ev.length<=9223372036854775807
 en:∀x∈c.ev,x.nm.length<=9223372036854775807
 cl:c.cs.length<=1000
 rl:c.rs.length<=1000
 xl:c.xs.length<=1000
 kl:c.ks.length<=1000
 ci:∀x∈c.cs,ItOk x
 ri:∀x∈c.rs,ItOk x
 xi:∀x∈c.xs,x.1.length<=9223372036854775807/\x.2.length<=8796093021952
 ki:∀x∈c.ks,x.1.length<=9223372036854775807/\x.2.1.length<=8796093021952
theorem QnB {l:List Evn} (h:evErr l=0):l.length<=32:=by
 unfold evErr at h
 split at h
 ·cases h
 ·omega
theorem check21X (c : CelN) (h : CelOk c) : PSpec Tryz.prog 21 [celZ c] (.int .i64 (celErr c)) := by
  have hnr:=Qgd c
  refine PSpec.Qau 64 ok21 rfl (by rw[noRefs,celZ,noRef,hnr];rfl) rfl ?_
  have hE:=check82X c.ev h.el h.en
  have h3:=h.cl
  have h2:=h.rl
  have hdL:=conds85X c h.cl h.xl h.kl (fun x hx=>(h.xi x hx).2) (fun x hx=>(h.ki x hx).2)
  have hdC:=conds32X (szZ c) c.xs c.ks (by simp[szZ];omega) h.xl h.kl h.xi h.ki
  unfold celErr
  by_cases z0:¬evErr c.ev=0
  · simp (disch := first | omega | exact PairsOK.mk rfl | (simp only [lenW] <;> omega)) only [s21, wW, wV, simprocAttr]
    refine cp hE ?_
    simp(disch:=first|omega|exact PairsOK.mk rfl|(simp only[lenW]<;>omega)) only[z0,wW,wV,simprocAttr]
    exact⟨.inr trivial,_,rfl,rfl⟩
  replace z0:evErr c.ev=0:=Decidable.not_not.1 z0
  rw[z0]at hE
  have hE32:=QnB z0
  rw[if_neg (fun h=>h z0)]
  by_cases z1:c.cs.length=0
  · have g1 : (c.cs.length : Int) = 0 := by omega
    simp(disch:=first|omega|exact PairsOK.mk rfl|(simp only[lenW]<;>omega)) only[s21,wW,wV,simprocAttr]
    refine cp hE ?_
    simp(disch:=first|omega|exact PairsOK.mk rfl|(simp only[lenW]<;>omega)) only[g1,wW,wV,simprocAttr]
    exact⟨.inr trivial,_,rfl,by rw[if_pos z1];rfl⟩
  have g1:¬(c.cs.length:Int)=0:=by omega
  rw[if_neg z1]
  by_cases z2:8<c.cs.length
  · have g2 : (8 : Int) < (c.cs.length : Int) := by omega
    simp(disch:=first|omega|exact PairsOK.mk rfl|(simp only[lenW]<;>omega)) only[s21,wW,wV,simprocAttr]
    refine cp hE ?_
    simp(disch:=first|omega|exact PairsOK.mk rfl|(simp only[lenW]<;>omega)) only[g1,g2,wW,wV,simprocAttr]
    exact⟨.inr trivial,_,rfl,by rw[if_pos (.inl z2)];rfl⟩
  have g2:¬(8:Int)<(c.cs.length:Int):=by omega
  by_cases z3:12<c.cs.length+c.rs.length
  · have g3 : (12 : Int) < (c.cs.length : Int) + (c.rs.length : Int) := by omega
    simp(disch:=first|omega|exact PairsOK.mk rfl|(simp only[lenW]<;>omega)) only[s21,wW,wV,simprocAttr]
    refine cp hE ?_
    simp(disch:=first|omega|exact PairsOK.mk rfl|(simp only[lenW]<;>omega)) only[g1,g2,g3,wW,wV,simprocAttr]
    exact⟨.inr trivial,_,rfl,by rw[if_pos (.inr z3)];rfl⟩
  have g3:¬(12:Int)<(c.cs.length:Int)+(c.rs.length:Int):=by omega
  rw[if_neg (by omega)]
  simp(disch:=first|omega|exact PairsOK.mk rfl|(simp only[lenW]<;>omega)) only[s21,wW,wV,simprocAttr]
  refine cp hE ?_
  simp(disch:=first|omega|exact PairsOK.mk rfl|(simp only[lenW]<;>omega)) only[g1,g2,g3,wW,wV,simprocAttr]
  refine QaB 140 (fun i:Nat=>[(1,.ptr 50 0 0),(5,.map 68 0),(6,.sl 76 0 0 i 1),(7,.nilsl),(41,.int .i64 c.ev.length),(42,.int .i64 i)]) (fun i=>[(50,.cells 0 [evns c.ev,itsV c.cs,itsV c.rs,exsZ c.xs,cosZ c.ks]),(68,nmsB []),(76,.cells 0 (ints (nz (List.range i))))]) (fun i=>i<=c.ev.length) (fun i=>c.ev.length-i) 0 1 180
    (fun _:Unit=>[(1,.ptr 50 0 0),(5,.map 68 0),(6,sliN (List.range c.ev.length)),(7,sliN [])]) (fun _=>[(50,.cells 0 [evns c.ev,itsV c.cs,itsV c.rs,exsZ c.xs,cosZ c.ks]),(68,nmsB [])]) (fun _=>True) ?_ (Nat.zero_le _) ?_ ?_
  · refine ⟨[(50, .blk 64 0), (68, .blk 90 0), (76, .nil)], rfl, au0, ?_, au17⟩
    exact RB.cells rfl rfl gg (RnL.same hnr) (RB.map rfl rfl gg Qfz (RB.newnil rfl rfl RB.nil))
  · rintro i hi
    by_cases hlt:i<c.ev.length
    · have hrl : (ints (nz (List.range i))).length = i := by simp [ints]
      simp(disch:=first|omega|exact PairsOK.mk rfl|(simp only[lenW]<;>omega)) only[hlt,List.length_range,hrl,wW,wV,simprocAttr]
      refine⟨i+1,by omega,by omega,?_⟩
      rw[List.range_succ,Qbn,Qa3]
      refine⟨[(50,.blk 50 0),(68,.blk 68 0),(76,.blk 76 1)],rfl,au0,?_,au17⟩
      exact RB.cells rfl rfl gg (RnL.same hnr) (RB.map rfl rfl gg Qfz (RB.cells rfl rfl gg (RnL.same (SU.QaF (Qac _) rfl)) RB.nil))
    · have e : i = c.ev.length := by omega
      subst e
      simp(disch:=first|omega|exact PairsOK.mk rfl|(simp only[lenW]<;>omega)) only[hlt,wW,wV,simprocAttr]
      refine⟨(),[(50,.blk 50 0),(68,.blk 68 0)],rfl,RO.zero,?_,?_⟩
      · exact RB.cells rfl rfl gg (RnL.same hnr) (RB.map rfl rfl gg Qfz RB.nil)
      · exact RT.cons (Rn.x2 rfl rfl) (RT.cons (Rn.x3 rfl rfl) (RT.cons (Rn.fzm (b:=76) (g:=0) gg rfl rfl (by simp) (by simp[ints]) (RnL.same (Qac _))) (RT.cons Rn.nilK RT.nil)))
  rintro _ _
  simp(disch:=first|omega|exact PairsOK.mk rfl|(simp only[lenW]<;>omega)) only[wW,wV,simprocAttr]
  have hcsi:∀i,(∀j,j<i->csE c j=0)->∀x∈c.cs.take i,au (natA x.2)=x.2/\WfA (natA x.2):=fun i hb x hx=>by
    obtain⟨j,hj,rfl⟩:=List.getElem_of_mem hx
    rw[List.length_take]at hj
    have hjc:c.cs[j]?=some (c.cs.take i)[j]:=by rw[List.getElem_take];exact List.getElem?_eq_getElem (by omega)
    have h1:=hb j (by omega)
    unfold csE at h1
    rw[QaY hjc]at h1
    exact(Qfu (h.ci _ (List.mem_of_getElem? hjc)) h1).2
  have hU:∀i,(∀j,j<i->csE c j=0)->(uZ (c.cs.take i)).length<=32:=fun i hb=>Qpw fun x hx=>⟨(hcsi i hb x hx).2.al,(hcsi i hb x hx).2.al5⟩
  refine QaB 240 (fun i:Nat=>[(1,.ptr 50 0 0),(5,.map 68 0),(6,sliN (List.range c.ev.length)),(7,sliN (uZ (c.cs.take i))),(51,itsV c.cs),(52,.int .i64 c.cs.length),(53,.int .i64 i)]) (fun i=>[(50,.cells 0 [evns c.ev,itsV c.cs,itsV c.rs,exsZ c.xs,cosZ c.ks]),(68,nmsB (nmZ (c.cs.take i)))]) (fun i=>i<=c.cs.length/\∀j,j<i->csE c j=0) (fun i=>c.cs.length-i) 0 3 280
    (fun _:Unit=>[(1,.ptr 50 0 0),(5,.map 68 0),(7,sliN (uZ c.cs))]) (fun _=>[(50,.cells 0 [evns c.ev,itsV c.cs,itsV c.rs,exsZ c.xs,cosZ c.ks]),(68,nmsB (nmZ c.cs))]) (fun _=>∀j,j<c.cs.length->csE c j=0) ?_ ⟨Nat.zero_le _,fun j hj=>absurd hj (Nat.not_lt_zero _)⟩ ?_ ?_
  · refine ⟨[(50, .blk 50 0), (68, .blk 68 0)], rfl, au0, ?_, au17⟩
    exact RB.cells rfl rfl gg (RnL.same hnr) (RB.map rfl rfl gg Qfz RB.nil)
  · rintro i ⟨hi, hb⟩
    by_cases hlt:i<c.cs.length
    · obtain ⟨x, hx⟩ := Qal hlt
      have hxm:=List.mem_of_getElem? hx
      have hdr:=QgH hx
      have hdl:5<=((c.cs.flatMap itV).drop (i*5)).length:=by rw[hdr];simp
      have hnl:(nmZ (c.cs.take i)).length<=100:=by simp[nmZ];omega
      have ke:csE c i=itEr c.ev.length (List.range c.ev.length) (nmZ (c.cs.take i)) x:=by unfold csE;rw[QaY hx]
      have hI:=fun{hh:Heap} (h68:hh.get 68=some (nmsB (nmZ (c.cs.take i))))=>item83XF x c.ev.length (List.range c.ev.length) (nmZ (c.cs.take i)) (h.ci x hxm) hnl (by simp;omega) h68
      rw[<-ke]at hI
      by_cases q:csE c i=0
      · obtain ⟨k1, k2, k3⟩ := Qfu (h.ci x hxm) (ke ▸ q)
        rw[k1,q]at hI
        have hns:=Qkj hx
        have hUi:=hU i hb
        have hal:=QbA k3.al k3.al5
        have hUn:=union84 (uZ (c.cs.take i)) (natA x.2).al (by omega) (by omega)
        rw[<-Qo2 hx]at hUn
        have eal:sli x.2.al=sliN (natA x.2).al:=by rw[<-Qdc];exact congrArg (fun b=>sli b.al) k2.symm
        rw[<-eal]at hUn
        simp(disch:=first|omega|exact PairsOK.mk rfl|(simp only[lenW]<;>omega)) only[hlt,hdr,hdl,wW,wV,simprocAttr]
        refine SU.chc (hI gg) ?_
        simp(disch:=first|omega|exact PairsOK.mk rfl|(simp only[lenW]<;>omega)) only[wW,wV,simprocAttr]
        refine cp hUn ?_
        simp(disch:=first|omega|exact PairsOK.mk rfl|(simp only[lenW]<;>omega)) only[wW,wV,simprocAttr]
        refine⟨i+1,by omega,⟨by omega,fe_up hb q⟩,?_⟩
        rw[hns]
        refine⟨[(50,.blk 50 0),(68,.blk 68 0)],rfl,au0,?_,au17⟩
        exact RB.cells rfl rfl gg (RnL.same hnr) (RB.map rfl rfl gg (RnM.mapS fun _ _=>Rn.same rfl) RB.nil)
      · have hfe := fe_at (f := csE c) rfl q hb hlt
        simp(disch:=first|omega|exact PairsOK.mk rfl|(simp only[lenW]<;>omega)) only[hlt,hdr,hdl,wW,wV,simprocAttr]
        refine SU.chc (hI gg) ?_
        simp(disch:=first|omega|exact PairsOK.mk rfl|(simp only[lenW]<;>omega)) only[q,wW,wV,simprocAttr]
        exact⟨.inr trivial,_,rfl,by rw[hfe,if_pos q];rfl⟩
    · have e : i = c.cs.length := by omega
      subst e
      simp(disch:=first|omega|exact PairsOK.mk rfl|(simp only[lenW]<;>omega)) only[hlt,List.take_length,wW,wV,simprocAttr]
      refine⟨(),hb,?_⟩
      refine⟨[(50,.blk 50 0),(68,.blk 68 0)],rfl,au0,?_,au17⟩
      exact RB.cells rfl rfl gg (RnL.same hnr) (RB.map rfl rfl gg (RnM.mapS fun _ _=>Rn.same rfl) RB.nil)
  rintro _ hbc
  rw[if_neg (fun h=>h (QbH hbc))]
  have hUc:(uZ c.cs).length<=32:=by
    have:=hU c.cs.length hbc
    rwa [List.take_length]at this
  simp(disch:=first|omega|exact PairsOK.mk rfl|(simp only[lenW]<;>omega)) only[wW,wV,simprocAttr]
  refine QaB 340 (fun i:Nat=>[(1,.ptr 50 0 0),(5,.map 68 0),(7,sliN (uZ c.cs)),(74,itsV c.rs),(75,.int .i64 c.rs.length),(76,.int .i64 i)]) (fun i=>[(50,.cells 0 [evns c.ev,itsV c.cs,itsV c.rs,exsZ c.xs,cosZ c.ks]),(68,nmsB (nmZ c.cs++nmZ (c.rs.take i)))]) (fun i=>i<=c.rs.length/\∀j,j<i->rsE c j=0) (fun i=>c.rs.length-i) 0 5 380
    (fun _:Unit=>[(1,.ptr 50 0 0)]) (fun _=>[(50,.cells 0 [evns c.ev,itsV c.cs,itsV c.rs,exsZ c.xs,cosZ c.ks])]) (fun _=>fe (rsE c) c.rs.length=0) ?_ ⟨Nat.zero_le _,fun j hj=>absurd hj (Nat.not_lt_zero _)⟩ ?_ ?_
  · rw [show nmZ c.cs ++ nmZ (c.rs.take 0) = nmZ c.cs by simp [nmZ]]
    refine⟨[(50,.blk 50 0),(68,.blk 68 0)],rfl,au0,?_,au17⟩
    exact RB.cells rfl rfl gg (RnL.same hnr) (RB.map rfl rfl gg (RnM.mapS fun _ _=>Rn.same rfl) RB.nil)
  · rintro i ⟨hi, hb⟩
    by_cases hlt:i<c.rs.length
    · obtain ⟨x, hx⟩ := Qal hlt
      have hxm:=List.mem_of_getElem? hx
      have hdr:=QgH hx
      have hdl:5<=((c.rs.flatMap itV).drop (i*5)).length:=by rw[hdr];simp
      have hnl:(nmZ c.cs++nmZ (c.rs.take i)).length<=100:=by simp[nmZ];omega
      have ke:rsE c i=itEr c.ev.length (uZ c.cs) (nmZ c.cs++nmZ (c.rs.take i)) x:=by unfold rsE;rw[QaY hx]
      have hI:=fun{hh:Heap} (h68:hh.get 68=some (nmsB (nmZ c.cs++nmZ (c.rs.take i))))=>item83XF x c.ev.length (uZ c.cs) (nmZ c.cs++nmZ (c.rs.take i)) (h.ri x hxm) hnl (by omega) h68
      rw[<-ke]at hI
      by_cases q:rsE c i=0
      · obtain ⟨k1, _, _⟩ := Qfu (h.ri x hxm) (ke ▸ q)
        rw[k1,q]at hI
        have hns:=Qkj hx
        simp(disch:=first|omega|exact PairsOK.mk rfl|(simp only[lenW]<;>omega)) only[hlt,hdr,hdl,wW,wV,simprocAttr]
        refine SU.chc (hI gg) ?_
        simp(disch:=first|omega|exact PairsOK.mk rfl|(simp only[lenW]<;>omega)) only[wW,wV,simprocAttr]
        refine⟨i+1,by omega,⟨by omega,fe_up hb q⟩,?_⟩
        rw[hns,<-List.append_assoc]
        refine⟨[(50,.blk 50 0),(68,.blk 68 0)],rfl,au0,?_,au17⟩
        exact RB.cells rfl rfl gg (RnL.same hnr) (RB.map rfl rfl gg (RnM.mapS fun _ _=>Rn.same rfl) RB.nil)
      · have hfe := fe_at (f := rsE c) rfl q hb hlt
        simp(disch:=first|omega|exact PairsOK.mk rfl|(simp only[lenW]<;>omega)) only[hlt,hdr,hdl,wW,wV,simprocAttr]
        refine SU.chc (hI gg) ?_
        simp(disch:=first|omega|exact PairsOK.mk rfl|(simp only[lenW]<;>omega)) only[q,wW,wV,simprocAttr]
        exact⟨.inr trivial,_,rfl,by rw[hfe,if_pos q];rfl⟩
    · simp (disch := first | omega | exact PairsOK.mk rfl | (simp only [lenW] <;> omega)) only [hlt, wW, wV, simprocAttr]
      refine⟨(),QbH fun j hj=>hb j (by omega),?_⟩
      refine⟨[(50,.blk 50 0)],rfl,au0,?_,au17⟩
      exact RB.cells rfl rfl gg (RnL.same hnr) RB.nil
  rintro _ hbr
  rw[if_neg (fun h=>h hbr)]
  simp(disch:=first|omega|exact PairsOK.mk rfl|(simp only[lenW]<;>omega)) only[wW,wV,simprocAttr]
  refine cp hdL ?_
  simp(disch:=first|omega|exact PairsOK.mk rfl|(simp only[lenW]<;>omega)) only[wW,wV,simprocAttr]
  refine cp hdC ?_
  simp(disch:=first|omega|exact PairsOK.mk rfl|(simp only[lenW]<;>omega)) only[wW,wV,simprocAttr]
  exact⟨.inr trivial,_,rfl,rfl⟩
end Go.AM.SO
namespace Go.AM.SO
open Go.Proofs Go.AM.SD Go.AM.SE
open Go.AM.SN (Wk WkL)
def rng (i n:Nat):Aut:=⟨[2*i,2*i+1],n,[0],(List.range n).map fun k=>(k,2*i+k % 2,(k+1) % n)⟩
def mchN (i:Nat):List UInt8:=[109,97,99,104,105,110,101,UInt8.ofNat (97+i)]
def itM (m i:Nat):List UInt8×Aut:=(mchN i,rng i (if i<m then 4 else 2))
def itsM (n m:Nat):List (List UInt8×Aut):=(List.range n).map (itM m)
def evM (i:Nat):List Evn:=[⟨[115,116,97,114,116,UInt8.ofNat (97+i)],true,true,false,0⟩,⟨[102,105,110,105,115,104,UInt8.ofNat (97+i)],false,true,false,0⟩]
def evsM (n:Nat):List Evn:=(List.range n).flatMap evM
def toZ (x:List UInt8×Aut):Itn:=(x.1,au x.2)
def cM (n m:Nat):CelN:=⟨evsM n,(itsM n m).map toZ,[],[],[]⟩
theorem Qpx {i n:Nat} (hi:i<16) (h0:0<n) (h4:n<=10):WfJ (rng i n):=by
 refine⟨⟨?_,?_,?_,?_,?_,?_,?_,?_⟩,h0,h4⟩
 ·simp[rng]
 ·intro x hx;simp[rng]at hx;omega
 ·show n<=4096;omega
 ·simp[rng]
 ·intro x hx;simp[rng]at hx;subst hx;exact h0
 ·show ((List.range n).map _).Pairwise _
  rw[List.pairwise_map]
  exact List.pairwise_lt_range.imp fun h=> .inl h
 ·intro e he
  obtain⟨k,hk,rfl⟩:=List.mem_map.1 he
  have:=List.mem_range.1 hk
  exact⟨this,Nat.mod_lt _ h0⟩
 ·intro e he
  obtain⟨k,hk,rfl⟩:=List.mem_map.1 he
  show 2*i+k % 2∈[2*i,2*i+1]
  have:k % 2=0\/k % 2=1:=by omega
  rcases this with h|h<;>simp[h]
theorem QhN {n m i:Nat} {a:Aut} (h:(auJ (itsM n m))[i]?=some a):i<n/\a=rng i (if i<m then 4 else 2):=by
 unfold auJ itsM at h
 rw[List.map_map,List.getElem?_map]at h
 by_cases hi:i<n
 ·rw [List.getElem?_range hi] at h
  simp only[Option.map_some,Option.some.injEq]at h
  exact⟨hi,h.symm⟩
 ·rw[List.getElem?_eq_none (by simpa using hi)]at h;cases h
theorem Qej {n m:Nat} (hn:n<=8):∀a∈auJ (itsM n m),WfJ a:=fun a ha=>by
 obtain⟨i,hi⟩:=List.getElem?_of_mem ha
 obtain⟨h1,rfl⟩:=QhN hi
 refine Qpx (by omega) ?_ ?_<;>split<;>omega
theorem Qmh {n m:Nat} (hn:n<=8):Chain (auJ (itsM n m)):=fun i a ha k hk=>by
 obtain⟨hi,rfl⟩:=QhN ha
 have hw:=Qej hn (rng i (if i<m then 4 else 2)) (List.mem_of_getElem? ha)
 generalize (if i<m then 4 else 2)=q at*
 have hk:k+1<q:=hk
 have hmem:(k,2*i+k % 2,k+1)∈(rng i q).es:=List.mem_map.2 ⟨k,List.mem_range.2 (by omega),by rw[Nat.mod_eq_of_lt hk]⟩
 have hal:=hw.wf.ev _ hmem
 refine⟨2*i+k % 2,((Qdv (Qej hn)).2 _).2 ⟨_,List.mem_of_getElem? ha,hal⟩,hal,QeG hw.wf.es hmem,fun j b hj hb hc=>?_⟩
 obtain⟨_,rfl⟩:=QhN hb
 have:2*i+k % 2∈[2*j,2*j+1]:=hc
 simp at this
 omega
theorem Qkk {n m:Nat}:(itsM n m).length=n:=by simp[itsM]
theorem QnC {n m:Nat} (hn:n<=8):(sync0 (auJ (itsM n m))).1.length=box (auJ (itsM n m)):=
 Qoh (fun a ha=>(Qej hn a ha).pos) (fun a ha=>(Qej hn a ha).wf.esn) (Qmh hn)
theorem Qo3 (l:List (List UInt8×Aut)):itsV (l.map toZ)=itsN l:=by
 rw[itsV,itsN,List.flatMap_map,List.length_map]
 congr 2
 funext x
 simp only[itN,itV,toZ,au,<-Qdc,<-Qlr]
theorem QnD (n m:Nat):celZ (cM n m)=celJ (evsM n) (itsM n m):=by
 rw[celZ,cM,Qo3];rfl
theorem szZ_M (n m:Nat):sli (szZ (cM n m))=sliN (szJ (itsM n m)):=by
 rw[<-Qdc]
 congr 1
 simp only[szZ,cM,szJ,nz,List.map_map]
 rfl
def prsM:List (Nat×Nat):=(List.range 8).flatMap fun k=>(List.range (k+2)).map fun m=>(k+1,m)
theorem Qoi {n m:Nat} (h0:0<n) (h8:n<=8) (hm:m<=n):(n,m)∈prsM:=by
 refine List.mem_flatMap.2 ⟨n-1,List.mem_range.2 (by omega),List.mem_map.2 ⟨m,List.mem_range.2 (by omega),?_⟩⟩
 congr 1;omega
def chkM (p:Nat×Nat):Bool:=decide (celErr (cM p.1 p.2)=0)&&decide (cdErr (szZ (cM p.1 p.2)) [] []=0)&&Nat.beq (box (auJ (itsM p.1 p.2))) (2^(p.1+p.2))
theorem Qkl:prsM.all chkM=true:=by kernel_rfl
theorem box_M {n m:Nat} (h:(n,m)∈prsM):box (auJ (itsM n m))=2^(n+m):=by
 have:=List.all_eq_true.1 Qkl _ h
 simp only[chkM,Bool.and_eq_true,decide_eq_true_eq,Nat.beq_eq]at this
 exact this.2
theorem celM (n m : Nat) (h0 : 0 < n) (h8 : n <= 8) (hp : (n, m) ∈ prsM) : CelJ (evsM n) (itsM n m) := by
  have hb:=List.all_eq_true.1 Qkl _ hp
  simp only[chkM,Bool.and_eq_true,decide_eq_true_eq]at hb
  obtain⟨⟨hb1,hb2⟩,_⟩:=hb
  have hevl:(evsM n).length<=16:=by
    unfold evsM
    rw[List.length_flatMap]
    have:∀k,((List.range k).map fun i=>(evM i).length).sum=2*k:=fun k=>by
      induction k with
      |zero=>rfl
      |succ k ih=>rw[List.range_succ,List.map_append,List.sum_append,ih];simp[evM];omega
    rw[this];omega
  have hitl:((itsM n m).map toZ).length=n:=by simp[itsM]
  have hok:CelOk (cM n m):=by
    refine⟨?_,fun x hx=>?_,?_,?_,?_,?_,fun x hx=>?_,fun x hx=>(by cases hx),fun x hx=>(by cases hx),fun x hx=>(by cases hx)⟩
    · show(evsM n).length<=_;omega
    · obtain ⟨i, _, hx⟩ := List.mem_flatMap.1 (show x ∈ (List.range n).flatMap evM from hx)
      simp only[evM,List.mem_cons,List.not_mem_nil,or_false]at hx
      rcases hx with rfl|rfl<;>simp
    · show((itsM n m).map toZ).length<=_;omega
    · show([]:List Itn).length<=_;simp
    · show([]:List Exn).length<=_;simp
    · show([]:List Con).length<=_;simp
    · obtain ⟨y, hy, rfl⟩ := List.mem_map.1 (show x ∈ (itsM n m).map toZ from hx)
      obtain⟨i,hi,rfl⟩:=List.mem_map.1 (show y∈(List.range n).map (itM m) from hy)
      refine⟨?_,?_,?_,?_,?_⟩
      · simp[toZ,itM,mchN]
      · simp[toZ,itM,rng,au,nz]
      · simp[toZ,itM,rng,au,nz]
      · show (List.map eg ((List.range _).map _)).length <= _
        rw[List.length_map,List.length_map,List.length_range]
        split<;>omega
      · show ((if i < m then 4 else 2 : Nat) : Int) <= _
        split<;>omega
  refine⟨?_,?_,?_,by rw[Qkk];exact h0,by rw[Qkk];exact h8,Qej h8⟩
  · have := check21X (cM n m) hok
    rwa [hb1,QnD]at this
  · have := conds85X (cM n m) (by show ((itsM n m).map toZ).length <= _; omega) (by simp [cM]) (by simp [cM]) (fun x hx => (by cases hx)) (fun x hx => (by cases hx))
    rw[QnD]at this
    have e:cdZ (szZ (cM n m)) (cM n m).xs (cM n m).ks=cdJ (itsM n m):=by
      show AV.agg [sli (szZ (cM n m)),exsZ [],cosZ []]=_
      rw[szZ_M];rfl
    rwa [e]at this
  · have hsl : (szZ (cM n m)).length = n := by simp [szZ, cM, itsM]
    have:=conds32X (szZ (cM n m)) [] [] (by omega) (by simp) (by simp) (fun x hx=>(by cases hx)) (fun x hx=>(by cases hx))
    rw[hb2]at this
    have e:cdZ (szZ (cM n m)) [] []=cdJ (itsM n m):=by
      show AV.agg [sli (szZ (cM n m)),exsZ [],cosZ []]=_
      rw[szZ_M];rfl
    rwa [e]at this
theorem wkv {f:Nat} {args:List AV} {v v':AV} (hp:PSpec Tryz.prog f args v) (hw:Wk v v') (hn:noRef v'=true):PSpec Tryz.prog f args v':=by
 obtain⟨h1,_,h',hc,h2⟩:=hp
 refine⟨h1,hn,h',hc,fun c w cargs H ha=>(h2 c w cargs H ha).mono ?_⟩
 rintro e w' ⟨cv,c',he,E,H',V⟩
 exact⟨cv,c',he,E,H',hw _ _ _ _ V⟩
theorem wkNil {sz:Nat}:Wk .nilsl (.fsl [] 0 sz):=fun _ c w v hv=>by
 simp only[VRel]at hv⊢
 exact .inl ⟨⟨none,hv⟩,trivial,trivial⟩
theorem wkAgg {xs ys:List AV} (h:WkL xs ys):Wk (.agg xs) (.agg ys):=fun _ c w v hv=>by
 simp only[VRel]at hv⊢
 obtain⟨vs,rfl,hv⟩:=hv
 exact⟨vs,rfl,h.rels hv⟩
theorem wkTup {xs ys:List AV} (h:WkL xs ys):Wk (.tup xs) (.tup ys):=fun _ c w v hv=>by
 simp only[VRel]at hv⊢
 obtain⟨vs,rfl,hv⟩:=hv
 exact⟨vs,rfl,h.rels hv⟩
def celM0 (n m:Nat):AV:= .agg [evns (evsM n),itsN (itsM n m),.nilsl,.nilsl,.nilsl]
theorem QkK (n m:Nat):noRef (celM0 n m)=true:=by
 rw[celM0,noRef,noRefs,QbY,noRefs,QbB];rfl
def pV (n m s:Nat):AV:=if s<=4096 then .tup [.agg [sliN (syncA (auJ (itsM n m))).al,.int .i64 (s:Int),sliN (syncA (auJ (itsM n m))).ms,egsN (syncA (auJ (itsM n m))).es],.any,.int .i64 0]else .tup [.agg nl4,.nilsl,.int .i64 3]
def spS (p:Aut) (s:Nat) (P:List (List Nat)):List AV:=[sliN p.al,.int .i64 (s:Int),sliN p.ms,egsN p.es,tuV P,.fsl (P.map fun _=> .fsl [] 0 1) P.length 1,sliN (P.map fun t=>ixT P t),.nilsl]
def sV (n m s:Nat):AV:=if s<=4096 then .tup [.agg (spS (syncA (auJ (itsM n m))) s (sync0 (auJ (itsM n m))).1),.int .i64 0]else .tup [.agg nl8,.int .i64 3]
def gV (n m s:Nat):AV:=if s<4096 then .tup [.agg [sliN (syncA (auJ (itsM n m))).al,.int .i64 ((s:Int)+1),sliN (syncA (auJ (itsM n m))).ms,egsN (syncA (auJ (itsM n m))).es],.any,.int .i64 0]else .tup [.agg nl4,.nilsl,.int .i64 3]
theorem lim_M (n m : Nat) (h0 : 0 < n) (h8 : n <= 8) (hm : m <= n) :
    PSpec Tryz.prog 17 [celM0 n m] (pV n m (2^(n+m)))/\PSpec Tryz.prog 18 [celM0 n m] (sV n m (2^(n+m)))/\PSpec Tryz.prog 19 [celM0 n m] (gV n m (2^(n+m))):=by
  have hp:=Qoi h0 h8 hm
  have hc:=celM n m h0 h8 hp
  have hs:(sync0 (auJ (itsM n m))).1.length=2^(n+m):=(QnC h8).trans (box_M hp)
  have hn:noRefs [celM0 n m]=true:=by rw[noRefs,QkK];rfl
  have hw:WkL [celM0 n m] [celJ (evsM n) (itsM n m)]:=⟨wkAgg ⟨Wk.refl _,Wk.refl _,wkNil,wkNil,wkNil,trivial⟩,trivial⟩
  generalize 2^(n+m)=s at*
  by_cases hb:s<=4096
  · have hb' : (sync0 (auJ (itsM n m))).1.length <= 4096 := by omega
    have hpn:(syncA (auJ (itsM n m))).n=s:=hs
    refine⟨?_,?_,?_⟩
    · have := plant17J hc
      unfold synV at this
      rw[if_pos hb']at this
      unfold pV
      rw[if_pos hb]
      rw[aV,hpn]at this
      refine SN.PSpec.wk hw hn (wkv this (wkTup ⟨Wk.refl _,Wk.any,Wk.refl _,trivial⟩) ?_)
      simp only[noRef,noRefs,Qac,Qaf];rfl
    · have := specify18J hc hb'
      unfold sV
      rw[if_pos hb]
      rw[spJ,spK,hpn]at this
      exact SN.PSpec.wk hw hn this
    · unfold gV
      by_cases hlt:s<4096
      · have := complete19J hc (by omega)
        rw[if_pos hlt]
        rw[cpJ,hpn]at this
        refine SN.PSpec.wk hw hn (wkv this (wkTup ⟨Wk.refl _,Wk.any,Wk.refl _,trivial⟩) ?_)
        simp only[noRef,noRefs,Qac,Qaf];rfl
      · have := complete19M hc (by omega)
        rw[if_neg hlt]
        exact SN.PSpec.wk hw hn this
  · have hb' : ¬ (sync0 (auJ (itsM n m))).1.length <= 4096 := by omega
    refine⟨?_,?_,?_⟩
    · have := plant17J hc
      unfold synV at this
      rw[if_neg hb']at this
      unfold pV
      rw[if_neg hb]
      exact SN.PSpec.wk hw hn this
    · have := specify18L hc hb'
      unfold sV
      rw[if_neg hb]
      exact SN.PSpec.wk hw hn this
    · unfold gV
      have:=complete19L hc hb'
      rw[if_neg (by omega)]
      exact SN.PSpec.wk hw hn this
end Go.AM.SO
namespace Go.AM.XM
open Go.Proofs Go.AM.SO Go.AM.SD Go.AM.SE
noncomputable section
theorem QnE:∀x:Int,(Lit.int .u8 x).wf=true->∃y:Nat,y<256/\x=Int.ofNat y:=by
 intro x hx
 have h1:0<=x/\x<=255:=by
  simp[Lit.wf]at hx
  revert hx
  simp[IntKind.min,IntKind.max,IntKind.signed,IntKind.bits]
 exact⟨x.toNat,by omega,by simp;omega⟩
def isTrue:AV->Bool| .bool true=>true|_=>false
theorem Qnh:∀u,isTrue u=true->u= .bool true:=by
 intro u h
 unfold isTrue at h
 split at h
 ·rfl
 ·cases h
def kTrue (t:Nat):KcA Bool:=fun e T _ _=>match e with
 | .ret=>isTrue (lk T t)
 |_=>false
theorem Qoj {t:Nat} {e:SX} {T:Tmps} {h:Heap} {n:Nat} (hk:kTrue t e T h n=true):e= .ret/\lk T t= .bool true:=by
 unfold kTrue at hk
 cases e<;>simp only[Bool.false_eq_true]at hk
 exact⟨rfl,Qnh _ hk⟩
def rest:FCode->FCode
 | .seq _ b=>b
 |c=>c
def hd:FCode->FCode
 | .seq a _=>a
 |c=>c
section
variable {P:Program}
theorem W2_ex {t:FT2} (ht:t.OK P) {orc:Orc} (ho:OrcOK P orc) {N:NM} {d m:Nat} {a:FCode} {T:Tmps} {h:Heap} {Q:SX->St->Prop} {G:Tmps->Heap->Nat->Prop}
  (hx:exR ansP orc t.get d a T h m (fun e T h n=>e= .normal/\G T h n)) (hG:∀T h n,G T h n->Q .normal ⟨T,h⟩):W2 P N a.slim Q ⟨T,h⟩:=by
 obtain⟨e,T',h',n',⟨rfl,h1⟩,h2,_⟩:=QdT Qot ho (FT2.ok ht) d N.n a T h m _ (show ansP.holds _ from hx)
 refine(W2.of_W h2).mono ?_
 grind
theorem Qpy {t:FT2} (ht:t.OK P) {orc:Orc} (ho:OrcOK P orc) {N:NM} {d m:Nat} {c:FCode} {T:Tmps} {h:Heap} {Q:SX->St->Prop} (k:KcA Bool)
  (hx:exR ansB orc t.get d c T h m k=true) (hk:∀e T h n,k e T h n=true->Q e ⟨T,h⟩):W2 P N c.slim Q ⟨T,h⟩:=
 W2.of_W (QnS ht ho k hx hk)
end
def F:FFn:=match ft.get 3 with|some f=>f|none=>⟨0,[],.skip⟩
theorem okF:okFn Tryz.prog 3 F.slim=true:=FT2.ok ft_ok 3 F (by kernel_rfl)
theorem resF:F.res=[.tmp 4]:=by kernel_rfl
def c1:FCode:=hd F.body
def c2:FCode:=hd (rest F.body)
def c3:FCode:=hd (rest (rest F.body))
def c4:FCode:=hd (rest (rest (rest F.body)))
def c5:FCode:=hd (rest (rest (rest (rest F.body))))
def c6:FCode:=hd (hd (rest (rest (rest (rest (rest F.body))))))
def cL:FCode:=rest (hd (rest (rest (rest (rest (rest F.body))))))
def cT:FCode:=rest (rest (rest (rest (rest (rest F.body)))))
theorem F_is:F.body= .seq c1 (.seq c2 (.seq c3 (.seq c4 (.seq c5 (.seq (.seq c6 cL) cT))))):=by kernel_rfl
def x3:SCode:= .region [Zm 21 0 [],Zz 22 (.bin .rem (.t 21) (.c (.int .u8 8))) [0],Zz 23 (.conv .i64 (.t 22)) [1],Zz 24 (.bin .add (.c (.int .i64 1)) (.t 23)) [2],Zm 5 24 [3,0,1,2,3]] [] []
theorem c3_is:c3.slim=x3:=by kernel_rfl
def x6:SCode:= .region [Zm 29 1 [],Zz 30 (.conv .i64 (.t 29)) [0],Zm 31 5 [],Zz 32 (.bin .add (.t 31) (.c (.int .i64 1))) [2],Zz 33 (.bin .rem (.t 30) (.t 32)) [1,3],Zz 34 (.mov (.c (.int .i64 0))) []] [] []
theorem c6_is:c6.slim=x6:=by kernel_rfl
def orcM (n m:Nat):Orc:=fun k=>ifB (Nat.beq k 17) (some ([celM0 n m],pV n m (2^(n+m)))) (ifB (Nat.beq k 18) (some ([celM0 n m],sV n m (2^(n+m)))) (ifB (Nat.beq k 19) (some ([celM0 n m],gV n m (2^(n+m)))) none))
theorem Qo4 {n m:Nat} (h0:0<n) (h8:n<=8) (hm:m<=n):OrcOK Tryz.prog (orcM n m):=by
 obtain⟨a1,a2,a3⟩:=lim_M n m h0 h8 hm
 intro k bs w hk
 unfold orcM at hk
 simp only[Qaw,Nat.beq_eq]at hk
 split at hk
 ·rename_i e;subst e;cases hk;exact a1
 ·split at hk
  ·rename_i e;subst e;cases hk;exact a2
  ·split at hk
   ·rename_i e;subst e;cases hk;exact a3
   ·cases hk
def mapO (f:AV->Option AV):List AV->Option (List AV)
 |[]=>some []
 |v::r=>match f v with
  |some x=>(mapO f r).map (x:: ·)
  |none=>none
def fz (h:Heap) (b0:Nat):Nat->AV->Option AV
 |0=>fun v=>if noRef v then some v else none
 | d + 1 => fun v => match v with
  | .sl b g off len sz=>match h.get b with
   |some (.cells g' ds)=>if b≠b0/\g'=g/\off+len*sz<=ds.length then(mapO (fz h b0 d) ((ds.drop off).take (len*sz))).map fun cs=> .fsl cs len sz else none
   |_=>none
  | .agg cs=>(mapO (fz h b0 d) cs).map .agg
  |v=>if noRef v then some v else none
abbrev fzL (h:Heap) (b0 d:Nat) (l:List AV):Option (List AV):=mapO (fz h b0 d) l
def pz (b0:Nat):Nat->Option Src:=ow 0 [(b0,.blk b0 0)]
theorem QlJ (b0:Nat):pz b0 b0=some (.blk b0 0):=by simp[pz,ow,lkS]
theorem QfF {b0 b b' g:Nat} (h:pz b0 b'=some (.blk b g)):b'=b0/\b=b0/\g=0:=by
 simp only[pz,ow,lkS]at h
 grind
theorem fz_ok {h:Heap} {b0:Nat}:∀(d:Nat),(∀v x,fz h b0 d v=some x->Rn 0 (pz b0) h x v)/\(∀vs xs,fzL h b0 d vs=some xs->RnL 0 (pz b0) h xs vs):=by
 have key:∀d,(∀v x,fz h b0 d v=some x->Rn 0 (pz b0) h x v)->∀vs xs,fzL h b0 d vs=some xs->RnL 0 (pz b0) h xs vs:=by
  intro d hd vs
  induction vs with
  |nil=>intro xs hx;simp only[fzL,mapO,Option.some.injEq]at hx;subst hx;trivial
  | cons v r ih =>
   intro xs hx
   simp only[fzL,mapO]at hx
   cases hv:fz h b0 d v with
   |none=>rw[hv]at hx;cases hx
   |some x=>
    rw[hv]at hx
    cases hr:mapO (fz h b0 d) r with
    |none=>rw[hr]at hx;cases hx
    |some ys=>rw[hr]at hx;cases hx;exact⟨hd v x hv,ih ys hr⟩
 have leaf:∀v x:AV,(if noRef v then some v else none)=some x->Rn 0 (pz b0) h x v:=by
  intro v x hx
  split at hx
  ·rename_i hn;cases hx;exact Rn.same hn
  ·cases hx
 intro d
 induction d with
 |zero=>
  have h0:∀v x,fz h b0 0 v=some x->Rn 0 (pz b0) h x v:=by intro v x hx;exact leaf v x hx
  exact⟨h0,key 0 h0⟩
 | succ d ih =>
  have h1 : ∀ v x, fz h b0 (d + 1) v = some x -> Rn 0 (pz b0) h x v := by
   intro v x hx
   cases v with
   | sl b g off len sz =>
    simp only[fz]at hx
    split at hx
    ·rename_i g' ds hb
     split at hx
     ·rename_i hc
      obtain⟨c1,rfl,c3⟩:=hc
      cases hr:mapO (fz h b0 d) ((ds.drop off).take (len*sz))with
      |none=>rw[hr]at hx;cases hx
      |some cs=>
       rw[hr]at hx;cases hx
       exact Rn.frz hb (Nat.zero_le _) (fun b' g2 _ e=>c1 (QfF e).2.1) c3 (ih.2 _ _ hr)
     ·cases hx
    ·cases hx
   |agg cs=>
    simp only[fz]at hx
    cases hr:mapO (fz h b0 d) cs with
    |none=>rw[hr]at hx;cases hx
    |some ys=>rw[hr]at hx;cases hx;exact Rn.agg (ih.2 _ _ hr)
   |_=>exact leaf _ _ hx
  exact⟨h1,key _ h1⟩
theorem W2.one {P:Program} {N:Nat} {c:SCode} {Q:SX->St->Prop} {T:Tmps} {h:Heap} {b0 d i j:Nat} {cs fs:List AV} (hb:b0<lim) (hc:h.get b0=some (.cells 0 cs)) (hf:fzL h b0 d cs=some fs)
  (hi:lk T i= .ptr b0 0 0) (hj:noRef (lk T j)=true) (hw:W2 P ⟨N,0⟩ c Q ⟨[(i,.ptr b0 0 0),(j,lk T j)],one b0 (.cells 0 fs)⟩):W2 P ⟨N,0⟩ c Q ⟨T,h⟩:=by
 refine W2.recast (N:=⟨N,0⟩) (π:=pz b0) ⟨fun b' b g _ e=>?_,fun b1 b2 b g g2 _ _ e1 e2=>?_⟩ (fun b' x' hg=> .inr ?_) (fun b' hg=>⟨fun h=>by simp at h,fun _=>?_⟩) (RT.cons ?_ (RT.cons ?_ RT.nil)) hw
 ·obtain ⟨rfl, rfl, rfl⟩ := QfF e
  exact⟨⟨_,hc,rfl,fun k=>by simp⟩,Nat.zero_le _⟩
 ·rw[(QfF e1).1,(QfF e2).1]
 ·rw [Qhu hb] at hg
  split at hg
  ·rename_i e
   subst e
   cases hg
   refine⟨Nat.zero_le _,rfl,fun g=>by simp,?_⟩
   rw[QlJ]
   exact⟨cs,cs.length,hc,by rw[List.take_length];exact(fz_ok d).2 _ _ hf⟩
  ·cases hg
 ·rw [Qhu hb] at hg
  split at hg
  ·cases hg
  ·rename_i e
   cases hp:pz b0 b' with
   |none=>rfl
   |some s=>
    exfalso
    simp only[pz,ow,lkS]at hp
    grind
 ·rw[hi];exact Rn.ptr (Nat.zero_le _) (QlJ b0)
 ·exact Rn.same hj
mutual
def beqA:AV->AV->Bool
 | .int k a,v=>match v with
  | .int k' b=>decide (k=k')&&decide (a=b)
  |_=>false
 | .bool a,v=>match v with
  | .bool b=>a==b
  |_=>false
 | .str a,v=>match v with
  | .str b=>decide (a=b)
  |_=>false
 | .nilsl,v=>match v with
  | .nilsl=>true
  |_=>false
 | .agg a,v=>match v with
  | .agg b=>beqL a b
  |_=>false
 | .fsl a l s,v=>match v with
  | .fsl b l' s'=>beqL a b&&Nat.beq l l'&&Nat.beq s s'
  |_=>false
 |_,_=>false
termination_by structural x=>x
def beqL:List AV->List AV->Bool
 |[],v=>match v with
  |[]=>true
  |_=>false
 |x::xs,v=>match v with
  |y::ys=>beqA x y&&beqL xs ys
  |_=>false
termination_by structural x=>x
end
mutual
theorem QlK:∀(x y:AV),beqA x y=true->x=y:=by
 intro x y h
 cases x with
 |agg a=>cases y<;>simp[beqA]at h;rw[Qek _ _ h]
 |fsl a l s=>cases y<;>simp[beqA]at h;obtain⟨⟨h1,rfl⟩,rfl⟩:=h;rw[Qek _ _ h1]
 |int k a=>cases y<;>simp_all [beqA]
 |bool a=>cases y<;>simp_all [beqA]
 |str a=>cases y<;>simp_all [beqA]
 |nilsl=>cases y<;>simp_all [beqA]
 |_=>simp[beqA]at h
theorem Qek:∀(x y:List AV),beqL x y=true->x=y:=by
 intro x y h
 cases x with
 |nil=>cases y<;>simp_all [beqL]
 | cons a r =>
  cases y with
  |nil=>simp[beqL]at h
  |cons b s=>
   simp only[beqL,Bool.and_eq_true]at h
   rw[QlK _ _ h.1,Qek _ _ h.2]
end
def ansE:Ans Bool:=⟨false,fun x y b=>beqL x y&&b,fun b=>b=true⟩
theorem Qo5:ansE.OK:=⟨fun h=>(by cases h),fun x y p h=>by
  have h:(beqL x y&&p)=true:=h
  rw[Bool.and_eq_true]at h
  exact⟨Qek _ _ h.1,h.2⟩⟩
theorem Qpz {P:Program} {t:FT2} (ht:t.OK P) {orc:Orc} (ho:OrcOK P orc) {N:NM} {d m:Nat} {c:FCode} {T:Tmps} {h:Heap} {Q:SX->St->Prop} (k:KcA Bool)
  (hx:exR ansE orc t.get d c T h m k=true) (hk:∀e T h n,k e T h n=true->Q e ⟨T,h⟩):W2 P N c.slim Q ⟨T,h⟩:=by
 obtain⟨e,T',h',n',h1,h2,_⟩:=QdT Qo5 ho (FT2.ok ht) d N.n c T h m k hx
 exact(W2.of_W h2).mono fun e' B ⟨e1,e2⟩=>by subst e1;subst e2;exact hk _ _ _ _ h1
def celC0 (n m:Nat):List AV:=[evns (evsM n),itsN (itsM n m),.nilsl,.nilsl,.nilsl]
def tailB (n m:Nat) (b0:Nat):Bool:=exR ansE (orcM n m) ft.get 100000 cT [(6,.ptr b0 0 0),(7,.int .i64 (Int.ofNat (2^(n+m))))] (one b0 (.cells 0 (celC0 n m))) 5000 (kTrue 4)
def midB (n m:Nat) (T:Tmps) (h:Heap):Bool:=match lk T 6 with
 | .ptr b0 g0 o0 => Nat.beq g0 0 && Nat.beq o0 0 && Nat.ble (b0 + 1) lim && (match h.get b0 with
  |some (.cells g cs)=>Nat.beq g 0&&(match fzL h b0 6 cs with
   |some fs=>beqL fs (celC0 n m)&&beqA (lk T 7) (.int .i64 (Int.ofNat (2^(n+m))))&&tailB n m b0
   |none=>false)
  |_=>false)
 |_=>false
def loopB (n m:Nat) (v6 v7:AV) (h:Heap):Bool:=
 exR ansB noOrc ft.get 100000 cL [(34,.int .i64 0),(33,.int .i64 (Int.ofNat m)),(6,v6),(7,v7)] h 5000 fun e T h _=>match e with
 | .normal=>midB n m T h
 |_=>false
def G5 (n:Nat) (b:Int) (T:Tmps) (h:Heap) (_:Nat):Prop:=lk T 1= .int .u8 b/\lk T 5= .int .i64 (Int.ofNat n)/\((List.range (n+1)).all fun m=>loopB n m (lk T 6) (lk T 7) h)=true
def G4 (n:Nat) (b:Int) (T:Tmps) (h:Heap) (k:Nat):Prop:=exR ansP noOrc ft.get 100000 c5 T h k (fun e T h k=>e= .normal/\G5 n b T h k)
def X4 (n:Nat) (b:Int):Prop:=exR ansP noOrc ft.get 100000 c4 [(1,.int .u8 b),(5,.int .i64 (Int.ofNat n))] .e 64 (fun e T h k=>e= .normal/\G4 n b T h k)
theorem x4 (n:Nat) (b:Int) (h:(SX.normal=SX.normal/\SX.normal=SX.normal/\AV.int .u8 b= .int .u8 b/\AV.int .i64 (Int.ofNat n)= .int .i64 (Int.ofNat n)/\true=true)=X4 n b):X4 n b:=by
 rw[<-h];exact⟨rfl,rfl,rfl,rfl,rfl⟩
theorem x4_1 (b:Int):X4 1 b:=x4 1 b (by kernel_rfl)
theorem x4_2 (b:Int):X4 2 b:=x4 2 b (by kernel_rfl)
theorem x4_3 (b:Int):X4 3 b:=x4 3 b (by kernel_rfl)
theorem x4_4 (b:Int):X4 4 b:=x4 4 b (by kernel_rfl)
theorem x4_5 (b:Int):X4 5 b:=x4 5 b (by kernel_rfl)
theorem x4_6 (b:Int):X4 6 b:=x4 6 b (by kernel_rfl)
theorem x4_7 (b:Int):X4 7 b:=x4 7 b (by kernel_rfl)
theorem x4_8 (b:Int):X4 8 b:=x4 8 b (by kernel_rfl)
theorem QpA (n:Nat) (b:Int) (h0:0<n) (h8:n<=8):X4 n b:=by
 have h:n=1\/n=2\/n=3\/n=4\/n=5\/n=6\/n=7\/n=8:=by omega
 rcases h with rfl|rfl|rfl|rfl|rfl|rfl|rfl|rfl
 ·exact x4_1 b
 ·exact x4_2 b
 ·exact x4_3 b
 ·exact x4_4 b
 ·exact x4_5 b
 ·exact x4_6 b
 ·exact x4_7 b
 ·exact x4_8 b
def G2 (a b:Int) (T:Tmps) (h:Heap) (_:Nat):Prop:=lk T 0= .int .u8 a/\lk T 1= .int .u8 b/\h= .e
def G1 (a b:Int) (T:Tmps) (h:Heap) (m:Nat):Prop:=exR ansP (orc1 15 (.bool true)) ft.get 1000 c2 T h m (fun e T h m=>e= .normal/\G2 a b T h m)
theorem front (a b:Int):(SX.normal=SX.normal/\(([]:List AV)=[]/\(SX.normal=SX.normal/\(AV.int .u8 a= .int .u8 a/\AV.int .u8 b= .int .u8 b/\(Tr.e:Heap)= .e))))=
  exR ansP (orc1 15 (.bool true)) ft.get 1000 c1 [(0,.int .u8 a),(1,.int .u8 b)] .e 64 (fun e T h m=>e= .normal/\G1 a b T h m):=by kernel_rfl
theorem sub2 {T:Tmps} {i j:Nat} {x y:AV} (h1:lk T i=x) (h2:lk T j=y):Sub [(i,x),(j,y)] T:=by
 intro k
 rw[QaD,QaD]
 by_cases e:i=k
 ·subst e;exact .inr (by rw[if_pos rfl];exact h1.symm)
 ·rw [if_neg e]
  by_cases e:j=k
  ·subst e;exact .inr (by rw[if_pos rfl];exact h2.symm)
  ·rw[if_neg e];exact .inl rfl
theorem sub4 {T:Tmps} {i j k l:Nat} {x y z w:AV} (h1:lk T i=x) (h2:lk T j=y) (h3:lk T k=z) (h4:lk T l=w):Sub [(i,x),(j,y),(k,z),(l,w)] T:=by
 intro q
 rw[QaD,QaD,QaD,QaD]
 by_cases e:i=q
 ·subst e;exact .inr (by rw[if_pos rfl];exact h1.symm)
 ·rw [if_neg e]
  by_cases e:j=q
  ·subst e;exact .inr (by rw[if_pos rfl];exact h2.symm)
  ·rw [if_neg e]
   by_cases e:k=q
   ·subst e;exact .inr (by rw[if_pos rfl];exact h3.symm)
   ·rw [if_neg e]
    by_cases e:l=q
    ·subst e;exact .inr (by rw[if_pos rfl];exact h4.symm)
    ·rw[if_neg e];exact .inl rfl
theorem walk3 (a b:Nat) (ha:a<256) (hb:b<256):W2 Tryz.prog ⟨F.n,0⟩ x3 (fun e B=>e= .normal/\lk B.T 1= .int .u8 (Int.ofNat b)/\lk B.T 5= .int .i64 (Int.ofNat (1+a % 8))/\B.h= .e) ⟨[(0,.int .u8 (Int.ofNat a)),(1,.int .u8 (Int.ofNat b))],.e⟩:=by
 refine(wpC.toW (n:=40) (Q:=fun e T h _=>e= .normal/\lk T 1= .int .u8 (Int.ofNat b)/\lk T 5= .int .i64 (Int.ofNat (1+a % 8))/\h= .e) (show wS Tryz.prog ⟨F.n,0⟩ x3 [] 40 _ _ _ from ?_)).mono fun e B ⟨_,h⟩=>h
 have e1:(Int.ofNat a).tmod 8=Int.ofNat (a % 8):=by
  show(Int.ofNat a).tmod (Int.ofNat 8)=_
  simp[Int.tmod]
 have e2:Int.ofNat (1+a % 8)=1+Int.ofNat (a % 8):=rfl
 have h8:(Int.ofNat (a % 8):Int)<8:=Int.ofNat_lt.2 (Nat.mod_lt a (by omega:0<8))
 have h0:(0:Int)<=Int.ofNat (a % 8):=Int.natCast_nonneg _
 rw[e2]
 generalize Int.ofNat (a % 8)=R at*
 simp(maxSteps:=1000000) (disch:=first|omega|exact PairsOK.mk rfl|(simp only[lenW]<;>omega)) only[x3,e1,wordsN,Int.reduceGT,wordsR,ne_eq,Qdl,Qc0,Qcj,Qc1,Qc2,Qc3,Qdi,Qdj,Qdk,QdV,Qez,words,Nat.reduceAdd,Nat.reduceEqDiff,Nat.reduceBEq,↓reduceIte,reduceCtorEq,SX.exit.injEq,if_true,if_false,Int.reduceAdd,Int.reduceSub,Int.reduceMul,Int.reduceLT,Int.reduceLE,Int.reduceEq,Int.reduceNe,Int.reduceNeg,Int.reduceToNat,Nat.reduceMul,Nat.reduceLT,Nat.reduceSub,Nat.reduceLeDiff]
theorem walk6 (n b:Nat) (hn:n<=8) (hb:b<256) (v6 v7:AV) (H:Heap):W2 Tryz.prog ⟨F.n,0⟩ x6 (fun e B=>e= .normal/\lk B.T 34= .int .i64 0/\lk B.T 33= .int .i64 (Int.ofNat (b % (n+1)))/\lk B.T 6=v6/\lk B.T 7=v7/\B.h=H) ⟨[(1,.int .u8 (Int.ofNat b)),(5,.int .i64 (Int.ofNat n)),(6,v6),(7,v7)],H⟩:=by
 refine(wpC.toW (n:=40) (Q:=fun e T h _=>e= .normal/\lk T 34= .int .i64 0/\lk T 33= .int .i64 (Int.ofNat (b % (n+1)))/\lk T 6=v6/\lk T 7=v7/\h=H) (show wS Tryz.prog ⟨F.n,0⟩ x6 [] 40 _ _ _ from ?_)).mono fun e B ⟨_,h⟩=>h
 have e1:(Int.ofNat b).tmod (Int.ofNat n+1)=Int.ofNat (b % (n+1)):=by
  show(Int.ofNat b).tmod (Int.ofNat (n+1))=_
  simp[Int.tmod]
 have h8:(Int.ofNat n:Int)<=8:=by simp;omega
 have h0:(0:Int)<=Int.ofNat n:=by simp
 have h9:(Int.ofNat b:Int)<256:=by simp;omega
 have h1:(0:Int)<=Int.ofNat b:=by simp
 have hm:(Int.ofNat (b % (n+1)):Int)<=8:=Int.ofNat_le.2 (show b % (n+1)<=8 by have:=Nat.mod_lt b (show 0<n+1 by omega);omega)
 have hm0:(0:Int)<=Int.ofNat (b % (n+1)):=Int.natCast_nonneg _
 generalize Int.ofNat (b % (n+1))=R at*
 generalize Int.ofNat b=B at*
 generalize Int.ofNat n=N at*
 simp(maxSteps:=1000000) (disch:=first|omega|exact PairsOK.mk rfl|(simp only[lenW]<;>omega)) only[x6,e1,wordsN,Int.reduceGT,wordsR,ne_eq,Qdl,Qc0,Qcj,Qc1,Qc2,Qc3,Qdi,Qdj,Qdk,QdV,Qez,words,Nat.reduceAdd,Nat.reduceEqDiff,Nat.reduceBEq,↓reduceIte,reduceCtorEq,SX.exit.injEq,if_true,if_false,Int.reduceAdd,Int.reduceSub,Int.reduceMul,Int.reduceLT,Int.reduceLE,Int.reduceEq,Int.reduceNe,Int.reduceNeg,Int.reduceToNat,Nat.reduceMul,Nat.reduceLT,Nat.reduceSub,Nat.reduceLeDiff]
theorem law3 (a b:Int) (wa:(Lit.int .u8 a).wf=true) (wb:(Lit.int .u8 b).wf=true):
  W2 Tryz.prog ⟨F.slim.n,0⟩ F.slim.body (fun e B=>(e= .normal\/e= .ret)/\resV B.T B.h F.slim.res=some [.bool true]) ⟨argT 0 [.int .u8 a,.int .u8 b],.e⟩:=by
 obtain⟨a,ha,rfl⟩:=QnE a wa
 obtain⟨b,hb,rfl⟩:=QnE b wb
 show W2 Tryz.prog ⟨F.n,0⟩ F.body.slim (fun e B=>(e= .normal\/e= .ret)/\resV B.T B.h F.res=some [.bool true]) ⟨[(0,.int .u8 (Int.ofNat a)),(1,.int .u8 (Int.ofNat b))],.e⟩
 rw[resF,F_is]
 have hx:=(front (Int.ofNat a) (Int.ofNat b)).mp ⟨rfl,rfl,rfl,rfl,rfl,rfl⟩
 refine W2.seq (W2_ex ft_ok (Qle SK.known15) hx fun T h m hG=>?_)
 refine W2.seq (W2_ex ft_ok (Qle SK.known15) hG fun T h m hG=>?_)
 obtain⟨g0,g1,rfl⟩:=hG
 refine W2.weak (sub2 g0 g1) ?_
 refine W2.seq ?_
 rw[c3_is]
 refine(walk3 a b ha hb).mono ?_
 rintro e ⟨T,h⟩ ⟨rfl,g1,g5,rfl⟩
 have hn:1+a % 8<=8:=by omega
 have hn0:0<1+a % 8:=by omega
 generalize 1+a % 8=n at*
 refine W2.weak (sub2 g1 g5) ?_
 refine W2.seq (W2_ex ft_ok QdM (QpA n (Int.ofNat b) hn0 hn) fun T h m hG=>?_)
 refine W2.seq (W2_ex ft_ok QdM hG fun T h m hG=>?_)
 obtain⟨g1,g5,hT⟩:=hG
 refine W2.weak (sub4 g1 g5 (rfl:lk T 6=lk T 6) (rfl:lk T 7=lk T 7)) ?_
 refine W2.seq (W2.seq ?_)
 rw[c6_is]
 refine(walk6 n b hn hb _ _ _).mono ?_
 rintro e ⟨T',h'⟩ ⟨rfl,g34,g33,g6,g7,rfl⟩
 have hm:b % (n+1)<=n:=by have:=Nat.mod_lt b (show 0<n+1 by omega);omega
 generalize b % (n+1)=m at*
 have ht:=List.all_eq_true.1 hT m (List.mem_range.2 (by omega))
 refine W2.weak (sub4 g34 g33 g6 g7) ?_
 refine Qpy ft_ok QdM _ ht fun e T h k hk=>?_
 cases e<;>simp only[Bool.false_eq_true]at hk
 unfold midB at hk
 split at hk
 ·rename_i b0 g0 o0 hp
  simp only[Bool.and_eq_true,Nat.beq_eq]at hk
  obtain⟨⟨⟨rfl,rfl⟩,hl⟩,hk⟩:=hk
  split at hk
  ·rename_i g cs hc
   simp only[Bool.and_eq_true,Nat.beq_eq]at hk
   obtain⟨rfl,hk⟩:=hk
   split at hk
   ·rename_i fs hf
    simp only[Bool.and_eq_true]at hk
    obtain⟨⟨e1,e2⟩,hk⟩:=hk
    have e1:=Qek _ _ e1
    have e2:=QlK _ _ e2
    subst e1
    refine W2.one (j:=7) (Nat.le_of_ble_eq_true hl) hc hf hp (by rw[e2];rfl) ?_
    rw[e2]
    refine Qpz ft_ok (Qo4 hn0 hn hm) _ hk fun e T h k hk=>?_
    obtain⟨rfl,hk2⟩:=Qoj hk
    refine⟨.inr rfl,?_⟩
    show resV T h [.tmp 4]=_
    rw[show resV T h [.tmp 4]=some [lk T 4] from rfl,hk2]
   ·cases hk
  ·cases hk
 ·cases hk
end
end Go.AM.XM
