/- A part of the proof of GuardsTextsCardSaid: lemmas on the way (AnYm, AnVz, AnYn). Conditions: none of ours. -/
import Derived.Test.YtikknocmfjfohaaGreatDoorAmU16
set_option linter.unusedSectionVars false
set_option maxHeartbeats 32000000
set_option maxRecDepth 100000
set_option linter.unusedVariables false
set_option linter.unusedSimpArgs false
namespace Go.AM.SO
open Go.Proofs Go.AM.SD Go.AM.SE
theorem QqQ {c:Cel}:∀x∈vrsL c,x.1.length=2:=by
 intro x hx
 unfold vrsL at hx
 rcases List.mem_append.1 hx with hx|hx
 ·obtain⟨y,_,rfl⟩:=List.mem_map.1 hx;rfl
 ·obtain⟨y,_,rfl⟩:=List.mem_map.1 hx;rfl
theorem QqR {v:List (List UInt8×Int)} (h5:v.length<=5) (hin:∀x∈v,0<=x.2/\x.2<=2) {bs:List Bxn} (hb:∀b∈bs,BxOk v b):∃k e:Int,PSpec Tryz.prog 29 [.agg (xpC (whE v bs)),.int .i64 v.length] (.tup [.int .i64 k,.int .i64 e])/\(bs.length=0->e=0):=by
  by_cases h0:bs.length=0
  · refine ⟨2, 0, ?_, fun _ => rfl⟩
    unfold whE
    rw[if_pos h0]
    exact chkF29 (by omega)
  · obtain ⟨e, h⟩ := chk29 (bt_wh hin hb) (show v.length <= 16 by omega)
    exact⟨_,e,h,fun h=>absurd h h0⟩
theorem _root_.Go.AM.au37 {p:Prop} (h:p:=by repeat (first|exact RT.nil|(refine RT.cons ?_ ?_; · (first|exact Rn.any|exact Rn.x1 rfl rfl|exact Rn.x2 rfl rfl|exact Rn.x3 rfl rfl|exact Rn.x4 rfl rfl|exact Rn.x5 rfl|exact Rn.x6 rfl|exact Rn.x7 rfl|(refine Rn.slot ?_ ?_;(first|rfl|(rw[Int.natCast_add];rfl));(first|rfl|(simp only[noRef,noRefs,Qah,Bool.and_self,Bool.and_true,Bool.true_and,Qaa,Qat,Qaf,Qbw,Qa5,Qi0,Qaq,SU.QbG,SU.Qbd,SU.QbY,Qi1,Qi2,Qax,QaD,Qav,Qbs,Qcr,QoW];done)))|(refine Rn.fn ?_ ?_<;>(repeat' (first|exact RnL.nil|refine RnL.cons ?_ ?_|exact Rn.same rfl|exact Rn.x6 rfl|exact Rn.x2 rfl rfl|exact Rn.x5 rfl|exact Rn.x1 rfl rfl))))))):p:=h
theorem law6 (p : Pln) (h : POk p) (hxn : p.xn <= 9223372036854775807) (D : List Nat) (hD : D.length = 125) (hDl : ∀ x ∈ D, x < 256) :
    W2 Tryz.prog ⟨XJ.s6.n,0⟩ XJ.s6.body (fun e B=>(e= .normal\/e= .ret)/\resV B.T B.h XJ.s6.res=some [.bool true]) ⟨argT 0 [plnV p,.agg (u8s D)],.e⟩:=by
  refine(wpC.toW (n:=40) (Q:=fun e T h _=>(e= .normal\/e= .ret)/\resV T h XJ.s6.res=some [.bool true]) (show wS Tryz.prog ⟨XJ.s6.n,0⟩ XJ.s6.body [] 40 _ _ _ from ?_)).mono fun e B ⟨_,h⟩=>h
  have hkn:=GJ.known29
  have hlen:=SU.QhS h
  have hone:=SU.QhT h
  have hnr:=@SU.Qdy p
  have hS:=short25 p h hxn
  have hM:=SU.Make26 p h
  have hw:=@Qqi p
  have hnu:noRefs (u8s D)=true:=QaL D
  have hDL:(u8s D).length=125:=by rw[SU.Qcj];exact hD
  have hDo:=QfI D
  have hDk:(u8s D).take 125=u8s D:=by rw[<-hDL,List.take_length]
  have htk:(plnC p).take 152=plnC p:=by rw[<-hlen,List.take_length]
  show wS _ _ _ _ _ (argT 0 [.agg (plnC p),.agg (u8s D)]) _ _
  have hS':PSpec Tryz.prog 9 [.agg (plnC p)] (.bool (decide (p.xn<=4))):=hS
  have hM':PSpec Tryz.prog 42 [.agg (plnC p)] (celV (mkC p)):=hM
  clear hS hM
  generalize plnC p=C at*
  generalize mkC p=c at*
  have hsm:=small10 c hw C hlen hone hnr hM'
  by_cases h4:p.xn<=4
  · rw [decide_eq_true h4] at hS'
    have hcel:=Qb1 c
    obtain⟨l,hL18,hg⟩:=QqP c hw D hD hDl [] QqN
    have hL18:PSpec Tryz.prog 18 [.agg (u8s D),celV c,.nilsl] (gdsV l):=wka hL18 ⟨SN.Wk.refl _,SN.Wk.refl _,wkNilG,trivial⟩ (by rw[noRefs,noRef,hnu,noRefs,SU.Qbb];rfl)
    have hv12:=vars12 c hw
    have h5:=Qce hw
    have hok:=vok_c hw
    have hn:=@QqQ c
    have hl5:=hg.len
    have q31:=text31 c hw l hg hn
    have q32:=lits32 c hw l hg
    have q28:∀g∈l,∀{k e:Int},PSpec Tryz.prog 29 [.agg (xpC (whE (vrsL c) g.bs)),.int .i64 (vrsL c).length] (.tup [.int .i64 k,.int .i64 e])->PSpec Tryz.prog 28 [celV c,gdV g] (jnV (vrsL c) g.bs e):=fun g hgm k e hck=>expr28 c hw g (hg.one hgm) hck
    generalize vrsL c=v at*
    simp(disch:=first|omega|exact PairsOK.mk rfl|(simp only[lenW]<;>omega)) only[XJ.s6,hlen,hone,htk,hDL,hDo,hDk,QaC,QaN,QaO,wW,wV,simprocAttr]
    refine cp hkn ?_
    simp(disch:=first|omega|exact PairsOK.mk rfl|(simp only[lenW]<;>omega)) only[hlen,htk,QaC,QaN,QaO,wW,wV,simprocAttr]
    refine cp hS' ?_
    simp(disch:=first|omega|exact PairsOK.mk rfl|(simp only[lenW]<;>omega)) only[hlen,htk,QaC,QaN,QaO,wW,wV,simprocAttr]
    refine cp hsm ?_
    simp(disch:=first|omega|exact PairsOK.mk rfl|(simp only[lenW]<;>omega)) only[hDL,hDo,hDk,QaC,QaN,QaO,wW,wV,simprocAttr]
    refine cp hL18 ?_
    simp(disch:=first|omega|exact PairsOK.mk rfl|(simp only[lenW]<;>omega)) only[QaC,QaN,QaO,wW,wV,simprocAttr]
    refine cp hv12 ?_
    simp(disch:=first|omega|exact PairsOK.mk rfl|(simp only[lenW]<;>omega)) only[QaC,QaN,QaO,wW,wV,simprocAttr]
    refine Qaz 400 (fun i:Nat=>[(5,.ptr 51 0 0),(7,gdsV l),(8,vrsV v),(9,.str (gTx v l i)),(10,.int .i64 (gNm v l i:Nat)),(11,.int .i64 i)]) (fun i=>[(51,.cells 0 [evsV c.ev,its 99 c.cs,its 114 c.rs,exs c.xs,cos c.ks])]) (fun i=>i<=l.length) (fun i=>l.length-i) 0 0 900 (fun _:Unit=>[(5,.ptr 51 0 0),(7,gdsV l),(9,.str (gTx v l l.length)),(10,.int .i64 (gNm v l l.length:Nat))]) (fun _=>[(51,.cells 0 [evsV c.ev,its 99 c.cs,its 114 c.rs,exs c.xs,cos c.ks])]) (fun _=>True) ?_ (Nat.zero_le _) ?_ ?_
    · refine ⟨[(51, .blk 55 0)], rfl, au0, ?_, au37⟩
      exact RB.cells rfl rfl gg (RnL.same hcel) RB.nil
    · rintro i hi
      have hTl:=(QfM hn h5 hok.hin hg i hi).1
      by_cases hlt:i<l.length
      · obtain ⟨g, hx⟩ := Qaj hlt
        have hm:=List.mem_of_getElem? hx
        have hdr:=QcM hx
        have hdl:2<=((l.flatMap gdC).drop (i*2)).length:=by rw[hdr];simp
        have hbl:=hg.bl g hm
        have hbx:=hg.bx g hm
        have hW:=whole26 v g.bs h5 hok.hin hn hbl hbx
        have h27:=lits27 v hok g.bs hbl hbx
        obtain⟨k,e,hck,he0⟩:=QqR h5 hok.hin hbx
        have hE:=q28 g hm hck
        have hEq:=eq_bt (bt_wh hok.hin hbx)
        have hll:=(QhW hn h5 hok.hin hg hm).2.2
        have hnm:=QhX h5 hg (i+1) (by omega)
        have hs:gTx v l (i+1)=gTx v l i++gLn v g:=by rw[gTx,QaB hx]
        have hsn:gNm v l (i+1)=gNm v l i+ltsN v g.bs g.bs.length:=by rw[gNm,QaB hx]
        rw[hsn]at hnm
        have hev:=(hg.ev g hm).1
        have n1:=QaM (whE v g.bs)
        have n2:=Qa8 (whE v g.bs)
        have n3:=Qbu (whE v g.bs)
        unfold eqS at hEq
        unfold jnV at hE
        unfold gLn at hs
        generalize xpC (whE v g.bs)=W at*
        obtain⟨p0,p1,p2,p3,rfl⟩:=four W n2
        have r1:putR [.int .i64 0,.int .i64 0,.int .i64 0,.nilsl] 0 [p0,p1,p2,p3]=[p0,p1,p2,p3]:=rfl
        generalize whT v g.bs=S at*
        generalize ltsN v g.bs g.bs.length=N at*
        generalize gTx v l i=O at*
        generalize gNm v l i=M at*
        obtain⟨ev,bs⟩:=g
        dsimp only at*
        obtain⟨q,rfl⟩:∃k:Nat,ev=(k:Int):=⟨ev.toNat,by omega⟩
        have hq5:q<5:=by omega
        have hqi:(q:Int)<5:=by omega
        have hde:=QeY c.ev hq5
        have hdf:5<=((evsC c.ev).drop (q*5)).length:=by rw[hde];simp
        simp(disch:=first|omega|exact PairsOK.mk rfl|(simp only[lenW]<;>omega)) only[hlt,hdr,hdl,QaC,QaN,QaO,wW,wV,simprocAttr]
        refine cp hW ?_
        simp(disch:=first|omega|exact PairsOK.mk rfl|(simp only[lenW]<;>omega)) only[n3,r1,hdr,hdl,hlt,hqi,hde,hdf,QaC,QaN,QaO,wW,wV,simprocAttr]
        refine cp h27 ?_
        simp(disch:=first|omega|exact PairsOK.mk rfl|(simp only[lenW]<;>omega)) only[hdr,hdl,hlt,hqi,hde,hdf,QaC,QaN,QaO,wW,wV,simprocAttr]
        refine QbM [] rfl rfl ?_
        simp(disch:=first|omega|exact PairsOK.mk rfl|(simp only[lenW]<;>omega)) only[hdr,hdl,hlt,QaC,QaN,QaO,wW,wV,simprocAttr]
        by_cases hq:bs.length=0\/e=0
        · have he : e = 0 := hq.elim he0 id
          subst he
          rw[if_pos hq]at hE
          refine cp hE ?_
          simp(disch:=first|omega|exact PairsOK.mk rfl|(simp only[lenW]<;>omega)) only[n3,r1,QaC,QaN,QaO,wW,wV,simprocAttr]
          refine⟨trivial,?_⟩
          refine cp hck ?_
          simp(disch:=first|omega|exact PairsOK.mk rfl|(simp only[lenW]<;>omega)) only[n3,r1,QaC,QaN,QaO,wW,wV,simprocAttr]
          refine cp hEq ?_
          simp(disch:=first|omega|exact PairsOK.mk rfl|(simp only[lenW]<;>omega)) only[QaC,QaN,QaO,wW,wV,simprocAttr]
          refine⟨i+1,by omega,by omega,?_⟩
          have hs2:gTx v l (i+1)=O++[UInt8.ofNat (97+q)]++[32,119,104,101,110,32]++S++[10]:=by
            rw[hs];simp only[List.append_assoc];rfl
          rw[hs2,hsn,Int.natCast_add]
          refine⟨[(51,.blk 51 0)],rfl,au0,?_,au37⟩
          exact RB.cells rfl rfl gg (RnL.same hcel) RB.nil
        · have he : ¬ e = 0 := fun h => hq (.inr h)
          rw[if_neg hq]at hE
          refine cp hE ?_
          simp(disch:=first|omega|exact PairsOK.mk rfl|(simp only[lenW]<;>omega)) only[n3,r1,QaC,QaN,QaO,wW,wV,simprocAttr]
          refine⟨trivial,?_⟩
          refine cp hck ?_
          simp(disch:=first|omega|exact PairsOK.mk rfl|(simp only[lenW]<;>omega)) only[he,QaC,QaN,QaO,wW,wV,simprocAttr]
          refine⟨i+1,by omega,by omega,?_⟩
          have hs2:gTx v l (i+1)=O++[UInt8.ofNat (97+q)]++[32,119,104,101,110,32]++S++[10]:=by
            rw[hs];simp only[List.append_assoc];rfl
          rw[hs2,hsn,Int.natCast_add]
          refine⟨[(51,.blk 51 0)],rfl,au0,?_,au37⟩
          exact RB.cells rfl rfl gg (RnL.same hcel) RB.nil
      · have e : i = l.length := by omega
        subst e
        simp(disch:=first|omega|exact PairsOK.mk rfl|(simp only[lenW]<;>omega)) only[hlt,QaC,QaN,QaO,wW,wV,simprocAttr]
        refine⟨(),⟨[(51,.blk 51 0)],rfl,au0,?_,au37⟩⟩
        exact RB.cells rfl rfl gg (RnL.same hcel) RB.nil
    rintro _ _
    simp(disch:=first|omega|exact PairsOK.mk rfl|(simp only[lenW]<;>omega)) only[QaC,QaN,QaO,wW,wV,simprocAttr]
    refine cp q31 ?_
    simp(disch:=first|omega|exact PairsOK.mk rfl|(simp only[lenW]<;>omega)) only[QaC,QaN,QaO,wW,wV,simprocAttr]
    refine cp q32 ?_
    simp(disch:=first|omega|exact PairsOK.mk rfl|(simp only[lenW]<;>omega)) only[show ∀a b:List UInt8,aBin .eql (.str a) (.str b)=some (.bool (decide (a=b))) from fun _ _=>rfl,QaC,QaN,QaO,wW,wV,simprocAttr]
    exact⟨.inr trivial,rfl⟩
  · rw [decide_eq_false h4] at hS'
    simp(disch:=first|omega|exact PairsOK.mk rfl|(simp only[lenW]<;>omega)) only[XJ.s6,hlen,hone,htk,hDL,hDo,hDk,QaC,QaN,QaO,wW,wV,simprocAttr]
    refine cp hkn ?_
    simp(disch:=first|omega|exact PairsOK.mk rfl|(simp only[lenW]<;>omega)) only[hlen,htk,QaC,QaN,QaO,wW,wV,simprocAttr]
    refine cp hS' ?_
    simp(disch:=first|omega|exact PairsOK.mk rfl|(simp only[lenW]<;>omega)) only[QaC,QaN,QaO,wW,wV,simprocAttr]
    refine cp hkn ?_
    simp(disch:=first|omega|exact PairsOK.mk rfl|(simp only[lenW]<;>omega)) only[QaC,QaN,QaO,wW,wV,simprocAttr]
    exact⟨.inr trivial,rfl⟩
theorem okg6:okFn Tryz.prog 6 XJ.s6=true:=XJ.ok6
end Go.AM.SO
namespace Go.AM.SO
open Go.Proofs Go.AM.SD Go.AM.SE
abbrev tyDrf:Ty:= .arr 5 (.st (.pair (.int .u8) (.pair (.arr 2 (.arr 6 (.arr 2 (.int .u8)))) .unit)))
theorem QqS {d:tyDrf.D} (h:tyDrf.wf d):∃D:List Nat,D.length=125/\(∀x∈D,x<256)/\tyDrf.val d= .agg (u8s D):=by
 obtain⟨l,h1,h2,h3⟩:=Qb4 tyDrf rfl d h
 exact⟨l,h1,h2,congrArg AV.agg h3⟩
end Go.AM.SO
namespace Go.AM.SO
open Go.Proofs Go.AM.SD Go.AM.SE
theorem glaw6_in (d0:tyPln.D) (d1:tyDrf.D) (h0:tyPln.wf d0) (h1:tyDrf.wf d1):
  W2 Tryz.prog ⟨XJ.s6.n,0⟩ XJ.s6.body (fun e B=>(e= .normal\/e= .ret)/\resV B.T B.h XJ.s6.res=some [.bool true]) ⟨argT 0 [tyPln.val d0,tyDrf.val d1],.e⟩:=by
 obtain⟨p,hp,hl,e0⟩:=QqK h0
 obtain⟨D,hD,hDl,e1⟩:=QqS h1
 rw[e0,e1]
 exact law6 p hp hl D hD hDl
end Go.AM.SO
