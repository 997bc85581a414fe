/- A part of the proof of GuardsChecksCardSaid: lemmas on the way (AnCw, AnCyc, AnCyd, AnCyb, AnCye, AnCyf, AnCyh, AnCyg, AnCyi, AnCyj, AnCr, AnCzg, AnUb, AnUk, AnUc, AmTo, AmTy, AnUh, AnUi, AnUz, AnUe, AnUg, AnUj, AnUf, AnUd, AnUl, AnUm, AnUn, AnUo, AnUp, AnGj, AnQg, AnCzf, AnUq, AnUr). Conditions: none of ours. -/
import Derived.Test.YtikknocmfjfohaaGreatDoorProg
import Derived.KernelRfl
import Derived.Test.YtikknocmfjfohaaGreatDoorAmG11
set_option linter.unusedSectionVars false
set_option maxHeartbeats 32000000
set_option maxRecDepth 100000
set_option linter.unusedVariables false
set_option linter.unusedSimpArgs false
namespace Go.AM.GJ
open Go.Proofs
set_option maxHeartbeats 4000000
noncomputable section
def cf:YA.Cf:={}
noncomputable def ft:FT2:=YA.tre Tryz.prog cf 20 [8,13,14,23,31,35,41,44,45,46,47,48,49,50,51,52,53,62,64,65,66,69,70,71,76,77,78,83,84,86,88,95,98,99,100,101,102,103,104,105,106,107,108,109,110,111,112,113,114,115,116,117,118,119,120,121,122,123,127,128,129,130,131,132,133,139,142,144,146,147,151,152,154,155,156,157,158,159,160,161,162,163,164,165,166,167,168,169,170,171,172,173,174,175,176,177,178,179,182,183,191,192,193,194,195,196,197,198,199,200,201,202,203,204,205,206,207,208,209,210,211,212,213,214,215,216,217,218,219,220,221,222,223,224,225,226,227,228,229,230,231,232,233,234,236,237,245,251,252,253,254,255,256,257,258,259,260,261,262,263,264,265,266,267,268,269,270,271,272,276,277,278,279,280,281,282,283,284,286,287,288,289,290,291]
theorem ft_ok:ft.OK Tryz.prog:=YA.Qgx _ _ (YA.QfU (by kernel_rfl))
end
end Go.AM.GJ
namespace Go.AM.GJ
open Go.Proofs
noncomputable section
def isT:AV->Bool| .bool true=>true|_=>false
theorem QpB:∀u,isT u=true->u= .bool true:=by
 intro u h
 unfold isT at h
 split at h
 ·rfl
 ·cases h
theorem known29:PSpec Tryz.prog 8 [] (.bool true):=
 QbJ (t:=ft) ft_ok Qds (d:=100000) isT QpB (by kernel_rfl)
end
end Go.AM.GJ
namespace Go.AM.SO
open Go.Proofs Go.AM.SD Go.AM.SE
theorem short25 (p:Pln) (h:POk p) (hx:p.xn<=9223372036854775807):PSpec Tryz.prog 9 [plnV p] (.bool (decide (p.xn<=4))):=by
 refine PSpec.Qag 64 ok9 rfl (by simp only[noRefs,noRef,SU.QcZ];rfl) rfl ?_
 have hlen:=SU.Qg1 h
 have hone:=SU.Qg2 h
 have a147:(plnC p)[147]?=some (.fsl (u8s p.X) p.xn 4):=SU.QdY h (k:=0)
 show wS _ _ _ _ _ (argT 0 [.agg (plnC p)]) _ _
 generalize plnC p=C at*
 have e:decide ((p.xn:Int)<=4)=decide (p.xn<=4):=decide_eq_decide.2 (by omega)
 simp(disch:=first|omega|(simp only[lenW]<;>omega)) only[s9,hlen,hone,a147,e,wW,wV,simprocAttr]
 exact⟨.inr trivial,_,rfl,rfl⟩
end Go.AM.SO
namespace Go.AM.SO
open Go.Proofs Go.AM.SD Go.AM.SE
theorem fstG {l:List Gdn}:∀(i:Nat) {x:Gdn},l[i]?=some x->∃f g,l[f]?=some g/\g.ev=x.ev/\f<=i/\∀(j:Nat) y,j<f->l[j]?=some y->y.ev≠x.ev
 | i, x, hx => by
  by_cases h:∃j y,j<i/\l[j]?=some y/\y.ev=x.ev
  ·obtain ⟨j, y, hj, hy, he⟩ := h
   obtain⟨f,g,h1,h2,h3,h4⟩:=fstG j hy
   exact⟨f,g,h1,by rw[h2,he],by omega,fun k z hk hz=>by rw[<-he];exact h4 k z hk hz⟩
  ·exact⟨i,x,hx,rfl,Nat.le_refl _,fun j y hj hy he=>h ⟨j,y,hj,hy,he⟩⟩
theorem GdsR.one {l:List Gdn} (h:GdsR l) {g:Gdn} (hg:g∈l):GdsR [g]:=
 ⟨by simp,fun x hx=>by rw[List.mem_singleton.1 hx];exact h.bl g hg,fun x hx=>by rw[List.mem_singleton.1 hx];exact h.ll g hg⟩
theorem QoG {l:List Gdn} {k:Nat} {g:Gdn} (h:l[k]?=some g):((l.flatMap gdC).drop (k*2)).take 2=[.int .i64 g.ev,bxsV g.bs]:=by
 rw[Qbc h];rfl
theorem Qk4 {l:List Gdn}:((l.flatMap gdC).drop 2).take ((l.length-1)*2)=(l.drop 1).flatMap gdC:=by
 cases l with
 |nil=>rfl
 |cons x l=>
  show(l.flatMap gdC).take (l.length*2)=l.flatMap gdC
  rw[<-QeP,List.take_length]
theorem law7 (p : Pln) (h : POk p) (hxn : p.xn <= 9223372036854775807) (l : List Gdn) (hr : GdsR l) (t : List Int) (ht : t.length <= 9223372036854775807) :
    W2 Tryz.prog ⟨UK.s7.n,0⟩ UK.s7.body (fun e B=>(e= .normal\/e= .ret)/\resV B.T B.h UK.s7.res=some [.bool true]) ⟨argT 0 [plnV p,gdsV l,sli t],.e⟩:=by
  refine(wpC.toW (n:=40) (Q:=fun e T h _=>(e= .normal\/e= .ret)/\resV T h UK.s7.res=some [.bool true]) (show wS Tryz.prog ⟨UK.s7.n,0⟩ UK.s7.body [] 40 _ _ _ from ?_)).mono fun e B ⟨_,h⟩=>h
  have hkn:=GJ.known29
  have hlen:=SU.Qg1 h
  have hone:=SU.Qg2 h
  have hnr:=@SU.QcZ p
  have hS:=short25 p h hxn
  have hM:=SU.Make26 p h
  have hw:=@Qo5 p
  have hF:=few33 l hr
  have htk:(plnC p).take 152=plnC p:=by rw[<-hlen,List.take_length]
  show wS _ _ _ _ _ (argT 0 [.agg (plnC p),gdsV l,sli t]) _ _
  have hS':PSpec Tryz.prog 9 [.agg (plnC p)] (.bool (decide (p.xn<=4))):=hS
  have hM':PSpec Tryz.prog 42 [.agg (plnC p)] (celV (mkC p)):=hM
  clear hS hM
  generalize plnC p=C at*
  generalize mkC p=c at*
  have hsm:=small10 c hw C hlen hone hnr hM'
  by_cases h4:p.xn<=4
  · rw [decide_eq_true h4] at hS'
    cases hf:fewG l with
    | false =>
      rw[hf]at hF
      simp(disch:=first|omega|exact PairsOK.mk rfl|(simp only[lenW]<;>omega)) only[UK.s7,hlen,hone,htk,wW,wV,simprocAttr]
      refine cp hkn ?_
      simp(disch:=first|omega|exact PairsOK.mk rfl|(simp only[lenW]<;>omega)) only[hlen,htk,wW,wV,simprocAttr]
      refine cp hS' ?_
      simp(disch:=first|omega|exact PairsOK.mk rfl|(simp only[lenW]<;>omega)) only[hlen,htk,wW,wV,simprocAttr]
      refine cp hF ?_
      simp(disch:=first|omega|exact PairsOK.mk rfl|(simp only[lenW]<;>omega)) only[wW,wV,simprocAttr]
      refine cp hkn ?_
      simp(disch:=first|omega|exact PairsOK.mk rfl|(simp only[lenW]<;>omega)) only[wW,wV,simprocAttr]
      exact⟨.inr trivial,rfl⟩
    | true =>
      rw[hf]at hF
      by_cases h6:(6:Int)<(t.length:Int)
      · simp (disch := first | omega | exact PairsOK.mk rfl | (simp only [lenW] <;> omega)) only [UK.s7, hlen, hone, htk, wW, wV, simprocAttr]
        refine cp hkn ?_
        simp(disch:=first|omega|exact PairsOK.mk rfl|(simp only[lenW]<;>omega)) only[hlen,htk,wW,wV,simprocAttr]
        refine cp hS' ?_
        simp(disch:=first|omega|exact PairsOK.mk rfl|(simp only[lenW]<;>omega)) only[hlen,htk,wW,wV,simprocAttr]
        refine cp hF ?_
        simp(disch:=first|omega|exact PairsOK.mk rfl|(simp only[lenW]<;>omega)) only[h6,wW,wV,simprocAttr]
        refine cp hkn ?_
        simp(disch:=first|omega|exact PairsOK.mk rfl|(simp only[lenW]<;>omega)) only[wW,wV,simprocAttr]
        exact⟨.inr trivial,rfl⟩
      simp(disch:=first|omega|exact PairsOK.mk rfl|(simp only[lenW]<;>omega)) only[UK.s7,hlen,hone,htk,wW,wV,simprocAttr]
      refine cp hkn ?_
      simp(disch:=first|omega|exact PairsOK.mk rfl|(simp only[lenW]<;>omega)) only[hlen,htk,wW,wV,simprocAttr]
      refine cp hS' ?_
      simp(disch:=first|omega|exact PairsOK.mk rfl|(simp only[lenW]<;>omega)) only[hlen,htk,wW,wV,simprocAttr]
      refine cp hF ?_
      simp(disch:=first|omega|exact PairsOK.mk rfl|(simp only[lenW]<;>omega)) only[h6,hlen,htk,wW,wV,simprocAttr]
      refine cp hsm ?_
      have hck:=check34 c hw l hr
      have hcK:=check35 c hw l hr
      simp(disch:=first|omega|exact PairsOK.mk rfl|(simp only[lenW]<;>omega)) only[wW,wV,simprocAttr]
      refine cp hck ?_
      simp(disch:=first|omega|exact PairsOK.mk rfl|(simp only[lenW]<;>omega)) only[wW,wV,simprocAttr]
      refine cp hcK ?_
      obtain⟨hl4,hGS⟩:=few_S hf
      have hEq:=equal36 l l hl4 hl4 hGS hGS
      rw[Qh8]at hEq
      simp(disch:=first|omega|exact PairsOK.mk rfl|(simp only[lenW]<;>omega)) only[wW,wV,simprocAttr]
      refine cp hEq ?_
      have hnc:=Qa6 c
      by_cases h0:(0:Int)<(l.length:Int)
      · have hd4 : (l.drop 1).length <= 4 := by rw [List.length_drop]; omega
        have hdS:∀x∈l.drop 1,GdS x:=fun x hx=>hGS x (List.mem_of_mem_drop hx)
        have hE2:=equal36 l (l.drop 1) hl4 hd4 hGS hdS
        have hS2:=same16 l (l.drop 1) hl4 hd4 hGS hdS
        have hdv:gdsV (l.drop 1)= .fsl ((l.drop 1).flatMap gdC) (l.length-1) 2:=by rw[gdsV,List.length_drop]
        rw[hdv]at hE2 hS2
        simp(disch:=first|omega|exact PairsOK.mk rfl|(simp only[lenW]<;>omega)) only[h0,Qk4,wW,wV,simprocAttr]
        refine cp hE2 ?_
        simp(disch:=first|omega|exact PairsOK.mk rfl|(simp only[lenW]<;>omega)) only[Qk4,wW,wV,simprocAttr]
        refine ch (HSpec.lend (FrzL.same _) hS2 rfl) ?_
        have hbb:∀b:Bool,aEq (.flat false [.b]) true (.bool b) (.bool b)=some (.bool false):=fun b=>by cases b<;>rfl
        simp(disch:=first|omega|exact PairsOK.mk rfl|(simp only[lenW]<;>omega)) only[hbb,wW,wV,simprocAttr]
        clear hE2 hS2 hEq hM' hS' hF hsm
        have hck1:=fun g (hg:g∈l)=>check34 c hw [g] (hr.one hg)
        have hpm1:=fun g (hg:g∈l)=>permits38 c hw g (hr.one hg) t ht
        have hex1:=fun g (hg:g∈l) h0=>expr28X c hw g (hr.one hg) h0
        have hlo:=loop19X c hw l hr
        have hve:=verify23X c hw l hr
        have hte:=text31X c hw l hr
        have hli:=lits32X c hw l hr
        have hv12:=vars12 c hw
        have hwi:=within39 (vrsL c) t (by have:=Qdx hw;omega) ht
        generalize gdsE (ctC c) (vrsL c) l=e at*
        refine Qal 300 (fun i:Nat=>[(1,gdsV l),(2,sli t),(7,.ptr 51 0 0),(9,.int .i64 e),(10,.int .i64 i)]) (fun _=>[(51,.cells 0 [evsV c.ev,its 99 c.cs,its 114 c.rs,exs c.xs,cos c.ks])]) (fun i=>i<=l.length) (fun i=>l.length-i) 0 ?_ (Nat.zero_le _) ?_
        · refine ⟨[(51, .blk 64 0)], rfl, au0, ?_, au25⟩
          exact RB.cells rfl rfl gg (RnL.same hnc) RB.nil
        rintro i hi
        by_cases hlt:i<l.length
        · obtain ⟨x, hx⟩ := Qad hlt
          have hxm:=List.mem_of_getElem? hx
          have hdr:=Qbc hx
          have hdl:2<=((l.flatMap gdC).drop (i*2)).length:=by rw[hdr];simp
          obtain⟨f,g,hfg,hge,hfi,hfb⟩:=fstG i hx
          have hgm:=List.mem_of_getElem? hfg
          have hFd:=find37 l x.ev (by omega) hfg hge (hGS g hgm) hfb
          simp(disch:=first|omega|exact PairsOK.mk rfl|(simp only[lenW]<;>omega)) only[hlt,hdr,hdl,wW,wV,simprocAttr]
          refine cp hFd ?_
          simp(disch:=first|omega|exact PairsOK.mk rfl|(simp only[lenW]<;>omega)) only[wW,wV,simprocAttr]
          have hfl:=Qbl hfg
          refine Qal 340 (fun j:Nat=>[(1,gdsV l),(2,sli t),(7,.ptr 51 0 0),(9,.int .i64 e),(10,.int .i64 i),(11,.ptr 52 0 0),(12,.bool true),(13,.int .i64 j)]) (fun _=>[(51,.cells 0 [evsV c.ev,its 99 c.cs,its 114 c.rs,exs c.xs,cos c.ks]),(52,.cells 0 [.int .i64 g.ev,bxsV g.bs])]) (fun j=>j<=f) (fun j=>f-j) 0 ?_ (Nat.zero_le _) ?_
          · refine ⟨[(51, .blk 51 0), (52, .blk 314 0)], rfl, au0, ?_, au25⟩
            exact RB.cells rfl rfl gg (RnL.same hnc) (RB.cells rfl rfl gg (RnL.same (by simp only[noRefs,noRef,Qax];rfl)) RB.nil)
          rintro j hj
          have hlj:j<l.length:=by omega
          by_cases ej:j=f
          · subst ej
            have hdr2:=Qbc hfg
            have hdl2:2<=((l.flatMap gdC).drop (j*2)).length:=by rw[hdr2];simp
            have hpt:=QoG hfg
            have n1:((j:Int)+1).toNat-j=1:=by omega
            have hk:∀(u v:AV) (r:List AV),List.take ((((j:Int)+1).toNat-j)*2) (u::v::r)=[u,v]:=fun u v r=>by rw[n1];rfl
            have hsm1:PSpec Tryz.prog 16 [.fsl [.int .i64 x.ev,bxsV g.bs] 1 2,.fsl [.int .i64 x.ev,bxsV g.bs] 1 2] (.bool true):=by
              have h1:=same16 [g] [g] (by simp) (by simp) (fun y hy=>by rw[List.mem_singleton.1 hy];exact hGS g hgm) (fun y hy=>by rw[List.mem_singleton.1 hy];exact hGS g hgm)
              rw[Qh8]at h1
              rw[<-hge];exact h1
            simp(disch:=first|omega|exact PairsOK.mk rfl|(simp only[lenW]<;>omega)) only[hlt,hdr,hdl,hlj,hdr2,hdl2,hge,hk,n1,wW,wV,simprocAttr]
            refine ch (HSpec.lend (FrzL.cons (FrzTo.sl (cs:=[.int .i64 x.ev,bxsV g.bs]) (ys:=[.int .i64 x.ev,bxsV g.bs]) gg (by show 0+1*2<=2;decide) (FrzL.same _)) (FrzL.cons (FrzTo.same _) FrzL.nil)) hsm1 rfl) ?_
            simp(disch:=first|omega|exact PairsOK.mk rfl|(simp only[lenW]<;>omega)) only[hlt,hdr,hdl,wW,wV,simprocAttr]
            refine cp (hpm1 x hxm) ?_
            have m1:((i:Int)+1).toNat-i=1:=by omega
            have hm:∀(u v:AV) (r:List AV),List.take ((((i:Int)+1).toNat-i)*2) (u::v::r)=[u,v]:=fun u v r=>by rw[m1];rfl
            have hc1:PSpec Tryz.prog 34 [celV c,.fsl [.int .i64 x.ev,bxsV x.bs] 1 2] (.int .i64 (g1E c x)):=hck1 x hxm
            simp(disch:=first|omega|exact PairsOK.mk rfl|(simp only[lenW]<;>omega)) only[hlt,hdr,hdl,hm,m1,wW,wV,simprocAttr]
            refine cp hc1 ?_
            by_cases z0:g1E c x=0
            · rw [z0] at hc1
              have hbx:=Qm4 z0
              cases w0:wiV (vrsL c) t with
              | true =>
                rw[w0]at hwi
                have hwl:=wiV_len' w0
                have hin:=within40 x.bs t (hr.bl x hxm) (fun b hb=>⟨by rw[(hbx b hb).1];exact hwl,by rw[(hbx b hb).2.1];exact hwl⟩) ht
                have p1:pmE c x t=0:=by unfold pmE;rw[if_pos z0,if_pos w0]
                have p2:pmB c x t=inBs x.bs t:=by unfold pmB;rw[decide_eq_true z0,w0];rfl
                rw[p1,p2,z0]
                simp(disch:=first|omega|exact PairsOK.mk rfl|(simp only[lenW]<;>omega)) only[wW,wV,simprocAttr]
                refine cp hv12 ?_
                simp(disch:=first|omega|exact PairsOK.mk rfl|(simp only[lenW]<;>omega)) only[wW,wV,simprocAttr]
                refine cp hwi ?_
                simp(disch:=first|omega|exact PairsOK.mk rfl|(simp only[lenW]<;>omega)) only[hlt,hdr,hdl,wW,wV,simprocAttr]
                refine cp hin ?_
                simp(disch:=first|omega|exact PairsOK.mk rfl|(simp only[lenW]<;>omega)) only[hbb,wW,wV,simprocAttr]
                simp(disch:=first|omega|exact PairsOK.mk rfl|(simp only[lenW]<;>omega)) only[hlt,hdr,hdl,hm,m1,wW,wV,simprocAttr]
                refine cp hc1 ?_
                simp(disch:=first|omega|exact PairsOK.mk rfl|(simp only[lenW]<;>omega)) only[wW,wV,simprocAttr]
                exact⟨i+1,by omega,by omega,⟨[(51,.blk 51 0)],rfl,au0,au26,au25⟩⟩
              | false =>
                rw[w0]at hwi
                have p1:pmE c x t=2:=by unfold pmE;rw[if_pos z0,w0];rfl
                have p2:pmB c x t=false:=by unfold pmB;rw[w0,Bool.false_and,Bool.and_false]
                rw[p1,p2,z0]
                simp(disch:=first|omega|exact PairsOK.mk rfl|(simp only[lenW]<;>omega)) only[wW,wV,simprocAttr]
                refine cp hv12 ?_
                simp(disch:=first|omega|exact PairsOK.mk rfl|(simp only[lenW]<;>omega)) only[wW,wV,simprocAttr]
                refine cp hwi ?_
                simp(disch:=first|omega|exact PairsOK.mk rfl|(simp only[lenW]<;>omega)) only[hlt,hdr,hdl,hbb,hm,m1,wW,wV,simprocAttr]
                refine cp hc1 ?_
                simp(disch:=first|omega|exact PairsOK.mk rfl|(simp only[lenW]<;>omega)) only[wW,wV,simprocAttr]
                exact⟨i+1,by omega,by omega,⟨[(51,.blk 51 0)],rfl,au0,au26,au25⟩⟩
            · have p1 : pmE c x t = g1E c x := by unfold pmE; rw [if_neg z0]
              have p2:pmB c x t=false:=by unfold pmB;rw[decide_eq_false z0,Bool.false_and]
              have hxx:=hex1 x hxm z0
              rw[p1,p2]
              simp(disch:=first|omega|exact PairsOK.mk rfl|(simp only[lenW]<;>omega)) only[z0,hbb,hlt,hdr,hdl,hm,m1,wW,wV,simprocAttr]
              refine cp hc1 ?_
              simp(disch:=first|omega|exact PairsOK.mk rfl|(simp only[lenW]<;>omega)) only[z0,wW,wV,simprocAttr]
              refine QgA [] rfl rfl ?_
              simp(disch:=first|omega|exact PairsOK.mk rfl|(simp only[lenW]<;>omega)) only[hlt,hdr,hdl,wW,wV,simprocAttr]
              refine cp hxx ?_
              simp(disch:=first|omega|exact PairsOK.mk rfl|(simp only[lenW]<;>omega)) only[wW,wV,simprocAttr]
              exact⟨trivial,i+1,by omega,by omega,⟨[(51,.blk 51 0)],rfl,au0,au26,au25⟩⟩
          · obtain ⟨y, hy⟩ := Qad (l := l) (i := j) (by omega)
            have hne:=hfb j y (by omega) hy
            have hdr2:=Qbc hy
            have hdl2:2<=((l.flatMap gdC).drop (j*2)).length:=by rw[hdr2];simp
            simp(disch:=first|omega|exact PairsOK.mk rfl|(simp only[lenW]<;>omega)) only[hlt,hdr,hdl,hlj,hdr2,hdl2,hne,wW,wV,simprocAttr]
            exact⟨j+1,by omega,by omega,⟨[(51,.blk 51 0),(52,.blk 52 0)],rfl,au0,au26,au25⟩⟩
        · have ei : i = l.length := by omega
          by_cases e0:e=0
          · simp (disch := first | omega | exact PairsOK.mk rfl | (simp only [lenW] <;> omega)) only [hlt, e0, wW, wV, simprocAttr]
            exact⟨.inr trivial,rfl⟩
          · have q1 := hlo e0
            have q2:=hve e0
            have q3:=hte e0
            have q4:=hli e0
            simp(disch:=first|omega|exact PairsOK.mk rfl|(simp only[lenW]<;>omega)) only[hlt,e0,wW,wV,simprocAttr]
            refine cp q1 ?_
            simp(disch:=first|omega|exact PairsOK.mk rfl|(simp only[lenW]<;>omega)) only[wW,wV,simprocAttr]
            refine cp q3 ?_
            simp(disch:=first|omega|exact PairsOK.mk rfl|(simp only[lenW]<;>omega)) only[wW,wV,simprocAttr]
            refine cp q4 ?_
            simp(disch:=first|omega|exact PairsOK.mk rfl|(simp only[lenW]<;>omega)) only[wW,wV,simprocAttr]
            refine cp q2 ?_
            have hs:aBin BinOp.eql (.str []) (.str [])=some (.bool true):=rfl
            simp(disch:=first|omega|exact PairsOK.mk rfl|(simp only[lenW]<;>omega)) only[hs,wW,wV,simprocAttr]
            exact⟨.inr trivial,rfl⟩
      · have hl0 : l.length = 0 := by omega
        have e0:gdsE (ctC c) (vrsL c) l=0:=by unfold gdsE;rw[hl0];rfl
        have hnl:∀i:Nat,¬(i:Int)<(l.length:Int):=fun i=>by omega
        simp(disch:=first|omega|exact PairsOK.mk rfl|(simp only[lenW]<;>omega)) only[h0,wW,wV,simprocAttr]
        refine Qal 300 (fun i:Nat=>[(1,gdsV l),(2,sli t),(7,.ptr 51 0 0),(9,.int .i64 0),(10,.int .i64 i)]) (fun _=>[(51,.cells 0 [evsV c.ev,its 99 c.cs,its 114 c.rs,exs c.xs,cos c.ks])]) (fun i=>True) (fun i=>0) 0 ?_ trivial ?_
        · rw [e0]
          refine⟨[(51,.blk 64 0)],rfl,au0,?_,au25⟩
          exact RB.cells rfl rfl gg (RnL.same hnc) RB.nil
        rintro i _
        have hlt:¬i<l.length:=by omega
        simp(disch:=first|omega|exact PairsOK.mk rfl|(simp only[lenW]<;>omega)) only[hlt,wW,wV,simprocAttr]
        exact⟨.inr trivial,rfl⟩
  · rw [decide_eq_false h4] at hS'
    simp(disch:=first|omega|exact PairsOK.mk rfl|(simp only[lenW]<;>omega)) only[UK.s7,hlen,hone,htk,wW,wV,simprocAttr]
    refine cp hkn ?_
    simp(disch:=first|omega|exact PairsOK.mk rfl|(simp only[lenW]<;>omega)) only[hlen,htk,wW,wV,simprocAttr]
    refine cp hS' ?_
    simp(disch:=first|omega|exact PairsOK.mk rfl|(simp only[lenW]<;>omega)) only[wW,wV,simprocAttr]
    refine cp hkn ?_
    simp(disch:=first|omega|exact PairsOK.mk rfl|(simp only[lenW]<;>omega)) only[wW,wV,simprocAttr]
    exact⟨.inr trivial,rfl⟩
theorem okg7:okFn Tryz.prog 7 UK.s7=true:=UK.ok7
end Go.AM.SO
namespace Go.AM.SO
open Go.Proofs Go.AM.SD Go.AM.SE
theorem glaw7_in (d0:tyPln.D) (d1:tyGds.D) (d2:(Ty.sl tyI).D) (h0:tyPln.wf d0) (h1:tyGds.wf d1) (h2:(Ty.sl tyI).wf d2):
  W2 Tryz.prog ⟨UK.s7.n,0⟩ UK.s7.body (fun e B=>(e= .normal\/e= .ret)/\resV B.T B.h UK.s7.res=some [.bool true]) ⟨argT 0 [tyPln.val d0,tyGds.val d1,(Ty.sl tyI).val d2],.e⟩:=by
 obtain⟨p,hp,hl,e0⟩:=Qpy h0
 obtain⟨t,ht,e2⟩:=ints_in' d2 h2
 rw[e0,cGds,e2]
 exact law7 p hp hl _ (Qpz h1) t ht
end Go.AM.SO
