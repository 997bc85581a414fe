/- A part of the proof of GuardsTextsCardSaid: lemmas on the way (AnVj, AnVp, AnVt, AnXx, AnXz, AnXj, AnVx, AnGj). Conditions: none of ours. -/
import Derived.Test.YtikknocmfjfohaaGreatDoorProg
import Derived.KernelRfl
import Derived.Test.YtikknocmfjfohaaGreatDoorAmU14
set_option linter.unusedSectionVars false
set_option maxHeartbeats 32000000
set_option maxRecDepth 100000
set_option linter.unusedVariables false
set_option linter.unusedSimpArgs false
namespace Go.AM.SO
open Go.Proofs Go.AM.SD Go.AM.SE
section
variable (v:List (List UInt8×Int)) (D:List Nat)
def dAt (k:Nat):Int:=((D.getD k 0:Nat):Int)
def dLo (e i k:Nat):Int:=dAt D (e*25+1+i*12+k*2) % ((v.getD k vr0).2+1)
def dHi (e i k:Nat):Int:=dLo v D e i k+dAt D (e*25+1+i*12+k*2+1) % ((v.getD k vr0).2+1-dLo v D e i k)
def dBx (e i n:Nat):Bxn:=⟨(List.range n).map (dLo v D e i),(List.range n).map (dHi v D e i)⟩
def dKd (e:Nat):Nat:=D.getD (e*25) 0 % 4
variable (ct:Nat->Bool) (own:List Gdn) (fd:Nat->Int)
def drG (e:Nat):Gdn:=if dKd D e=1/\0<=fd e then own.getD (fd e).toNat gd0 else⟨(e:Int),(List.range (dKd D e-1)).map fun i=>dBx v D e i v.length⟩
def drQ:Nat->List Gdn
 |0=>[]
 |e+1=>if ct e=true/\dKd D e≠0 then drQ e++[drG v D own fd e]else drQ e
end
theorem Ql4 {v:List (List UInt8×Int)} {D:List Nat} {ct:Nat->Bool} {own:List Gdn} {fd:Nat->Int}:∀e,(drQ v D ct own fd e).length<=e
 |0=>Nat.le_refl _
 |e+1=>by
  have:=@Ql4 v D ct own fd e
  rw[drQ]
  split
  ·rw[List.length_append];simp;omega
  ·omega
theorem QkB {v:List (List UInt8×Int)} {D:List Nat} {e i k:Nat}:dBx v D e i (k+1)=⟨(dBx v D e i k).lo++[dLo v D e i k],(dBx v D e i k).hi++[dHi v D e i k]⟩:=by
 unfold dBx;rw[List.range_succ,List.map_append,List.map_append];rfl
theorem Qfz {D:List Nat} {k:Nat} (h:k<D.length):(u8s D)[k]?=some (.int .u8 (dAt D k)):=by
 rw[SU.Qkv h];rfl
theorem Qhw {v:List (List UInt8×Int)} {D:List Nat} {e i k:Nat} {x:List UInt8×Int} (hx:v[k]?=some x) (h2:0<=x.2):0<=dLo v D e i k/\dLo v D e i k<=x.2:=by
 unfold dLo
 rw[QaB hx]
 have h1:=Int.emod_nonneg (dAt D (e*25+1+i*12+k*2)) (show x.2+1≠0 by omega)
 have h3:=Int.emod_lt_of_pos (dAt D (e*25+1+i*12+k*2)) (show 0<x.2+1 by omega)
 omega
theorem QkC {v:List (List UInt8×Int)} {D:List Nat} {e i k:Nat} {x:List UInt8×Int} (hx:v[k]?=some x) (h2:0<=x.2):dLo v D e i k<=dHi v D e i k/\dHi v D e i k<=x.2:=by
 have h:=@Qhw v D e i k x hx h2
 unfold dHi
 rw[QaB hx]
 have h1:=Int.emod_nonneg (dAt D (e*25+1+i*12+k*2+1)) (show x.2+1-dLo v D e i k≠0 by omega)
 have h3:=Int.emod_lt_of_pos (dAt D (e*25+1+i*12+k*2+1)) (show 0<x.2+1-dLo v D e i k by omega)
 omega
theorem Qhx {D:List Nat} (h:∀x∈D,x<256) (k:Nat):0<=dAt D k/\dAt D k<256:=by
  unfold dAt
  by_cases hk:k<D.length
  · obtain ⟨x, hx⟩ := Qaj hk
    have:=h x (List.mem_of_getElem? hx)
    rw[QaB hx];omega
  · rw [List.getD_eq_getElem?_getD, List.getElem?_eq_none (by omega)]
    exact⟨Int.le_refl _,by decide⟩
theorem _root_.Go.AM.au34 {p:Prop} (h:p:=by repeat (first|exact RT.nil|(refine RT.cons ?_ ?_; · (first|exact Rn.any|exact Rn.x1 rfl rfl|exact Rn.x2 rfl rfl|exact Rn.x3 rfl rfl|exact Rn.x4 rfl rfl|exact Rn.x5 rfl|exact Rn.x6 rfl|exact Rn.x7 rfl|(refine Rn.slot ?_ ?_;(first|rfl|(rw[Int.natCast_add];rfl));(first|rfl|(simp only[noRef,noRefs,Qah,Bool.and_self,Bool.and_true,Bool.true_and,Qaa,Qat,Qaf,Qa5,Qi0,Qaq,SU.QbG,SU.Qbd,SU.QbY,Qi1,Qi2,Qax,QaD,Qav,Qbs,Qcr];done)))|(refine Rn.fn ?_ ?_<;>(repeat' (first|exact RnL.nil|refine RnL.cons ?_ ?_|exact Rn.same rfl|exact Rn.x6 rfl|exact Rn.x2 rfl rfl|exact Rn.x5 rfl|exact Rn.x1 rfl rfl))))))):p:=h
theorem list18 (D : List Nat) (hD : D.length = 125) (hDl : ∀ x ∈ D, x < 256) (c : Cel) (own : List Gdn) (hol : own.length <= 1000) (fd : Nat -> Int) (hfd : ∀ e : Nat, e < 5 -> PSpec Tryz.prog 61 [gdsV own, .int .i64 (e : Int)] (.int .i64 (fd e))) (hfl : ∀ e, e < 5 -> fd e < own.length) (v : List (List UInt8 × Int)) (h5 : v.length <= 5) (hin : ∀ x ∈ v, 0 <= x.2 /\ x.2 <= 2) (hv : PSpec Tryz.prog 12 [celV c] (vrsV v)) :
    PSpec Tryz.prog 18 [.agg (u8s D),celV c,gdsV own] (gdsV (drQ v D (ctC c) own fd 5)):=by
  have hnc:=Qb1 c
  have hnu:noRefs (u8s D)=true:=QaL D
  have hDL:(u8s D).length=125:=by rw[SU.Qcj];exact hD
  refine PSpec.of_rn 64 VK.ok18 rfl (by rw[noRefs,noRef,hnu,noRefs,SU.Qbb,noRefs,Qby];rfl) (Qby _) ?_
  simp(disch:=first|omega|exact PairsOK.mk rfl|(simp only[lenW]<;>omega)) only[VK.s18,QaC,QaN,QaO,wW,wV,simprocAttr]
  refine cp hv ?_
  simp(disch:=first|omega|exact PairsOK.mk rfl|(simp only[lenW]<;>omega)) only[QaC,QaN,QaO,wW,wV,simprocAttr]
  refine Qaz 200 (fun e:Nat=>[(2,gdsV own),(3,.ptr 50 0 0),(4,.ptr 51 0 0),(7,vrsV v),(8,.sl 71 0 0 (drQ v D (ctC c) own fd e).length 2),(9,.int .i64 e)]) (fun e=>[(50,.cells 0 (u8s D)),(51,.cells 0 [evsV c.ev,its 99 c.cs,its 114 c.rs,exs c.xs,cos c.ks]),(71,.cells 0 ((drQ v D (ctC c) own fd e).flatMap gdC))]) (fun e=>e<=5) (fun e=>5-e) 0 0 300 (fun _:Unit=>[(8,gdsV (drQ v D (ctC c) own fd 5))]) (fun _=>[]) (fun _=>True) ?_ (Nat.zero_le _) ?_ ?_
  · refine ⟨[(50, .blk 64 0), (51, .blk 65 0), (71, .nil)], rfl, au0, ?_, au34⟩
    exact RB.cells rfl rfl gg (RnL.same hnu) (RB.cells rfl rfl gg (RnL.same hnc) (RB.newnil rfl rfl RB.nil))
  · rintro e he
    have hst:drQ v D (ctC c) own fd (e+1)=if ctC c e=true/\dKd D e≠0 then drQ v D (ctC c) own fd e++[drG v D own fd e]else drQ v D (ctC c) own fd e:=rfl
    have hXn:=@Ql4 v D (ctC c) own fd e
    by_cases hlt:e<5
    · have hdr := QeY c.ev hlt
      have hdl:5<=((evsC c.ev).drop (e*5)).length:=by rw[hdr];simp
      have hlti:(e:Int)<5:=by omega
      have hk0:=@Qfz D (e*25) (by omega)
      have hkt:(dAt D (e*25)).tmod 4=(dKd D e:Nat):=by unfold dAt dKd;rw[Int.tmod_eq_emod_of_nonneg (by omega)];omega
      have hk4:dKd D e<4:=by unfold dKd;omega
      have hG:drG v D own fd e=if dKd D e=1/\0<=fd e then own.getD (fd e).toNat gd0 else⟨(e:Int),(List.range (dKd D e-1)).map fun i=>dBx v D e i v.length⟩:=rfl
      generalize drG v D own fd e=G at*
      generalize dKd D e=K at*
      have hfe:=hfd e hlt
      generalize drQ v D (ctC c) own fd e=X at*
      have hXl:(X.flatMap gdC).length=X.length*2:=Qnt X
      cases hc:(c.ev e).c with
      | false =>
        rw[hc]at hdr
        simp(disch:=first|omega|exact PairsOK.mk rfl|(simp only[lenW]<;>omega)) only[hlt,hlti,hdr,hdl,QaC,QaN,QaO,wW,wV,simprocAttr]
        refine⟨e+1,by omega,by omega,?_⟩
        rw[hst,if_neg (by rintro⟨h,_⟩;have h:(c.ev e).c=true:=h;rw[hc]at h;cases h)]
        refine⟨[(50,.blk 50 0),(51,.blk 51 0),(71,.blk 71 0)],rfl,au0,?_,au34⟩
        exact RB.cells rfl rfl gg (RnL.same hnu) (RB.cells rfl rfl gg (RnL.same hnc) (RB.cells rfl rfl gg (RnL.same (QaD _)) RB.nil))
      | true =>
        rw[hc]at hdr
        by_cases hz:(K:Int)=0
        · simp (disch := first | omega | exact PairsOK.mk rfl | (simp only [lenW] <;> omega)) only [hlt, hlti, hdr, hdl, hk0, hkt, hz, QaC, QaN, QaO, wW, wV, simprocAttr]
          refine⟨e+1,by omega,by omega,?_⟩
          rw[hst,if_neg (by rintro⟨_,h⟩;exact h (by omega))]
          refine⟨[(50,.blk 50 0),(51,.blk 51 0),(71,.blk 71 0)],rfl,au0,?_,au34⟩
          exact RB.cells rfl rfl gg (RnL.same hnu) (RB.cells rfl rfl gg (RnL.same hnc) (RB.cells rfl rfl gg (RnL.same (QaD _)) RB.nil))
        · simp (disch := first | omega | exact PairsOK.mk rfl | (simp only [lenW] <;> omega)) only [hlt, hlti, hdr, hdl, hk0, hkt, hz, QaC, QaN, QaO, wW, wV, simprocAttr]
          refine cp hfe ?_
          by_cases h1:(K:Int)=1
          · by_cases h2 : 0 <= fd e
            · have hoe : fd e < (own.length : Int) := hfl e hlt
              have hot:(fd e).toNat<own.length:=by omega
              obtain⟨x,hx⟩:=Qaj hot
              have hog:=QcM hx
              have hol2:2<=((own.flatMap gdC).drop ((fd e).toNat*2)).length:=by rw[hog];simp
              rw[if_pos ⟨by omega,h2⟩,QaB hx]at hG
              subst hG
              simp(disch:=first|omega|exact PairsOK.mk rfl|(simp only[lenW]<;>omega)) only[hkt,hk0,h1,h2,hoe,hog,hol2,hXl,QaC,QaN,QaO,wW,wV,simprocAttr]
              refine⟨e+1,by omega,by omega,?_⟩
              have e1:(X++[G]).length=X.length+1:=by simp
              rw[hst,if_pos ⟨hc,by omega⟩,e1,List.flatMap_append]
              refine⟨[(50,.blk 50 0),(51,.blk 51 0),(71,.blk 71 1)],rfl,au0,?_,au34⟩
              exact RB.cells rfl rfl gg (RnL.same hnu) (RB.cells rfl rfl gg (RnL.same hnc) (RB.cells rfl rfl gg (RnL.same (SU.QaT (QaD _) (QaD [_]))) RB.nil))
            · simp (disch := first | omega | exact PairsOK.mk rfl | (simp only [lenW] <;> omega)) only [hkt, hk0, h1, h2, QaC, QaN, QaO, wW, wV, simprocAttr]
              rw[if_neg (by rintro⟨q1,q2⟩;exact h2 q2)]at hG
              clear h1
              refine Qaz 400 (fun i:Nat=>[(2,gdsV own),(3,.ptr 50 0 0),(4,.ptr 51 0 0),(7,vrsV v),(8,.sl 71 0 0 (X).length 2),(9,.int .i64 e),(10,.ptr 72 0 0),(12,.int .i64 i)]) (fun i=>[(50,.cells 0 (u8s D)),(51,.cells 0 [evsV c.ev,its 99 c.cs,its 114 c.rs,exs c.xs,cos c.ks]),(71,.cells 0 ((X).flatMap gdC)),(72,.cells 0 [.int .i64 (e:Int),.sl 73 0 0 i 2]),(73,.cells 0 (((List.range i).map fun i=>dBx v D e i v.length).flatMap bxC))]) (fun i=>i<=K-1) (fun i=>K-i) 0 2 500 (fun _:Unit=>[(2,gdsV own),(3,.ptr 50 0 0),(4,.ptr 51 0 0),(7,vrsV v),(8,.sl 71 0 0 (X).length 2),(9,.int .i64 e),(10,.ptr 72 0 0)]) (fun _=>[(50,.cells 0 (u8s D)),(51,.cells 0 [evsV c.ev,its 99 c.cs,its 114 c.rs,exs c.xs,cos c.ks]),(71,.cells 0 ((X).flatMap gdC)),(72,.cells 0 [.int .i64 (e:Int),bxsV ((List.range (K-1)).map fun i=>dBx v D e i v.length)])]) (fun _=>True) ?_ (Nat.zero_le _) ?_ ?_
              · refine ⟨[(50, .blk 50 0), (51, .blk 51 0), (71, .blk 71 0), (72, .blk 226 0), (73, .nil)], rfl, au0, ?_, au34⟩
                exact RB.cells rfl rfl gg (RnL.same hnu) (RB.cells rfl rfl gg (RnL.same hnc) (RB.cells rfl rfl gg (RnL.same (QaD _)) (RB.cells rfl rfl gg (RnL.cons (Rn.same rfl) (RnL.cons (Rn.x4 rfl rfl) RnL.nil)) (RB.newnil rfl rfl RB.nil))))
              · rintro i hi
                by_cases hl:(i:Int)<(K:Int)-1
                · simp (disch := first | omega | exact PairsOK.mk rfl | (simp only [lenW] <;> omega)) only [hk0, hkt, hl, QaC, QaN, QaO, wW, wV, simprocAttr]
                  refine Qaz 600 (fun k:Nat=>[(2,gdsV own),(3,.ptr 50 0 0),(4,.ptr 51 0 0),(7,vrsV v),(8,.sl 71 0 0 (X).length 2),(9,.int .i64 e),(10,.ptr 72 0 0),(12,.int .i64 i),(13,.ptr 74 0 0),(14,.int .i64 k)]) (fun k=>[(50,.cells 0 (u8s D)),(51,.cells 0 [evsV c.ev,its 99 c.cs,its 114 c.rs,exs c.xs,cos c.ks]),(71,.cells 0 ((X).flatMap gdC)),(72,.cells 0 [.int .i64 (e:Int),.sl 73 0 0 i 2]),(73,.cells 0 (((List.range i).map fun i=>dBx v D e i v.length).flatMap bxC)),(74,.cells 0 [.sl 75 0 0 k 1,.sl 76 0 0 k 1]),(75,.cells 0 (ints (dBx v D e i k).lo)),(76,.cells 0 (ints (dBx v D e i k).hi))]) (fun k=>k<=v.length) (fun k=>v.length-k) 0 4 700 (fun _:Unit=>[(2,gdsV own),(3,.ptr 50 0 0),(4,.ptr 51 0 0),(7,vrsV v),(8,.sl 71 0 0 (X).length 2),(9,.int .i64 e),(10,.ptr 72 0 0),(12,.int .i64 i),(13,.ptr 74 0 0)]) (fun _=>[(50,.cells 0 (u8s D)),(51,.cells 0 [evsV c.ev,its 99 c.cs,its 114 c.rs,exs c.xs,cos c.ks]),(71,.cells 0 ((X).flatMap gdC)),(72,.cells 0 [.int .i64 (e:Int),.sl 73 0 0 i 2]),(73,.cells 0 (((List.range i).map fun i=>dBx v D e i v.length).flatMap bxC)),(74,.cells 0 [sli (dBx v D e i v.length).lo,sli (dBx v D e i v.length).hi])]) (fun _=>True) ?_ (Nat.zero_le _) ?_ ?_
                  · refine ⟨[(50, .blk 50 0), (51, .blk 51 0), (71, .blk 71 0), (72, .blk 72 0), (73, .blk 73 0), (74, .blk 409 0), (75, .nil), (76, .nil)], rfl, au0, ?_, au34⟩
                    exact RB.cells rfl rfl gg (RnL.same hnu) (RB.cells rfl rfl gg (RnL.same hnc) (RB.cells rfl rfl gg (RnL.same (QaD _)) (RB.cells rfl rfl gg (RnL.cons (Rn.same rfl) (RnL.cons (Rn.x1 rfl rfl) RnL.nil)) (RB.cells rfl rfl gg (RnL.same (Qax _)) (RB.cells rfl rfl gg (RnL.cons (Rn.x4 rfl rfl) (RnL.cons (Rn.x4 rfl rfl) RnL.nil)) (RB.newnil rfl rfl (RB.newnil rfl rfl RB.nil)))))))
                  · rintro k hk
                    by_cases hlk:k<v.length
                    · obtain ⟨x, hx⟩ := Qaj hlk
                      have hvr:=QbO hx
                      have hvl:4<=((v.flatMap vrC).drop (k*4)).length:=by rw[hvr];simp
                      have a1:=@Qfz D (e*25+1+i*12+k*2) (by omega)
                      have a2:=@Qfz D (e*25+1+i*12+k*2+1) (by omega)
                      have hsc:=@QkB v D e i k
                      have hk6:(k:Int)<6:=by omega
                      have hi2:(i:Int)<2:=by omega
                      have x2:=hin x (List.mem_of_getElem? hx)
                      have d1:=@Qhx D hDl (e*25+1+i*12+k*2)
                      have d2:=@Qhx D hDl (e*25+1+i*12+k*2+1)
                      have l1:=@Qhw v D e i k x hx x2.1
                      have l2:=@QkC v D e i k x hx x2.1
                      have t1:(dAt D (e*25+1+i*12+k*2)).tmod (x.2+1)=dLo v D e i k:=by rw[Int.tmod_eq_emod_of_nonneg d1.1];unfold dLo;rw[QaB hx]
                      have t2:(dAt D (e*25+1+i*12+k*2+1)).tmod (x.2+1-dLo v D e i k)=dHi v D e i k-dLo v D e i k:=by rw[Int.tmod_eq_emod_of_nonneg d2.1];unfold dHi;rw[QaB hx];omega
                      have n1:¬x.2+1=0:=by omega
                      have n2:¬x.2+1-dLo v D e i k=0:=by omega
                      have e3:dLo v D e i k+(dHi v D e i k-dLo v D e i k)=dHi v D e i k:=by omega
                      have hb1:(ints (dBx v D e i k).lo).length=k:=by simp[ints,dBx]
                      have hb2:(ints (dBx v D e i k).hi).length=k:=by simp[ints,dBx]
                      generalize dAt D (e*25+1+i*12+k*2)=A1 at*
                      generalize dAt D (e*25+1+i*12+k*2+1)=A2 at*
                      generalize dBx v D e i k=bb at*
                      generalize dLo v D e i k=lo at*
                      generalize dHi v D e i k=hi' at*
                      simp(disch:=first|omega|exact PairsOK.mk rfl|(simp only[lenW]<;>omega)) only[hlk,hk6,hvr,hvl,hlti,hi2,a1,a2,t1,t2,n1,n2,hb1,hb2,e3,QaC,QaN,QaO,wW,wV,simprocAttr]
                      refine QbM [(105,[75]),(110,[76])] rfl rfl ?_
                      simp(disch:=first|omega|exact PairsOK.mk rfl|(simp only[lenW]<;>omega)) only[hlk,hk6,hvr,hvl,hlti,hi2,a1,a2,t1,t2,n1,n2,hb1,hb2,e3,QaC,QaN,QaO,wW,wV,simprocAttr]
                      refine⟨⟨⟨[75],rfl,fun b hb=>hb⟩,⟨[76],rfl,fun b hb=>hb⟩,trivial⟩,?_⟩
                      refine⟨k+1,by omega,by omega,?_⟩
                      rw[hsc,QaV,QaV]
                      refine⟨[(50,.blk 50 0),(51,.blk 51 0),(71,.blk 71 0),(72,.blk 72 0),(73,.blk 73 0),(74,.blk 74 0),(75,.blk 75 1),(76,.blk 76 1)],rfl,au0,?_,au34⟩
                      exact RB.cells rfl rfl gg (RnL.same hnu) (RB.cells rfl rfl gg (RnL.same hnc) (RB.cells rfl rfl gg (RnL.same (QaD _)) (RB.cells rfl rfl gg (RnL.cons (Rn.same rfl) (RnL.cons (Rn.x1 rfl rfl) RnL.nil)) (RB.cells rfl rfl gg (RnL.same (Qax _)) (RB.cells rfl rfl gg (RnL.cons (Rn.x1 rfl rfl) (RnL.cons (Rn.x1 rfl rfl) RnL.nil)) (RB.cells rfl rfl gg (RnL.same (SU.QaT (Qaa _) rfl)) (RB.cells rfl rfl gg (RnL.same (SU.QaT (Qaa _) rfl)) RB.nil)))))))
                    · have ek : k = v.length := by omega
                      subst ek
                      simp(disch:=first|omega|exact PairsOK.mk rfl|(simp only[lenW]<;>omega)) only[hlk,QaC,QaN,QaO,wW,wV,simprocAttr]
                      have hb1:(ints (dBx v D e i v.length).lo).length=v.length:=by simp[ints,dBx]
                      have hb2:(ints (dBx v D e i v.length).hi).length=v.length:=by simp[ints,dBx]
                      have hb3:(dBx v D e i v.length).lo.length=v.length:=by simp[dBx]
                      have hb4:(dBx v D e i v.length).hi.length=v.length:=by simp[dBx]
                      generalize dBx v D e i v.length=bb at*
                      refine⟨(),?_⟩
                      exact⟨[(50,.blk 50 0),(51,.blk 51 0),(71,.blk 71 0),(72,.blk 72 0),(73,.blk 73 0),(74,.blk 74 0)],rfl,RO.zero,RB.cells rfl rfl gg (RnL.same hnu) (RB.cells rfl rfl gg (RnL.same hnc) (RB.cells rfl rfl gg (RnL.same (QaD _)) (RB.cells rfl rfl gg (RnL.cons (Rn.same rfl) (RnL.cons (Rn.x1 rfl rfl) RnL.nil)) (RB.cells rfl rfl gg (RnL.same (Qax _)) (RB.cells rfl rfl gg (RnL.cons (Rn.fzm (b:=75) (g:=0) gg rfl rfl hb3 (by rw[hb1,Nat.mul_one]) (RnL.same (Qaa _))) (RnL.cons (Rn.fzm (b:=76) (g:=0) gg rfl rfl hb4 (by rw[hb2,Nat.mul_one]) (RnL.same (Qaa _))) RnL.nil)) RB.nil))))),
                        RT.cons (Rn.same (Qby _)) (RT.cons (Rn.x2 rfl rfl) (RT.cons (Rn.x2 rfl rfl) (RT.cons (Rn.same (Qar _)) (RT.cons (Rn.x1 rfl rfl) (RT.cons (Rn.same rfl) (RT.cons (Rn.x2 rfl rfl) (RT.cons (Rn.same rfl) (RT.cons (Rn.x2 rfl rfl) RT.nil))))))))⟩
                  · rintro _ _
                    have hbl:=Qd1 ((List.range i).map fun i=>dBx v D e i v.length)
                    have hrl:((List.range i).map fun i=>dBx v D e i v.length).length=i:=by simp
                    rw[hrl]at hbl
                    have hbS:((List.range (i+1)).map fun i=>dBx v D e i v.length)=((List.range i).map fun i=>dBx v D e i v.length)++[dBx v D e i v.length]:=by rw[List.range_succ,List.map_append];rfl
                    generalize ((List.range i).map fun i=>dBx v D e i v.length)=Bs at*
                    generalize dBx v D e i v.length=bb at*
                    simp(disch:=first|omega|exact PairsOK.mk rfl|(simp only[lenW]<;>omega)) only[hbl,QaC,QaN,QaO,wW,wV,simprocAttr]
                    refine⟨i+1,by omega,by omega,?_⟩
                    rw[hbS,List.flatMap_append]
                    refine⟨[(50,.blk 50 0),(51,.blk 51 0),(71,.blk 71 0),(72,.blk 72 0),(73,.blk 73 1)],rfl,au0,?_,au34⟩
                    exact RB.cells rfl rfl gg (RnL.same hnu) (RB.cells rfl rfl gg (RnL.same hnc) (RB.cells rfl rfl gg (RnL.same (QaD _)) (RB.cells rfl rfl gg (RnL.cons (Rn.same rfl) (RnL.cons (Rn.x1 rfl rfl) RnL.nil)) (RB.cells rfl rfl gg (RnL.same (SU.QaT (Qax _) (Qax [bb]))) RB.nil))))
                · have ei : i = K - 1 := by omega
                  subst ei
                  simp(disch:=first|omega|exact PairsOK.mk rfl|(simp only[lenW]<;>omega)) only[hk0,hkt,hl,QaC,QaN,QaO,wW,wV,simprocAttr]
                  have hrl:((List.range (K-1)).map fun i=>dBx v D e i v.length).length=K-1:=by simp
                  generalize ((List.range (K-1)).map fun i=>dBx v D e i v.length)=Bs at*
                  refine⟨(),?_⟩
                  exact⟨[(50,.blk 50 0),(51,.blk 51 0),(71,.blk 71 0),(72,.blk 72 0)],rfl,RO.zero,RB.cells rfl rfl gg (RnL.same hnu) (RB.cells rfl rfl gg (RnL.same hnc) (RB.cells rfl rfl gg (RnL.same (QaD _)) (RB.cells rfl rfl gg (RnL.cons (Rn.same rfl) (RnL.cons (Rn.fzm (b:=73) (g:=0) gg rfl rfl hrl (by rw[Qd1,hrl]) (RnL.same (Qax _))) RnL.nil)) RB.nil))),
                    RT.cons (Rn.same (Qby _)) (RT.cons (Rn.x2 rfl rfl) (RT.cons (Rn.x2 rfl rfl) (RT.cons (Rn.same (Qar _)) (RT.cons (Rn.x1 rfl rfl) (RT.cons (Rn.same rfl) (RT.cons (Rn.x2 rfl rfl) RT.nil))))))⟩
              · rintro _ _
                simp(disch:=first|omega|exact PairsOK.mk rfl|(simp only[lenW]<;>omega)) only[hXl,QaC,QaN,QaO,wW,wV,simprocAttr]
                refine⟨e+1,by omega,by omega,?_⟩
                have e1:(X++[G]).length=X.length+1:=by simp
                rw[hst,if_pos ⟨hc,by omega⟩,e1,List.flatMap_append,hG]
                refine⟨[(50,.blk 50 0),(51,.blk 51 0),(71,.blk 71 1)],rfl,au0,?_,au34⟩
                exact RB.cells rfl rfl gg (RnL.same hnu) (RB.cells rfl rfl gg (RnL.same hnc) (RB.cells rfl rfl gg (RnL.same (SU.QaT (QaD _) (QaD [_]))) RB.nil))
          · simp (disch := first | omega | exact PairsOK.mk rfl | (simp only [lenW] <;> omega)) only [hkt, hk0, h1, QaC, QaN, QaO, wW, wV, simprocAttr]
            rw[if_neg (by rintro⟨q1,q2⟩;omega)]at hG
            clear h1
            refine Qaz 400 (fun i:Nat=>[(2,gdsV own),(3,.ptr 50 0 0),(4,.ptr 51 0 0),(7,vrsV v),(8,.sl 71 0 0 (X).length 2),(9,.int .i64 e),(10,.ptr 72 0 0),(12,.int .i64 i)]) (fun i=>[(50,.cells 0 (u8s D)),(51,.cells 0 [evsV c.ev,its 99 c.cs,its 114 c.rs,exs c.xs,cos c.ks]),(71,.cells 0 ((X).flatMap gdC)),(72,.cells 0 [.int .i64 (e:Int),.sl 73 0 0 i 2]),(73,.cells 0 (((List.range i).map fun i=>dBx v D e i v.length).flatMap bxC))]) (fun i=>i<=K-1) (fun i=>K-i) 0 2 500 (fun _:Unit=>[(2,gdsV own),(3,.ptr 50 0 0),(4,.ptr 51 0 0),(7,vrsV v),(8,.sl 71 0 0 (X).length 2),(9,.int .i64 e),(10,.ptr 72 0 0)]) (fun _=>[(50,.cells 0 (u8s D)),(51,.cells 0 [evsV c.ev,its 99 c.cs,its 114 c.rs,exs c.xs,cos c.ks]),(71,.cells 0 ((X).flatMap gdC)),(72,.cells 0 [.int .i64 (e:Int),bxsV ((List.range (K-1)).map fun i=>dBx v D e i v.length)])]) (fun _=>True) ?_ (Nat.zero_le _) ?_ ?_
            · refine ⟨[(50, .blk 50 0), (51, .blk 51 0), (71, .blk 71 0), (72, .blk 226 0), (73, .nil)], rfl, au0, ?_, au34⟩
              exact RB.cells rfl rfl gg (RnL.same hnu) (RB.cells rfl rfl gg (RnL.same hnc) (RB.cells rfl rfl gg (RnL.same (QaD _)) (RB.cells rfl rfl gg (RnL.cons (Rn.same rfl) (RnL.cons (Rn.x4 rfl rfl) RnL.nil)) (RB.newnil rfl rfl RB.nil))))
            · rintro i hi
              by_cases hl:(i:Int)<(K:Int)-1
              · simp (disch := first | omega | exact PairsOK.mk rfl | (simp only [lenW] <;> omega)) only [hk0, hkt, hl, QaC, QaN, QaO, wW, wV, simprocAttr]
                refine Qaz 600 (fun k:Nat=>[(2,gdsV own),(3,.ptr 50 0 0),(4,.ptr 51 0 0),(7,vrsV v),(8,.sl 71 0 0 (X).length 2),(9,.int .i64 e),(10,.ptr 72 0 0),(12,.int .i64 i),(13,.ptr 74 0 0),(14,.int .i64 k)]) (fun k=>[(50,.cells 0 (u8s D)),(51,.cells 0 [evsV c.ev,its 99 c.cs,its 114 c.rs,exs c.xs,cos c.ks]),(71,.cells 0 ((X).flatMap gdC)),(72,.cells 0 [.int .i64 (e:Int),.sl 73 0 0 i 2]),(73,.cells 0 (((List.range i).map fun i=>dBx v D e i v.length).flatMap bxC)),(74,.cells 0 [.sl 75 0 0 k 1,.sl 76 0 0 k 1]),(75,.cells 0 (ints (dBx v D e i k).lo)),(76,.cells 0 (ints (dBx v D e i k).hi))]) (fun k=>k<=v.length) (fun k=>v.length-k) 0 4 700 (fun _:Unit=>[(2,gdsV own),(3,.ptr 50 0 0),(4,.ptr 51 0 0),(7,vrsV v),(8,.sl 71 0 0 (X).length 2),(9,.int .i64 e),(10,.ptr 72 0 0),(12,.int .i64 i),(13,.ptr 74 0 0)]) (fun _=>[(50,.cells 0 (u8s D)),(51,.cells 0 [evsV c.ev,its 99 c.cs,its 114 c.rs,exs c.xs,cos c.ks]),(71,.cells 0 ((X).flatMap gdC)),(72,.cells 0 [.int .i64 (e:Int),.sl 73 0 0 i 2]),(73,.cells 0 (((List.range i).map fun i=>dBx v D e i v.length).flatMap bxC)),(74,.cells 0 [sli (dBx v D e i v.length).lo,sli (dBx v D e i v.length).hi])]) (fun _=>True) ?_ (Nat.zero_le _) ?_ ?_
                · refine ⟨[(50, .blk 50 0), (51, .blk 51 0), (71, .blk 71 0), (72, .blk 72 0), (73, .blk 73 0), (74, .blk 409 0), (75, .nil), (76, .nil)], rfl, au0, ?_, au34⟩
                  exact RB.cells rfl rfl gg (RnL.same hnu) (RB.cells rfl rfl gg (RnL.same hnc) (RB.cells rfl rfl gg (RnL.same (QaD _)) (RB.cells rfl rfl gg (RnL.cons (Rn.same rfl) (RnL.cons (Rn.x1 rfl rfl) RnL.nil)) (RB.cells rfl rfl gg (RnL.same (Qax _)) (RB.cells rfl rfl gg (RnL.cons (Rn.x4 rfl rfl) (RnL.cons (Rn.x4 rfl rfl) RnL.nil)) (RB.newnil rfl rfl (RB.newnil rfl rfl RB.nil)))))))
                · rintro k hk
                  by_cases hlk:k<v.length
                  · obtain ⟨x, hx⟩ := Qaj hlk
                    have hvr:=QbO hx
                    have hvl:4<=((v.flatMap vrC).drop (k*4)).length:=by rw[hvr];simp
                    have a1:=@Qfz D (e*25+1+i*12+k*2) (by omega)
                    have a2:=@Qfz D (e*25+1+i*12+k*2+1) (by omega)
                    have hsc:=@QkB v D e i k
                    have hk6:(k:Int)<6:=by omega
                    have hi2:(i:Int)<2:=by omega
                    have x2:=hin x (List.mem_of_getElem? hx)
                    have d1:=@Qhx D hDl (e*25+1+i*12+k*2)
                    have d2:=@Qhx D hDl (e*25+1+i*12+k*2+1)
                    have l1:=@Qhw v D e i k x hx x2.1
                    have l2:=@QkC v D e i k x hx x2.1
                    have t1:(dAt D (e*25+1+i*12+k*2)).tmod (x.2+1)=dLo v D e i k:=by rw[Int.tmod_eq_emod_of_nonneg d1.1];unfold dLo;rw[QaB hx]
                    have t2:(dAt D (e*25+1+i*12+k*2+1)).tmod (x.2+1-dLo v D e i k)=dHi v D e i k-dLo v D e i k:=by rw[Int.tmod_eq_emod_of_nonneg d2.1];unfold dHi;rw[QaB hx];omega
                    have n1:¬x.2+1=0:=by omega
                    have n2:¬x.2+1-dLo v D e i k=0:=by omega
                    have e3:dLo v D e i k+(dHi v D e i k-dLo v D e i k)=dHi v D e i k:=by omega
                    have hb1:(ints (dBx v D e i k).lo).length=k:=by simp[ints,dBx]
                    have hb2:(ints (dBx v D e i k).hi).length=k:=by simp[ints,dBx]
                    generalize dAt D (e*25+1+i*12+k*2)=A1 at*
                    generalize dAt D (e*25+1+i*12+k*2+1)=A2 at*
                    generalize dBx v D e i k=bb at*
                    generalize dLo v D e i k=lo at*
                    generalize dHi v D e i k=hi' at*
                    simp(disch:=first|omega|exact PairsOK.mk rfl|(simp only[lenW]<;>omega)) only[hlk,hk6,hvr,hvl,hlti,hi2,a1,a2,t1,t2,n1,n2,hb1,hb2,e3,QaC,QaN,QaO,wW,wV,simprocAttr]
                    refine QbM [(105,[75]),(110,[76])] rfl rfl ?_
                    simp(disch:=first|omega|exact PairsOK.mk rfl|(simp only[lenW]<;>omega)) only[hlk,hk6,hvr,hvl,hlti,hi2,a1,a2,t1,t2,n1,n2,hb1,hb2,e3,QaC,QaN,QaO,wW,wV,simprocAttr]
                    refine⟨⟨⟨[75],rfl,fun b hb=>hb⟩,⟨[76],rfl,fun b hb=>hb⟩,trivial⟩,?_⟩
                    refine⟨k+1,by omega,by omega,?_⟩
                    rw[hsc,QaV,QaV]
                    refine⟨[(50,.blk 50 0),(51,.blk 51 0),(71,.blk 71 0),(72,.blk 72 0),(73,.blk 73 0),(74,.blk 74 0),(75,.blk 75 1),(76,.blk 76 1)],rfl,au0,?_,au34⟩
                    exact RB.cells rfl rfl gg (RnL.same hnu) (RB.cells rfl rfl gg (RnL.same hnc) (RB.cells rfl rfl gg (RnL.same (QaD _)) (RB.cells rfl rfl gg (RnL.cons (Rn.same rfl) (RnL.cons (Rn.x1 rfl rfl) RnL.nil)) (RB.cells rfl rfl gg (RnL.same (Qax _)) (RB.cells rfl rfl gg (RnL.cons (Rn.x1 rfl rfl) (RnL.cons (Rn.x1 rfl rfl) RnL.nil)) (RB.cells rfl rfl gg (RnL.same (SU.QaT (Qaa _) rfl)) (RB.cells rfl rfl gg (RnL.same (SU.QaT (Qaa _) rfl)) RB.nil)))))))
                  · have ek : k = v.length := by omega
                    subst ek
                    simp(disch:=first|omega|exact PairsOK.mk rfl|(simp only[lenW]<;>omega)) only[hlk,QaC,QaN,QaO,wW,wV,simprocAttr]
                    have hb1:(ints (dBx v D e i v.length).lo).length=v.length:=by simp[ints,dBx]
                    have hb2:(ints (dBx v D e i v.length).hi).length=v.length:=by simp[ints,dBx]
                    have hb3:(dBx v D e i v.length).lo.length=v.length:=by simp[dBx]
                    have hb4:(dBx v D e i v.length).hi.length=v.length:=by simp[dBx]
                    generalize dBx v D e i v.length=bb at*
                    refine⟨(),?_⟩
                    exact⟨[(50,.blk 50 0),(51,.blk 51 0),(71,.blk 71 0),(72,.blk 72 0),(73,.blk 73 0),(74,.blk 74 0)],rfl,RO.zero,RB.cells rfl rfl gg (RnL.same hnu) (RB.cells rfl rfl gg (RnL.same hnc) (RB.cells rfl rfl gg (RnL.same (QaD _)) (RB.cells rfl rfl gg (RnL.cons (Rn.same rfl) (RnL.cons (Rn.x1 rfl rfl) RnL.nil)) (RB.cells rfl rfl gg (RnL.same (Qax _)) (RB.cells rfl rfl gg (RnL.cons (Rn.fzm (b:=75) (g:=0) gg rfl rfl hb3 (by rw[hb1,Nat.mul_one]) (RnL.same (Qaa _))) (RnL.cons (Rn.fzm (b:=76) (g:=0) gg rfl rfl hb4 (by rw[hb2,Nat.mul_one]) (RnL.same (Qaa _))) RnL.nil)) RB.nil))))),
                      RT.cons (Rn.same (Qby _)) (RT.cons (Rn.x2 rfl rfl) (RT.cons (Rn.x2 rfl rfl) (RT.cons (Rn.same (Qar _)) (RT.cons (Rn.x1 rfl rfl) (RT.cons (Rn.same rfl) (RT.cons (Rn.x2 rfl rfl) (RT.cons (Rn.same rfl) (RT.cons (Rn.x2 rfl rfl) RT.nil))))))))⟩
                · rintro _ _
                  have hbl:=Qd1 ((List.range i).map fun i=>dBx v D e i v.length)
                  have hrl:((List.range i).map fun i=>dBx v D e i v.length).length=i:=by simp
                  rw[hrl]at hbl
                  have hbS:((List.range (i+1)).map fun i=>dBx v D e i v.length)=((List.range i).map fun i=>dBx v D e i v.length)++[dBx v D e i v.length]:=by rw[List.range_succ,List.map_append];rfl
                  generalize ((List.range i).map fun i=>dBx v D e i v.length)=Bs at*
                  generalize dBx v D e i v.length=bb at*
                  simp(disch:=first|omega|exact PairsOK.mk rfl|(simp only[lenW]<;>omega)) only[hbl,QaC,QaN,QaO,wW,wV,simprocAttr]
                  refine⟨i+1,by omega,by omega,?_⟩
                  rw[hbS,List.flatMap_append]
                  refine⟨[(50,.blk 50 0),(51,.blk 51 0),(71,.blk 71 0),(72,.blk 72 0),(73,.blk 73 1)],rfl,au0,?_,au34⟩
                  exact RB.cells rfl rfl gg (RnL.same hnu) (RB.cells rfl rfl gg (RnL.same hnc) (RB.cells rfl rfl gg (RnL.same (QaD _)) (RB.cells rfl rfl gg (RnL.cons (Rn.same rfl) (RnL.cons (Rn.x1 rfl rfl) RnL.nil)) (RB.cells rfl rfl gg (RnL.same (SU.QaT (Qax _) (Qax [bb]))) RB.nil))))
              · have ei : i = K - 1 := by omega
                subst ei
                simp(disch:=first|omega|exact PairsOK.mk rfl|(simp only[lenW]<;>omega)) only[hk0,hkt,hl,QaC,QaN,QaO,wW,wV,simprocAttr]
                have hrl:((List.range (K-1)).map fun i=>dBx v D e i v.length).length=K-1:=by simp
                generalize ((List.range (K-1)).map fun i=>dBx v D e i v.length)=Bs at*
                refine⟨(),?_⟩
                exact⟨[(50,.blk 50 0),(51,.blk 51 0),(71,.blk 71 0),(72,.blk 72 0)],rfl,RO.zero,RB.cells rfl rfl gg (RnL.same hnu) (RB.cells rfl rfl gg (RnL.same hnc) (RB.cells rfl rfl gg (RnL.same (QaD _)) (RB.cells rfl rfl gg (RnL.cons (Rn.same rfl) (RnL.cons (Rn.fzm (b:=73) (g:=0) gg rfl rfl hrl (by rw[Qd1,hrl]) (RnL.same (Qax _))) RnL.nil)) RB.nil))),
                  RT.cons (Rn.same (Qby _)) (RT.cons (Rn.x2 rfl rfl) (RT.cons (Rn.x2 rfl rfl) (RT.cons (Rn.same (Qar _)) (RT.cons (Rn.x1 rfl rfl) (RT.cons (Rn.same rfl) (RT.cons (Rn.x2 rfl rfl) RT.nil))))))⟩
            · rintro _ _
              simp(disch:=first|omega|exact PairsOK.mk rfl|(simp only[lenW]<;>omega)) only[hXl,QaC,QaN,QaO,wW,wV,simprocAttr]
              refine⟨e+1,by omega,by omega,?_⟩
              have e1:(X++[G]).length=X.length+1:=by simp
              rw[hst,if_pos ⟨hc,by omega⟩,e1,List.flatMap_append,hG]
              refine⟨[(50,.blk 50 0),(51,.blk 51 0),(71,.blk 71 1)],rfl,au0,?_,au34⟩
              exact RB.cells rfl rfl gg (RnL.same hnu) (RB.cells rfl rfl gg (RnL.same hnc) (RB.cells rfl rfl gg (RnL.same (SU.QaT (QaD _) (QaD [_]))) RB.nil))
    · have ee : e = 5 := by omega
      subst ee
      generalize drQ v D (ctC c) own fd 5=X at*
      simp(disch:=first|omega|exact PairsOK.mk rfl|(simp only[lenW]<;>omega)) only[QaC,QaN,QaO,wW,wV,simprocAttr]
      exact⟨(),[],rfl,RO.zero,RB.nil,RT.cons (Rn.fzm (b:=71) (g:=0) gg rfl rfl rfl (Qnt X) (RnL.same (QaD _))) RT.nil⟩
  · rintro _ _
    simp(disch:=first|omega|exact PairsOK.mk rfl|(simp only[lenW]<;>omega)) only[QaC,QaN,QaO,wW,wV,simprocAttr]
    exact⟨.inr trivial,_,rfl,Rn.same (Qby _)⟩
end Go.AM.SO
namespace Go.AM.SO
open Go.Proofs Go.AM.SD Go.AM.SE
def flt (q:Aut) (pm:Nat->Nat->Bool):Aut:=⟨q.al,q.n,q.ms,q.es.filter fun e=>pm e.1 e.2.1⟩
abbrev tru:Nat->Bool:=fun _=>true
variable {q p:Aut} {A B:List (List Nat)} {P:List Nat} {F:List (Nat×Int×Int×Int)} {c:Cel}
end Go.AM.SO
namespace Go.AM.SO
open Go.Proofs Go.AM.SD Go.AM.SE
structure GOk (ct:Nat->Bool) (v:List (List UInt8×Int)) (l:List Gdn):Prop where
 inc:l.Pairwise fun y z=>y.ev<z.ev
 ev:∀g∈l,(0<=g.ev/\g.ev<5)/\ct g.ev.toNat=true
 bl:∀g∈l,g.bs.length<=1000
 bx:∀g∈l,∀b∈g.bs,BxOk v b
theorem Qhy {f:Nat->Int}:∀{n:Nat},(∀i,i<n->f i=0)->fe f n=0
 |0,_=>rfl
 |n+1,h=>by
  rw[fe,Qhy (fun i hi=>h i (by omega)),if_pos rfl,h n (by omega)]
theorem Qo1 {v:List (List UInt8×Int)} {b:Bxn} (h:BxOk v b):bxE v b=0:=by
 unfold bxE
 rw[if_pos ⟨h.1,h.2.1⟩]
 refine Qhy fun j hj=>?_
 obtain⟨x,hx⟩:=Qaj (l:=v) (i:=j) hj
 have:=h.2.2 j x hx
 unfold vrE
 rw[QaB hx,if_neg (by omega)]
theorem GOk.err {ct:Nat->Bool} {v:List (List UInt8×Int)} {l:List Gdn} (h:GOk ct v l):gdsE ct v l=0:=by
 unfold gdsE
 refine Qhy fun i hi=>?_
 obtain⟨x,hx⟩:=Qaj (l:=l) (i:=i) hi
 have hm:=List.mem_of_getElem? hx
 obtain⟨h1,h2⟩:=h.ev x hm
 rw[QaB hx]
 unfold gdE
 rw[if_neg (by omega),if_neg (by rw[h2];decide),if_neg]
 ·refine Qhy fun k hk => ?_
  obtain⟨b,hb⟩:=Qaj (l:=x.bs) (i:=k) hk
  rw[QaB hb]
  exact Qo1 (h.bx x hm b (List.mem_of_getElem? hb))
 ·rintro ⟨h3, h4⟩
  have h3:¬i=0:=of_decide_eq_false h3
  obtain⟨y,hy⟩:=Qaj (l:=l) (i:=i-1) (by omega)
  rw[QaB hy]at h4
  obtain⟨j1,j2⟩:=List.getElem?_eq_some_iff.1 hx
  obtain⟨k1,k2⟩:=List.getElem?_eq_some_iff.1 hy
  have:=List.pairwise_iff_getElem.1 h.inc (i-1) i k1 j1 (by omega)
  rw[j2,k2]at this
  omega
theorem Qob:∀{l:List Gdn} {a:Int},l.Pairwise (fun y z=>y.ev<z.ev)->(∀g∈l,a<=g.ev/\g.ev<5)->a<=5->(l.length:Int)<=5-a
 |[],a,_,_,h=>by simp;omega
 |x::l,a,hp,h,ha=>by
  obtain⟨h1,h2⟩:=List.pairwise_cons.1 hp
  have hx:=h x (by simp)
  have:=Qob (l:=l) (a:=x.ev+1) h2 (fun g hg=>⟨by have:=h1 g hg;omega,(h g (by simp[hg])).2⟩) (by omega)
  rw[List.length_cons]
  omega
theorem GOk.len {ct:Nat->Bool} {v:List (List UInt8×Int)} {l:List Gdn} (h:GOk ct v l):l.length<=5:=by
 have:=Qob (a:=0) h.inc (fun g hg=>(h.ev g hg).1) (by decide)
 omega
theorem GOk.r {ct:Nat->Bool} {v:List (List UInt8×Int)} {l:List Gdn} (h:GOk ct v l) (hv:v.length<=1000):GdsR l:=
  ⟨by have:=h.len;omega,fun g hg=>by have:=h.bl g hg;omega,fun g hg b hb=>by
    obtain⟨h1,h2,_⟩:=h.bx g hg b hb
    omega⟩
end Go.AM.SO
namespace Go.AM.SO
open Go.Proofs Go.AM.SD Go.AM.SE
theorem _root_.Go.AM.au35 {p:Prop} (h:p:=by repeat (first|exact RT.nil|(refine RT.cons ?_ ?_; · (first|exact Rn.any|exact Rn.x1 rfl rfl|exact Rn.x2 rfl rfl|exact Rn.x3 rfl rfl|exact Rn.x4 rfl rfl|exact Rn.x5 rfl|exact Rn.x6 rfl|exact Rn.x7 rfl|(refine Rn.slot ?_ ?_;(first|rfl|(rw[Int.natCast_add];rfl));(first|rfl|(simp only[noRef,noRefs,Qah,Bool.and_self,Bool.and_true,Bool.true_and,QaY,QaS,Qav,Qax,Qa1,Qaa,QaD];done)))|(refine Rn.fn ?_ ?_<;>(repeat' (first|exact RnL.nil|refine RnL.cons ?_ ?_|exact Rn.same rfl|exact Rn.x6 rfl|exact Rn.x2 rfl rfl|exact Rn.x5 rfl|exact Rn.x1 rfl rfl))))))):p:=h
section
variable (C z D:List AV) (hC:noRefs C=true) (hD:noRefs D=true)
include hC hD
theorem copy1c (g n:Nat) (U:List AV) (hU:noRefs U=true):HSpec Tryz.prog 147 [bldP] (hp [(300,.cells 0 C),(300,.cells 0 z),(51,.cells 0 D),(50,.cells 0 [bldP,bufG g n]),(60,.cells g U)]) (.tup []) (hp [(300,.cells 0 C),(51,.cells 0 D),(50,.cells 0 [bldP,bufG g n]),(60,.cells g U)]):=by
 refine HSpec.QbB (m:=301) 400 OK.ok147 rfl rfl rfl ?_
 simp(disch:=first|omega|exact PairsOK.mk rfl|(simp only[lenW]<;>omega)) only[OK.s147,Qag,Qac,Qal,Qad,Qam,Qai,Qab,Qan,tNil,tFA,tEq0,tEq1,tConv,tExt,tEqP,Qae,Qao,Qap,tUsd,tLen,wW,wV,simprocAttr]
 refine⟨.inl trivial,_,rfl,rfl,?_⟩
 refine⟨[(300,.nil),(51,.nil),(50,.nil),(60,.nil)],rfl,au0,?_,au35⟩
 exact RB.cellsB rfl gg (RnL.same hC) (RB.cellsB rfl gg (RnL.same hD) (RB.cellsB rfl gg (RnL.cons (Rn.typed (Rn.x6 rfl)) (RnL.cons (Rn.typed (Rn.x5 rfl)) RnL.nil)) (RB.cellsB rfl gg (RnL.same hU) RB.nil)))
theorem wri1c (g n:Nat) (u s:List UInt8) (hn:u.length=n) (hu:0<n) (hl:n+s.length<=1000000):HSpec Tryz.prog 77 [bldP,.str s] (hp [(300,.cells 0 C),(300,.cells 0 z),(51,.cells 0 D),(50,.cells 0 [bldP,bufG g n]),(60,.cells g (byV u))]) (.tup [.int .i64 s.length,.nilif])
  (hp [(300,.cells 0 C),(51,.cells 0 D),(50,.cells 0 [bldP,bufG (g+1) (n+s.length)]),(60,.cells (g+1) (byV (u++s)))]):=by
 obtain⟨k,rfl⟩:∃k,n=k+1:=⟨n-1,by omega⟩
 have hK:=copy1c C z D hC hD g (k+1) (byV u) (QaP _)
 have hb:=QfH u
 rw[QhM]
 rw[hn]at hb
 refine HSpec.QbB (m:=301) 400 OK.ok77 rfl rfl rfl ?_
 simp(disch:=first|omega|exact PairsOK.mk rfl|(simp only[lenW]<;>omega)) only[OK.s77,Qag,Qac,Qal,Qad,Qam,Qai,Qab,Qan,tNil,tFA,tEq0,tEq1,tConv,tExt,tEqP,Qae,Qao,Qap,tUsd,tLen,wW,wV,simprocAttr]
 refine ch hK ?_
 simp(disch:=first|omega|exact PairsOK.mk rfl|(simp only[lenW]<;>omega)) only[Qag,Qac,Qal,Qad,Qam,Qai,Qab,Qan,tNil,tFA,tEq0,tEq1,tConv,tExt,tEqP,Qae,Qao,Qap,tUsd,tLen,wW,wV,simprocAttr]
 refine QgH (cs:=byV u) gg hb.symm (by omega) (by decide) ?_
 simp(disch:=first|omega|exact PairsOK.mk rfl|(simp only[lenW]<;>omega)) only[Qag,Qac,Qal,Qad,Qam,Qai,Qab,Qan,tNil,tFA,tEq0,tEq1,tConv,tExt,tEqP,Qae,Qao,Qap,tUsd,tLen,wW,wV,simprocAttr]
 refine⟨.inr trivial,_,rfl,rfl,?_⟩
 refine⟨[(300,.nil),(51,.nil),(50,.nil),(60,.nil)],rfl,au0,?_,au35⟩
 exact RB.cellsB rfl gg (RnL.same hC) (RB.cellsB rfl gg (RnL.same hD) (RB.cellsB rfl gg (RnL.cons (Rn.typed (Rn.x6 rfl)) (RnL.cons (Rn.typed (Rn.x5 rfl)) RnL.nil)) (RB.cellsB rfl gg (RnL.same (SU.QaT (QaP _) (QaP _))) RB.nil)))
theorem copy0c:HSpec Tryz.prog 147 [bldP] (hp [(300,.cells 0 C),(300,.cells 0 z),(51,.cells 0 D),(50,.cells 0 [.nilptr,.nilsl])]) (.tup []) (hp [(300,.cells 0 C),(51,.cells 0 D),(50,.cells 0 [bldP,.nilsl])]):=by
 refine HSpec.QbB (m:=301) 400 OK.ok147 rfl rfl rfl ?_
 simp(disch:=first|omega|exact PairsOK.mk rfl|(simp only[lenW]<;>omega)) only[OK.s147,Qag,Qac,Qal,Qad,Qam,Qai,Qab,Qan,tNil,tFA,tEq0,tEq1,tConv,tExt,tEqP,Qae,Qao,Qap,tUsd,tLen,wW,wV,simprocAttr]
 refine⟨.inl trivial,_,rfl,rfl,?_⟩
 refine⟨[(300,.nil),(51,.nil),(50,.nil)],rfl,au0,?_,au35⟩
 exact RB.cellsB rfl gg (RnL.same hC) (RB.cellsB rfl gg (RnL.same hD) (RB.cellsB rfl gg (RnL.cons (Rn.typed (Rn.x6 rfl)) (RnL.cons (Rn.same rfl) RnL.nil)) RB.nil))
theorem wri0c (s:List UInt8) (hs:0<s.length) (hl:s.length<=1000000):HSpec Tryz.prog 77 [bldP,.str s] (hp [(300,.cells 0 C),(300,.cells 0 z),(51,.cells 0 D),(50,.cells 0 [.nilptr,.nilsl])]) (.tup [.int .i64 s.length,.nilif]) (hp [(300,.cells 0 C),(51,.cells 0 D),(50,.cells 0 [bldP,bufK 390 0 s.length]),(390,.cells 0 (byV s))]):=by
 have hK:=copy0c C z D hC hD
 refine HSpec.QbB (m:=301) 400 OK.ok77 rfl rfl rfl ?_
 simp(disch:=first|omega|exact PairsOK.mk rfl|(simp only[lenW]<;>omega)) only[OK.s77,Qag,Qac,Qal,Qad,Qam,Qai,Qab,Qan,tNil,tFA,tEq0,tEq1,tConv,tExt,tEqP,Qae,Qao,Qap,tUsd,tLen,wW,wV,simprocAttr]
 refine ch hK ?_
 simp(disch:=first|omega|exact PairsOK.mk rfl|(simp only[lenW]<;>omega)) only[Qag,Qac,Qal,Qad,Qam,Qai,Qab,Qan,tNil,tFA,tEq0,tEq1,tConv,tExt,tEqP,Qae,Qao,Qap,tUsd,tLen,wW,wV,simprocAttr]
 refine QiK hs (by omega) gg (by decide) ?_
 simp(disch:=first|omega|exact PairsOK.mk rfl|(simp only[lenW]<;>omega)) only[Qag,Qac,Qal,Qad,Qam,Qai,Qab,Qan,tNil,tFA,tEq0,tEq1,tConv,tExt,tEqP,Qae,Qao,Qap,tUsd,tLen,wW,wV,simprocAttr]
 refine⟨.inr trivial,_,rfl,rfl,?_⟩
 refine⟨[(300,.nil),(51,.nil),(50,.nil),(390,.blk 410 0)],rfl,au0,?_,au35⟩
 exact RB.cellsB rfl gg (RnL.same hC) (RB.cellsB rfl gg (RnL.same hD) (RB.cellsB rfl gg (RnL.cons (Rn.typed (Rn.x6 rfl)) (RnL.cons (Rn.typed (Rn.x1 rfl rfl)) RnL.nil)) (RB.cells rfl rfl gg (RnL.same (QaP _)) RB.nil)))
end
def gLn (v:List (List UInt8×Int)) (g:Gdn):List UInt8:=[UInt8.ofNat (97+g.ev.toNat)]++[32,119,104,101,110,32]++whT v g.bs++[10]
def gTx (v:List (List UInt8×Int)) (l:List Gdn):Nat->List UInt8
 |0=>[]
 |i+1=>gTx v l i++gLn v (l.getD i gd0)
def gNm (v:List (List UInt8×Int)) (l:List Gdn):Nat->Nat
 |0=>0
 |i+1=>gNm v l i+ltsN v (l.getD i gd0).bs (l.getD i gd0).bs.length
theorem GOk.one {ct:Nat->Bool} {v:List (List UInt8×Int)} {l:List Gdn} (h:GOk ct v l) {g:Gdn} (hg:g∈l):GOk ct v [g]:=
 ⟨List.pairwise_singleton _ _,fun x hx=>by rw[List.mem_singleton.1 hx];exact h.ev g hg,fun x hx=>by rw[List.mem_singleton.1 hx];exact h.bl g hg,fun x hx=>by rw[List.mem_singleton.1 hx];exact h.bx g hg⟩
theorem QhW {ct:Nat->Bool} {v:List (List UInt8×Int)} (hn:∀x∈v,x.1.length=2) (h5:v.length<=5) (hin:∀x∈v,0<=x.2/\x.2<=2) {l:List Gdn} (h:GOk ct v l) {g:Gdn} (hg:g∈l):(gLn v g).length<=124013/\0<(gLn v g).length/\(whT v g.bs).length<=124005:=by
 have h1:=Qpq hn h5 hin (h.bx g hg)
 have h2:=h.bl g hg
 unfold gLn
 simp only[List.length_append,List.length_cons,List.length_nil]
 omega
theorem QfM {ct:Nat->Bool} {v:List (List UInt8×Int)} (hn:∀x∈v,x.1.length=2) (h5:v.length<=5) (hin:∀x∈v,0<=x.2/\x.2<=2) {l:List Gdn} (h:GOk ct v l):∀i,i<=l.length->(gTx v l i).length<=124013*i/\(0<i->0<(gTx v l i).length)
 |0,_=>⟨Nat.le_refl _,fun h=>absurd h (Nat.lt_irrefl _)⟩
 |i+1,hi=>by
  obtain⟨g,hg⟩:=Qaj (l:=l) (i:=i) (by omega)
  have h1:=QhW hn h5 hin h (List.mem_of_getElem? hg)
  have h2:=QfM hn h5 hin h i (by omega)
  rw[gTx,QaB hg,List.length_append]
  omega
theorem QhX {ct:Nat->Bool} {v:List (List UInt8×Int)} (h5:v.length<=5) {l:List Gdn} (h:GOk ct v l):∀i,i<=l.length->gNm v l i<=10000*i
 |0,_=>Nat.le_refl _
 |i+1,hi=>by
  obtain⟨g,hg⟩:=Qaj (l:=l) (i:=i) (by omega)
  have h1:=@QgF v g.bs g.bs.length
  have h2:=QhX h5 h i (by omega)
  have h3:=h.bl g (List.mem_of_getElem? hg)
  have h4:2*v.length*g.bs.length<=10*1000:=Nat.mul_le_mul (by omega) h3
  rw[gNm,QaB hg]
  omega
theorem expr28 (c:Cel) (h:WfCel c) (g:Gdn) (hg:GOk (ctC c) (vrsL c) [g]) {k e:Int} (hck:PSpec Tryz.prog 29 [.agg (xpC (whE (vrsL c) g.bs)),.int .i64 (vrsL c).length] (.tup [.int .i64 k,.int .i64 e])):PSpec Tryz.prog 28 [celV c,gdV g] (jnV (vrsL c) g.bs e):=by
 have hv:=checked71 c h [g] (hg.r (by have:=Qce h;omega))
 have hm:=List.mem_singleton.2 (rfl:g=g)
 have hE:=expr72 (vrsL c) (vok_c h) g.bs (hg.bl g hm) (hg.bx g hm) hck
 have hnr:=Qb1 c
 rw[hg.err]at hv
 change PSpec Tryz.prog 71 [celV c,.fsl [.int .i64 g.ev,bxsV g.bs] 1 2] (ckV 0 (vrsL c))at hv
 rw[ckV,ckA_0]at hv
 generalize vrsL c=v at*
 have n1:=QaM (whE v g.bs)
 have n2:=Qa8 (whE v g.bs)
 have n3:=Qbu (whE v g.bs)
 unfold jnV at hE⊢
 generalize xpC (whE v g.bs)=W at*
 obtain⟨p0,p1,p2,p3,rfl⟩:=four W n2
 have r1:putR [.int .i64 0,.int .i64 0,.int .i64 0,.nilsl] 0 [p0,p1,p2,p3]=[p0,p1,p2,p3]:=rfl
 by_cases hq:g.bs.length=0\/e=0
 ·rw [if_pos hq] at hE ⊢
  refine PSpec.of_rn 64 XY.ok28 rfl (by rw[noRefs,SU.Qbb];simp only[noRefs,noRef,Qax,Qaa];rfl) (by simp only[noRefs,noRef]at n1⊢;rw[n1];rfl) ?_
  simp(disch:=first|omega|exact PairsOK.mk rfl|(simp only[lenW]<;>omega)) only[XY.s28,Qag,Qac,Qal,Qad,Qam,Qai,Qab,Qan,tNil,tFA,tEq0,tEq1,tConv,tExt,tEqP,Qae,Qao,Qap,tUsd,tLen,wW,wV,simprocAttr]
  refine ch (HSpec.give2 (g:=0) hv gg (by simp only[noRefs,noRef,Qax];rfl) rfl rfl) ?_
  simp(disch:=first|omega|exact PairsOK.mk rfl|(simp only[lenW]<;>omega)) only[Qag,Qac,Qal,Qad,Qam,Qai,Qab,Qan,tNil,tFA,tEq0,tEq1,tConv,tExt,tEqP,Qae,Qao,Qap,tUsd,tLen,wW,wV,simprocAttr]
  refine cp hE ?_
  simp(disch:=first|omega|exact PairsOK.mk rfl|(simp only[lenW]<;>omega)) only[n3,r1,Qag,Qac,Qal,Qad,Qam,Qai,Qab,Qan,tNil,tFA,tEq0,tEq1,tConv,tExt,tEqP,Qae,Qao,Qap,tUsd,tLen,wW,wV,simprocAttr]
  exact⟨.inr trivial,_,rfl,Rn.same (by simp only[noRefs,noRef]at n1⊢;rw[n1];rfl)⟩
 ·rw [if_neg hq] at hE ⊢
  refine PSpec.of_rn 64 XY.ok28 rfl (by rw[noRefs,SU.Qbb];simp only[noRefs,noRef,Qax,Qaa];rfl) rfl ?_
  simp(disch:=first|omega|exact PairsOK.mk rfl|(simp only[lenW]<;>omega)) only[XY.s28,Qag,Qac,Qal,Qad,Qam,Qai,Qab,Qan,tNil,tFA,tEq0,tEq1,tConv,tExt,tEqP,Qae,Qao,Qap,tUsd,tLen,wW,wV,simprocAttr]
  refine ch (HSpec.give2 (g:=0) hv gg (by simp only[noRefs,noRef,Qax];rfl) rfl rfl) ?_
  simp(disch:=first|omega|exact PairsOK.mk rfl|(simp only[lenW]<;>omega)) only[Qag,Qac,Qal,Qad,Qam,Qai,Qab,Qan,tNil,tFA,tEq0,tEq1,tConv,tExt,tEqP,Qae,Qao,Qap,tUsd,tLen,wW,wV,simprocAttr]
  refine cp hE ?_
  simp(disch:=first|omega|exact PairsOK.mk rfl|(simp only[lenW]<;>omega)) only[Qag,Qac,Qal,Qad,Qam,Qai,Qab,Qan,tNil,tFA,tEq0,tEq1,tConv,tExt,tEqP,Qae,Qao,Qap,tUsd,tLen,wW,wV,simprocAttr]
  exact⟨.inr trivial,_,rfl,Rn.same rfl⟩
theorem _root_.Go.AM.au36 {p:Prop} (h:p:=by repeat' (first|exact RB.nil|(refine RnL.same ?_;first|rfl|(simp only[noRef,noRefs,Qah,Bool.and_self,Bool.and_true,Bool.true_and,QaY,QaS,Qav,Qax,Qa1,Qaa,QaD];done))|exact RnM.keyM rfl|exact RnL.nil|exact(True.intro:RnM _ _ _ [] [])|refine RnL.cons ?_ ?_|(refine Rn.same ?_;first|rfl|(simp only[noRef,noRefs,Qah,Bool.and_self,Bool.and_true,Bool.true_and,QaY,QaS,Qav,Qax,Qa1,Qaa,QaD];done))|exact Rn.x1 rfl rfl|exact Rn.x2 rfl rfl|exact Rn.x3 rfl rfl|exact Rn.x4 rfl rfl|exact Rn.x5 rfl|exact Rn.x6 rfl|exact Rn.x7 rfl|refine RB.newnil rfl rfl ?_|refine RB.cells rfl rfl rfl ?_ ?_|refine RB.map rfl rfl rfl ?_ ?_|refine RB.cellsB rfl rfl ?_ ?_|refine RB.mapB rfl rfl ?_ ?_)):p:=h
theorem lits32 (c:Cel) (h:WfCel c) (l:List Gdn) (hg:GOk (ctC c) (vrsL c) l):PSpec Tryz.prog 32 [celV c,gdsV l] (.tup [.int .i64 (gNm (vrsL c) l l.length:Nat),.int .i64 0]):=by
  have hv:=checked71 c h l (hg.r (by have:=Qce h;omega))
  have hnr:=Qb1 c
  have hok:=vok_c h
  have h5:=Qce h
  rw[hg.err,ckV,ckA_0]at hv
  generalize vrsL c=v at*
  have hl5:=hg.len
  refine PSpec.Qas 64 XY.ok32 rfl (by rw[noRefs,SU.Qbb,noRefs,Qby];rfl) rfl ?_
  simp(disch:=first|omega|exact PairsOK.mk rfl|(simp only[lenW]<;>omega)) only[XY.s32,Qag,Qac,Qal,Qad,Qam,Qai,Qab,Qan,tNil,tFA,tEq0,tEq1,tConv,tExt,tEqP,Qae,Qao,Qap,tUsd,tLen,wW,wV,simprocAttr]
  refine ch (PSpec.toH hv _) ?_
  simp(disch:=first|omega|exact PairsOK.mk rfl|(simp only[lenW]<;>omega)) only[Qag,Qac,Qal,Qad,Qam,Qai,Qab,Qan,tNil,tFA,tEq0,tEq1,tConv,tExt,tEqP,Qae,Qao,Qap,tUsd,tLen,wW,wV,simprocAttr]
  refine QaJ 100 (fun i:Nat=>[(6,vrsV v),(8,.int .i64 (gNm v l i:Nat)),(22,gdsV l),(23,.int .i64 l.length),(24,.int .i64 i)]) (fun _=>[]) (fun i=>i<=l.length) (fun i=>l.length-i) 0 ⟨[],rfl,au0,au36,au35⟩ (Nat.zero_le _) ?_
  rintro i hi
  by_cases hlt:i<l.length
  · obtain ⟨g, hx⟩ := Qaj hlt
    have hdr:=QcM hx
    have hdl:2<=((l.flatMap gdC).drop (i*2)).length:=by rw[hdr];simp
    have hm:=List.mem_of_getElem? hx
    have h27:=lits27 v hok g.bs (hg.bl g hm) (hg.bx g hm)
    have hn:=QhX h5 hg (i+1) (by omega)
    have hs:gNm v l (i+1)=gNm v l i+ltsN v g.bs g.bs.length:=by rw[gNm,QaB hx]
    rw[hs]at hn
    simp(disch:=first|omega|exact PairsOK.mk rfl|(simp only[lenW]<;>omega)) only[hlt,hdr,hdl,Qag,Qac,Qal,Qad,Qam,Qai,Qab,Qan,tNil,tFA,tEq0,tEq1,tConv,tExt,tEqP,Qae,Qao,Qap,tUsd,tLen,wW,wV,simprocAttr]
    refine cp h27 ?_
    simp(disch:=first|omega|exact PairsOK.mk rfl|(simp only[lenW]<;>omega)) only[Qag,Qac,Qal,Qad,Qam,Qai,Qab,Qan,tNil,tFA,tEq0,tEq1,tConv,tExt,tEqP,Qae,Qao,Qap,tUsd,tLen,wW,wV,simprocAttr]
    refine⟨i+1,by omega,by omega,?_⟩
    rw[hs,Int.natCast_add]
    exact⟨[],rfl,au0,au36,au35⟩
  · have e : i = l.length := by omega
    subst e
    simp(disch:=first|omega|exact PairsOK.mk rfl|(simp only[lenW]<;>omega)) only[hlt,Qag,Qac,Qal,Qad,Qam,Qai,Qab,Qan,tNil,tFA,tEq0,tEq1,tConv,tExt,tEqP,Qae,Qao,Qap,tUsd,tLen,wW,wV,simprocAttr]
    exact⟨.inr trivial,_,rfl,rfl⟩
end Go.AM.SO
namespace Go.AM.SO
open Go.Proofs Go.AM.SD Go.AM.SE
theorem whole26 (v:List (List UInt8×Int)) (bs:List Bxn) (h5:v.length<=5) (hin:∀x∈v,0<=x.2/\x.2<=2) (hn:∀x∈v,x.1.length=2) (hl:bs.length<=1000) (hb:∀b∈bs,BxOk v b):PSpec Tryz.prog 26 [vrsV v,bxsV bs] (.tup [.agg (xpC (whE v bs)),.str (whT v bs)]):=by
 have hW:=whole68 v bs h5 hin hn hl hb
 have n1:=QaM (whE v bs)
 have n2:=Qa8 (whE v bs)
 have n3:=Qbu (whE v bs)
 generalize xpC (whE v bs)=W at*
 obtain⟨p0,p1,p2,p3,rfl⟩:=four W n2
 have r1:putR [.int .i64 0,.int .i64 0,.int .i64 0,.nilsl] 0 [p0,p1,p2,p3]=[p0,p1,p2,p3]:=rfl
 refine PSpec.of_rn 64 XA.ok26 rfl (by simp only[noRefs,noRef,Qav,Qax];rfl) (by simp only[noRefs,noRef]at n1⊢;rw[n1];rfl) ?_
 simp(disch:=first|omega|exact PairsOK.mk rfl|(simp only[lenW]<;>omega)) only[XA.s26,Qag,Qac,Qal,Qad,Qam,Qai,Qab,Qan,tNil,tFA,tEq0,tEq1,tConv,tExt,tEqP,Qae,Qao,Qap,tUsd,tLen,wW,wV,simprocAttr]
 refine cp hW ?_
 simp(disch:=first|omega|exact PairsOK.mk rfl|(simp only[lenW]<;>omega)) only[n3,r1,Qag,Qac,Qal,Qad,Qam,Qai,Qab,Qan,tNil,tFA,tEq0,tEq1,tConv,tExt,tEqP,Qae,Qao,Qap,tUsd,tLen,wW,wV,simprocAttr]
 exact⟨.inr trivial,_,rfl,Rn.same (by simp only[noRefs,noRef]at n1⊢;rw[n1];rfl)⟩
theorem text31 (c : Cel) (h : WfCel c) (l : List Gdn) (hg : GOk (ctC c) (vrsL c) l) (hn : ∀ x ∈ vrsL c, x.1.length = 2) : PSpec Tryz.prog 31 [celV c, gdsV l] (.tup [.str (gTx (vrsL c) l l.length), .int .i64 0]) := by
  have hv:=checked71 c h l (hg.r (by have:=Qce h;omega))
  have hnr:=Qb1 c
  have hok:=vok_c h
  have h5:=Qce h
  rw[hg.err,ckV,ckA_0]at hv
  generalize vrsL c=v at*
  have hl5:=hg.len
  refine PSpec.of_rn 64 XY.ok31 rfl (by rw[noRefs,SU.Qbb,noRefs,Qby];rfl) rfl ?_
  simp(disch:=first|omega|exact PairsOK.mk rfl|(simp only[lenW]<;>omega)) only[XY.s31,Qag,Qac,Qal,Qad,Qam,Qai,Qab,Qan,tNil,tFA,tEq0,tEq1,tConv,tExt,tEqP,Qae,Qao,Qap,tUsd,tLen,wW,wV,simprocAttr]
  refine ch (PSpec.toH hv _) ?_
  simp(disch:=first|omega|exact PairsOK.mk rfl|(simp only[lenW]<;>omega)) only[Qag,Qac,Qal,Qad,Qam,Qai,Qab,Qan,tNil,tFA,tEq0,tEq1,tConv,tExt,tEqP,Qae,Qao,Qap,tUsd,tLen,wW,wV,simprocAttr]
  refine Qaz 297 (fun i:Nat=>[(2,.ptr 51 0 0),(6,vrsV v),(8,bldP),(22,gdsV l),(23,.int .i64 l.length),(24,.int .i64 i)]) (fun i=>(51,.cells 0 [evsV c.ev,its 99 c.cs,its 114 c.rs,exs c.xs,cos c.ks])::bldL (gTx v l i)) (fun i=>i<=l.length) (fun i=>l.length-i) 0 0 900 (fun _:Unit=>[(8,bldP)]) (fun _=>bldL (gTx v l l.length)) (fun _=>True) ?_ (Nat.zero_le _) ?_ ?_
  · rw [show gTx v l 0 = [] from rfl, Qb2]
    exact⟨[(51,.blk 64 0),(50,.blk 77 0)],rfl,RO.zero,RB.cells rfl rfl gg (RnL.same hnr) (RB.cells rfl rfl gg (RnL.same rfl) RB.nil),RT.cons (Rn.x2 rfl rfl) (RT.cons (Rn.same (Qar _)) (RT.cons (Rn.typed (Rn.x2 rfl rfl)) (RT.cons (Rn.same (Qby _)) au35)))⟩
  · rintro i hi
    have hTl:=QfM hn h5 hok.hin hg i hi
    by_cases hlt:i<l.length
    · obtain ⟨g, hx⟩ := Qaj hlt
      have hm:=List.mem_of_getElem? hx
      have hdr:=QcM hx
      have hdl:2<=((l.flatMap gdC).drop (i*2)).length:=by rw[hdr];simp
      have hT:=text76 v hok hn g.bs (hg.bl g hm) (hg.bx g hm)
      have hll:=QhW hn h5 hok.hin hg hm
      have hev:=(hg.ev g hm).1
      have hs:gTx v l (i+1)=gTx v l i++gLn v g:=by rw[gTx,QaB hx]
      obtain⟨ev,bs⟩:=g
      dsimp only at*
      obtain⟨k,rfl⟩:∃k:Nat,ev=(k:Int):=⟨ev.toNat,by omega⟩
      have hk5:k<5:=by omega
      have hki:(k:Int)<5:=by omega
      have hde:=QeY c.ev hk5
      have hdf:5<=((evsC c.ev).drop (k*5)).length:=by rw[hde];simp
      have hgl:UInt8.ofNat (97+k)::32::119::104::101::110::32::(whT v bs++[10])=gLn v ⟨(k:Int),bs⟩:=rfl
      have hCg:noRefs [.int .i64 (k:Int),bxsV bs]=true:=by simp only[noRefs,noRef,Qax];rfl
      generalize gTx v l i=O at*
      have hwl:=hll.2.2
      generalize gLn v ⟨(k:Int),bs⟩=G at*
      by_cases hO:O=[]
      · subst hO
        rw[Qb2]
        have w0:=wri0c [.int .i64 (k:Int),bxsV bs] [.int .i64 0,.nilsl] [evsV c.ev,its 99 c.cs,its 114 c.rs,exs c.xs,cos c.ks] hCg hnr G hll.2.1 (by omega)
        simp(disch:=first|omega|exact PairsOK.mk rfl|(simp only[lenW]<;>omega)) only[hlt,hdr,hdl,Qag,Qac,Qal,Qad,Qam,Qai,Qab,Qan,tNil,tFA,tEq0,tEq1,tConv,tExt,tEqP,Qae,Qao,Qap,tUsd,tLen,wW,wV,simprocAttr]
        refine cp hT ?_
        simp(disch:=first|omega|exact PairsOK.mk rfl|(simp only[lenW]<;>omega)) only[hki,hde,hdf,Qag,Qac,Qal,Qad,Qam,Qai,Qab,Qan,tNil,tFA,tEq0,tEq1,tConv,tExt,tEqP,Qae,Qao,Qap,tUsd,tLen,wW,wV,simprocAttr]
        rw[hgl]
        refine ch w0 ?_
        simp(disch:=first|omega|exact PairsOK.mk rfl|(simp only[lenW]<;>omega)) only[Qag,Qac,Qal,Qad,Qam,Qai,Qab,Qan,tNil,tFA,tEq0,tEq1,tConv,tExt,tEqP,Qae,Qao,Qap,tUsd,tLen,wW,wV,simprocAttr]
        refine⟨i+1,by omega,by omega,?_⟩
        rw[hs,List.nil_append,QaX hll.2.1]
        exact⟨[(51,.blk 51 0),(50,.blk 50 0),(60,.blk 390 0)],rfl,RO.zero,RB.cells rfl rfl gg (RnL.same hnr) (RB.cells rfl rfl gg (RnL.cons (Rn.typed (Rn.x2 rfl rfl)) (RnL.cons (Rn.typed (Rn.x1 rfl rfl)) RnL.nil)) (RB.cells rfl rfl gg (RnL.same (QaP _)) RB.nil)),RT.cons (Rn.x2 rfl rfl) (RT.cons (Rn.same (Qar _)) (RT.cons (Rn.typed (Rn.x2 rfl rfl)) (RT.cons (Rn.same (Qby _)) au35)))⟩
      · have hu : 0 < O.length := List.length_pos_iff.2 hO
        rw[QaX hu]
        have w1:=wri1c [.int .i64 (k:Int),bxsV bs] [.int .i64 0,.nilsl] [evsV c.ev,its 99 c.cs,its 114 c.rs,exs c.xs,cos c.ks] hCg hnr 0 O.length O G rfl hu (by omega)
        simp(disch:=first|omega|exact PairsOK.mk rfl|(simp only[lenW]<;>omega)) only[hlt,hdr,hdl,Qag,Qac,Qal,Qad,Qam,Qai,Qab,Qan,tNil,tFA,tEq0,tEq1,tConv,tExt,tEqP,Qae,Qao,Qap,tUsd,tLen,wW,wV,simprocAttr]
        refine cp hT ?_
        simp(disch:=first|omega|exact PairsOK.mk rfl|(simp only[lenW]<;>omega)) only[hki,hde,hdf,Qag,Qac,Qal,Qad,Qam,Qai,Qab,Qan,tNil,tFA,tEq0,tEq1,tConv,tExt,tEqP,Qae,Qao,Qap,tUsd,tLen,wW,wV,simprocAttr]
        rw[hgl]
        refine ch w1 ?_
        simp(disch:=first|omega|exact PairsOK.mk rfl|(simp only[lenW]<;>omega)) only[Qag,Qac,Qal,Qad,Qam,Qai,Qab,Qan,tNil,tFA,tEq0,tEq1,tConv,tExt,tEqP,Qae,Qao,Qap,tUsd,tLen,wW,wV,simprocAttr]
        refine⟨i+1,by omega,by omega,?_⟩
        rw[hs,QaX (by rw[List.length_append];omega),List.length_append]
        exact⟨[(51,.blk 51 0),(50,.blk 50 0),(60,.blk 60 1)],rfl,RO.zero,RB.cells rfl rfl gg (RnL.same hnr) (RB.cells rfl rfl gg (RnL.cons (Rn.typed (Rn.x2 rfl rfl)) (RnL.cons (Rn.typed (Rn.x1 rfl rfl)) RnL.nil)) (RB.cells rfl rfl gg (RnL.same (QaP _)) RB.nil)),RT.cons (Rn.x2 rfl rfl) (RT.cons (Rn.same (Qar _)) (RT.cons (Rn.typed (Rn.x2 rfl rfl)) (RT.cons (Rn.same (Qby _)) au35)))⟩
    · have e : i = l.length := by omega
      subst e
      by_cases hO:gTx v l l.length=[]
      · rw [hO, Qb2]
        simp(disch:=first|omega|exact PairsOK.mk rfl|(simp only[lenW]<;>omega)) only[hlt,Qag,Qac,Qal,Qad,Qam,Qai,Qab,Qan,tNil,tFA,tEq0,tEq1,tConv,tExt,tEqP,Qae,Qao,Qap,tUsd,tLen,wW,wV,simprocAttr]
        exact⟨(),[(50,.blk 50 0)],rfl,RO.zero,RB.cells rfl rfl gg (RnL.same rfl) RB.nil,RT.cons (Rn.typed (Rn.x2 rfl rfl)) RT.nil⟩
      · have hu : 0 < (gTx v l l.length).length := List.length_pos_iff.2 hO
        rw[QaX hu]
        simp(disch:=first|omega|exact PairsOK.mk rfl|(simp only[lenW]<;>omega)) only[hlt,Qag,Qac,Qal,Qad,Qam,Qai,Qab,Qan,tNil,tFA,tEq0,tEq1,tConv,tExt,tEqP,Qae,Qao,Qap,tUsd,tLen,wW,wV,simprocAttr]
        exact⟨(),[(50,.blk 50 0),(60,.blk 60 0)],rfl,RO.zero,RB.cells rfl rfl gg (RnL.cons (Rn.typed (Rn.x2 rfl rfl)) (RnL.cons (Rn.typed (Rn.x1 rfl rfl)) RnL.nil)) (RB.cells rfl rfl gg (RnL.same (QaP _)) RB.nil),RT.cons (Rn.typed (Rn.x2 rfl rfl)) RT.nil⟩
  rintro _ _
  have hTl:=QfM hn h5 hok.hin hg l.length (Nat.le_refl _)
  by_cases hO:gTx v l l.length=[]
  · have hs := string0
    rw[hO,Qb2]
    simp(disch:=first|omega|exact PairsOK.mk rfl|(simp only[lenW]<;>omega)) only[Qag,Qac,Qal,Qad,Qam,Qai,Qab,Qan,tNil,tFA,tEq0,tEq1,tConv,tExt,tEqP,Qae,Qao,Qap,tUsd,tLen,wW,wV,simprocAttr]
    refine ch hs ?_
    simp(disch:=first|omega|exact PairsOK.mk rfl|(simp only[lenW]<;>omega)) only[Qag,Qac,Qal,Qad,Qam,Qai,Qab,Qan,tNil,tFA,tEq0,tEq1,tConv,tExt,tEqP,Qae,Qao,Qap,tUsd,tLen,wW,wV,simprocAttr]
    exact⟨.inr trivial,_,rfl,Rn.same rfl⟩
  · have hu : 0 < (gTx v l l.length).length := List.length_pos_iff.2 hO
    have hs:=string1 (gTx v l l.length) hu (by omega)
    rw[QaX hu]
    simp(disch:=first|omega|exact PairsOK.mk rfl|(simp only[lenW]<;>omega)) only[Qag,Qac,Qal,Qad,Qam,Qai,Qab,Qan,tNil,tFA,tEq0,tEq1,tConv,tExt,tEqP,Qae,Qao,Qap,tUsd,tLen,wW,wV,simprocAttr]
    refine ch hs ?_
    simp(disch:=first|omega|exact PairsOK.mk rfl|(simp only[lenW]<;>omega)) only[Qag,Qac,Qal,Qad,Qam,Qai,Qab,Qan,tNil,tFA,tEq0,tEq1,tConv,tExt,tEqP,Qae,Qao,Qap,tUsd,tLen,wW,wV,simprocAttr]
    exact⟨.inr trivial,_,rfl,Rn.same rfl⟩
end Go.AM.SO
namespace Go.AM.XJ
open Go.Proofs
set_option maxHeartbeats 4000000
noncomputable section
def cf:YA.Cf:={most:= .pure}
def s6:SFn:=by
 refine(?f:YA.Yt Tryz.prog cf 6 [[0,1,4],[24,25,26,27,28,29],[2,3,30,31],[4,2,30,33,34,32,35,36],[6,37],[3,5,38],[4,3,38,39,40,41],[42,43],[],[],[44,45,46],[47,51,52,53,54,55,56,57,50,58,59],[13,60,61,62,63,64,65,66,67,68,69,70,71,72,73,74,75],[77,78,79,80,81,82,83,76,84,85],[15,86],[5,7,8,9,10,11,118,117,115,116,146,145,142,140,141,137,136,12,14,87],[4,14,87,88,89,90],[92,93,94,95,96,97,91,98,99],[101,102,103,104,100,105,106,18],[107],[12,16,17,19,108,109,110],[5,7,8,9,10,11,118,117,115,116,146,145,142,140,141,137,136,111],[12,16,17,19,108,112,113,114],[5,7,8,9,10,11,118,117,115,116,146,145,142,140,141,137,136,119],[4,111,119,48,49],[8,11,118,117,115,116,121,122,123,120,124,125],[5,7,127,128,129,126,130,131],[9,10,146,145,142,140,141,137,136,20,21,22,23,132,133,134,135,138,139,143,144,147]] [(10,[(5,9)])]) ?s ?h
 case h=>exact YA.rr
 exact fun s _=>s
theorem ok6:okFn Tryz.prog 6 s6=true:=by kernel_rfl
end
end Go.AM.XJ
namespace Go.AM.SO
open Go.Proofs Go.AM.SD Go.AM.SE
theorem QqM {l:List Gdn} {g:Gdn} (h:l.Pairwise fun y z=>y.ev<z.ev) (hb:∀y∈l,y.ev<g.ev):(l++[g]).Pairwise fun y z=>y.ev<z.ev:=by
 rw[List.pairwise_append]
 exact⟨h,by simp,fun a ha b hb2=>by rw[List.mem_singleton.1 hb2];exact hb a ha⟩
theorem QqN {ct:Nat->Bool} {v:List (List UInt8×Int)}:GOk ct v []:=⟨by simp,fun g hg=>(by cases hg),fun g hg=>(by cases hg),fun g hg=>(by cases hg)⟩
theorem QqO {v:List (List UInt8×Int)} (hin:∀x∈v,0<=x.2/\x.2<=2) {D:List Nat} {e i:Nat}:BxOk v (dBx v D e i v.length):=by
 refine⟨by simp[dBx],by simp[dBx],fun j x hx=>?_⟩
 have hj:=(List.getElem?_eq_some_iff.1 hx).1
 have h0:=(hin x (List.mem_of_getElem? hx)).1
 have e1:(dBx v D e i v.length).lo.getD j 0=dLo v D e i j:=by
  unfold dBx
  rw[List.getD_eq_getElem?_getD,List.getElem?_map,List.getElem?_range hj];rfl
 have e2:(dBx v D e i v.length).hi.getD j 0=dHi v D e i j:=by
  unfold dBx
  rw[List.getD_eq_getElem?_getD,List.getElem?_map,List.getElem?_range hj];rfl
 rw[e1,e2]
 have h1:=@Qhw v D e i j x hx h0
 have h2:=@QkC v D e i j x hx h0
 omega
theorem dr_in {v : List (List UInt8 × Int)} (hin : ∀ x ∈ v, 0 <= x.2 /\ x.2 <= 2) {D : List Nat} {ct : Nat -> Bool} {own : List Gdn} {fd : Nat -> Int} (ho : GOk ct v own) (hfd : ∀ e : Nat, e < 5 -> fd e = -1 \/ ∃ (f : Nat) (g : Gdn), fd e = f /\ own[f]? = some g /\ g.ev = (e : Int)) : ∀ e, e <= 5 -> (drQ v D ct own fd e).Pairwise (fun y z => y.ev < z.ev) /\ ∀ g ∈ drQ v D ct own fd e, (0 <= g.ev /\ g.ev < (e : Int)) /\ ct g.ev.toNat = true /\ g.bs.length <= 1000 /\ ∀ b ∈ g.bs, BxOk v b
  |0,_=>⟨by simp[drQ],fun g hg=>by cases hg⟩
  | e + 1, he => by
    obtain⟨h1,h2⟩:=@dr_in v hin D ct own fd ho hfd e (by omega)
    rw[drQ]
    split
    · rename_i hc
      have hnew:(drG v D own fd e).ev=(e:Int)/\(drG v D own fd e).bs.length<=1000/\∀b∈(drG v D own fd e).bs,BxOk v b:=by
        unfold drG
        split
        · rename_i hk
          rcases hfd e (by omega)with h3|⟨f,g,h3,h4,h5⟩
          · omega
          · have hf : (fd e).toNat = f := by omega
            rw[hf,QaB h4]
            have hm:=List.mem_of_getElem? h4
            exact⟨h5,ho.bl g hm,ho.bx g hm⟩
        · refine ⟨rfl, ?_, fun b hb => ?_⟩
          · show (List.map _ _).length <= _
            rw[List.length_map,List.length_range]
            have:dKd D e<4:=by unfold dKd;omega
            omega
          · obtain ⟨i, _, rfl⟩ := List.mem_map.1 hb
            exact QqO hin
      generalize drG v D own fd e=G at*
      obtain⟨n1,n2,n3⟩:=hnew
      refine⟨QqM h1 fun y hy=>?_,fun g hg=>?_⟩
      · have:=(h2 y hy).1;omega
      · rcases List.mem_append.1 hg with hg | hg
        · obtain ⟨k1, k2⟩ := h2 g hg
          exact⟨by omega,k2⟩
        · rw [List.mem_singleton.1 hg]
          refine⟨by omega,?_,n2,n3⟩
          rw[n1];exact hc.1
    · exact⟨h1,fun g hg=>by obtain⟨k1,k2⟩:=h2 g hg;exact⟨by omega,k2⟩⟩
theorem dr_ok {v:List (List UInt8×Int)} (hin:∀x∈v,0<=x.2/\x.2<=2) {D:List Nat} {ct:Nat->Bool} {own:List Gdn} {fd:Nat->Int} (ho:GOk ct v own) (hfd:∀e:Nat,e<5->fd e= -1\/∃(f:Nat) (g:Gdn),fd e=f/\own[f]?=some g/\g.ev=(e:Int)):GOk ct v (drQ v D ct own fd 5):=by
 obtain⟨h1,h2⟩:=@dr_in v hin D ct own fd ho hfd 5 (Nat.le_refl _)
 exact⟨h1,fun g hg=>⟨(h2 g hg).1,(h2 g hg).2.1⟩,fun g hg=>(h2 g hg).2.2.1,fun g hg=>(h2 g hg).2.2.2⟩
theorem QqP (c:Cel) (h:WfCel c) (D:List Nat) (hD:D.length=125) (hDl:∀x∈D,x<256) (own:List Gdn) (ho:GOk (ctC c) (vrsL c) own):∃l,PSpec Tryz.prog 18 [.agg (u8s D),celV c,gdsV own] (gdsV l)/\GOk (ctC c) (vrsL c) l:=by
 have hol:own.length<=1000:=by have:=ho.len;omega
 obtain⟨fd,hfd⟩:∃fd:Nat->Int,∀e:Nat,PSpec Tryz.prog 61 [gdsV own,.int .i64 (e:Int)] (.int .i64 (fd e))/\((fd e= -1/\∀g∈own,g.ev≠(e:Int))\/∃(f:Nat) (g:Gdn),fd e=f/\own[f]?=some g/\g.ev=(e:Int)/\∀(j:Nat) y,j<f->own[j]?=some y->y.ev≠(e:Int)):=⟨fun e=>Classical.choose (find61 own e hol),fun e=>Classical.choose_spec (find61 own e hol)⟩
 refine⟨_,list18 D hD hDl c own hol fd (fun e _=>(hfd e).1) (fun e _=>?_) (vrsL c) (Qce h) (QdI h) (vars12 c h),dr_ok (QdI h) ho fun e _=>?_⟩
 ·rcases (hfd e).2 with ⟨h1, _⟩ | ⟨f, g, h1, h2, _⟩
  ·omega
  ·have:=(List.getElem?_eq_some_iff.1 h2).1;omega
 ·rcases (hfd e).2 with ⟨h1, _⟩ | ⟨f, g, h1, h2, h3, _⟩
  ·exact .inl h1
  ·exact .inr ⟨f,g,h1,h2,h3⟩
end Go.AM.SO
namespace Go.AM.GJ
open Go.Proofs
set_option maxHeartbeats 4000000
noncomputable section
def cf:YA.Cf:={}
noncomputable def ft:FT2:=YA.tre Tryz.prog cf 20 [8,13,14,23,31,35,41,44,45,46,47,48,49,50,51,52,53,62,64,65,66,69,70,71,76,77,78,83,84,86,88,95,98,99,100,101,102,103,104,105,106,107,108,109,110,111,112,113,114,115,116,117,118,119,120,121,122,123,127,128,129,130,131,132,133,139,142,144,146,147,151,152,154,155,156,157,158,159,160,161,162,163,164,165,166,167,168,169,170,171,172,173,174,175,176,177,178,179,182,183,191,192,193,194,195,196,197,198,199,200,201,202,203,204,205,206,207,208,209,210,211,212,213,214,215,216,217,218,219,220,221,222,223,224,225,226,227,228,229,230,231,232,233,234,236,237,245,251,252,253,254,255,256,257,258,259,260,261,262,263,264,265,266,267,268,269,270,271,272,276,277,278,279,280,281,282,283,284,286,287,288,289,290,291]
theorem ft_ok:ft.OK Tryz.prog:=YA.Qfr _ _ (YA.QeP (by kernel_rfl))
end
end Go.AM.GJ
