/- A part of the proof of GuardsLoopCardSaid: lemmas on the way (AnVy, AnVz). Conditions: none of ours. -/
import Derived.Test.YtikknocmfjfohaaGreatDoorAmL18
theorem Go.AM.b6qot{p:Prop}(h:p:=by
 refine ZcQ (Zc1 z G) ?_;refine cp t ?_;refine ZcP ?_;refine cp a ?_;refine ZcP ?_;refine cp g ?_;refine ZcQ d ?_;exact⟨.inr trivial,rfl⟩):p:=h
set_option linter.unusedSectionVars false
set_option maxHeartbeats 32000000
set_option maxRecDepth 100000
set_option linter.unusedVariables false
set_option linter.unusedSimpArgs false
namespace Go.AM.SO
open Go.Proofs Go.AM.SD Go.AM.SE
theorem Qhc(D):(u8s D).all AV.one=true:=by unfold u8s;simp[AV.one]
theorem wkNilG{sz}:SN.Wk .nilsl (.fsl [] 0 sz):=fun _ c w v a=>by simp only[VRel]at a⊢;exact .inl ⟨⟨none,a⟩,trivial,trivial⟩
theorem wka{f}{xs ys}{v}(hp:Ps f ys v)(hw:SN.WkL xs ys)(d:noRefs xs=true):Ps f xs v:=by obtain⟨_,b,g,hc,h⟩:=hp;exact⟨d,b,g,hc,fun c w a H i=>h c w a H (hw.rels i)⟩
theorem Qfz{c}(h:WfCel c)(l):AOk (restr (Lc c l) tru):=by have a:WfA (restr (Lc c l) tru):=QdI (Qef (wB_c h).toWfA);exact Qjv a (by have:=WfA.el1 a;omega)
theorem Qr9{c}(h:WfCel c):AOk (resC c).sup:=by have a:WfA (resC c).sup:=QdI (wB_c h).toWfA;exact Qjv a (by have:=WfA.el1 a;omega)
theorem law4(p)(h:POk p)(O:p.xn<=9223372036854775807)(D)(L:D.length=125)(H:∀x∈D,x<256):W2 Tryz.prog ⟨VK.s4.n,0⟩ VK.s4.body (fun e B=>(e=.normal\/e=.ret)/\resV B.T B.h VK.s4.res=some [.bool true]) ⟨argT 0 [plnV p,.agg (u8s D)],.e⟩:=by
 refine(wpC.toW (n:=40) (Q:=fun e T h _=>(e=.normal\/e=.ret)/\resV T h VK.s4.res=some [.bool true]) (show wS Tryz.prog ⟨VK.s4.n,0⟩ VK.s4.body [] 40 _ _ _ from ?_)).mono fun e B⟨_,h⟩=>h;have F:=GJ.known29;have hlen:=SU.QjS h;have o:=SU.QjT h;have J:=@SU.Qej p;have Y:=short25 p h O;have R:=SU.Make26 p h;have hw:=@Qu9 p;have N:noRefs (u8s D)=true:=QaP D;have m:(u8s D).length=125:=by rw[SU.QcD];exact L
 have u:=Qhc D;have s:(u8s D).take 125=u8s D:=by rw[<-m,Zao]
 have q:(plnC p).take 152=plnC p:=by rw[<-hlen,Zao]
 show wS _ _ _ _ _ (argT 0 [.agg (plnC p),.agg (u8s D)]) _ _;have v:Ps 9 [.agg (plnC p)] (.bool (decide (p.xn<=4))):=Y;have I:Ps 42 [.agg (plnC p)] (celV (mkC p)):=R;clear Y R;generalize plnC p=C at*;generalize mkC p=c at*;have M:=small10 c hw C hlen o J I;by_cases X:p.xn<=4
 ·rw[decide_eq_true X]at v;have hO:=open15 c hw;have Q:=cell22 c hw;rw[spC,spG]at Q;have Z:=Qp0 c hw;have S:=Qbi c;unfold VK.s4;refine ZcQ (Zc5 hlen o q m u s) ?_;refine cp F ?_;refine ZcQ (Zc1 hlen q) ?_;refine cp v ?_;refine ZcQ (Zc1 hlen q) ?_;refine cp M ?_;refine ZcP ?_;refine cp hO ?_;refine ZcP ?_;refine cp Q ?_;refine ZcP ?_;by_cases U:0<(resC c).sup.n
  ·have i:=QvQ hw;obtain⟨l,b,y⟩:=Qr8 c hw D L H _ i;have A:=loop19 c hw l y;have E:=Qph c hw l y;have g:=verify23 c hw l y;have d:=Qpj c hw l y;have k:=same30 (restr (Lc c l) tru) (restr (Lc c l) tru) (Qfz hw l) (Qfz hw l);have t:=same30 (restr (Lc c l) tru) (resC c).sup (Qfz hw l) (Qr9 hw);rw[Qe6]at k;have n:(nz (sAll (Lc c l) tru).1).length<=140737488355328:=by have h1:=(Qb1 (left:=tru) (Qef (pm:=pmC c l) (wB_c hw).toWfA)).1.fi.len;have K:=(wB_c hw).n5;rw[Qb6];exact Zaw h1 (Zaw K (by decide))
   have f:=sameInts (nz (sAll (Lc c l) tru).1) (nz (sAll (Lc c l) tru).1) n;have a:=sameInts (nz (sAll (Lc c l) tru).1) (nz (resC c).orig) n;rw[Qbg]at f a;rw[Qbg]at a;rw[decide_eq_true rfl]at f;have P:decide (nz (sAll (Lc c l) tru).1=nz (resC c).orig)=decide ((sAll (Lc c l) tru).1=(resC c).orig):=by rw[Qjb]
   rw[P]at a;have v0:(resC c).sup.n=0->verZ c l=21:=fun e=>by unfold verZ;rw[if_pos e]
   generalize verZ c l=V at*;generalize byO (Qc c) (Pc c).es (PPc c) (ctC c) (pmC c l) (sAll (Lc c l) tru).1=BY at*;generalize autB (restr (Lc c l) tru) (resC c).sup=AE at*;refine ZcQ U ?_;refine cp Z ?_;generalize expC c=own at*;refine ZcQ (Zc2 m u s) ?_;refine cp b ?_;refine ZcP ?_;refine cp A ?_;refine ZcP ?_;refine cp E ?_;refine ZcP ?_;refine cp k ?_;refine ZcP ?_;refine cp f ?_;have z:¬(resC c).sup.n=0:=by omega
   have G:¬((resC c).sup.n:Int)=0:=by omega
   have d:=d z;cases BY with|true=>
    have d:V=24:=by rw[d,if_pos (.inl rfl)]
    refine ZcQ (Zc1 z G) ?_;refine cp g ?_;refine ZcQ d ?_;exact⟨.inr trivial,rfl⟩|false=>cases AE with|false=>
     have d:V=24:=by rw[d,if_pos (.inr (.inl (by decide)))]
     refine ZcQ (Zc1 z G) ?_;refine cp t ?_;refine ZcP ?_;refine cp g ?_;refine ZcQ d ?_;exact⟨.inr trivial,rfl⟩|true=>
     by_cases w:(sAll (Lc c l) tru).1=(resC c).orig
     ·have d:V=0:=by
       rw[d,if_neg];rintro(h1|h1|h1);·cases h1
       ·exact h1 rfl
       exact h1 w
      rw[decide_eq_true w]at a;exact b6qot
     have d:V=24:=by rw[d,if_pos (.inr (.inr w))]
     rw[decide_eq_false w]at a;exact b6qot
  have i:GOk (ctC c) (vrsL c) []:=QvR;obtain⟨l,b,y⟩:=Qr8 c hw D L H _ i;have A:=loop19 c hw l y;have E:=Qph c hw l y;have g:=verify23 c hw l y;have d:=Qpj c hw l y;have k:=same30 (restr (Lc c l) tru) (restr (Lc c l) tru) (Qfz hw l) (Qfz hw l);have t:=same30 (restr (Lc c l) tru) (resC c).sup (Qfz hw l) (Qr9 hw);rw[Qe6]at k;have n:(nz (sAll (Lc c l) tru).1).length<=140737488355328:=by have h1:=(Qb1 (left:=tru) (Qef (pm:=pmC c l) (wB_c hw).toWfA)).1.fi.len;have K:=(wB_c hw).n5;rw[Qb6];exact Zaw h1 (Zaw K (by decide))
  have f:=sameInts (nz (sAll (Lc c l) tru).1) (nz (sAll (Lc c l) tru).1) n;have a:=sameInts (nz (sAll (Lc c l) tru).1) (nz (resC c).orig) n;rw[Qbg]at f a;rw[Qbg]at a;rw[decide_eq_true rfl]at f;have P:decide (nz (sAll (Lc c l) tru).1=nz (resC c).orig)=decide ((sAll (Lc c l) tru).1=(resC c).orig):=by rw[Qjb]
  rw[P]at a;have v0:(resC c).sup.n=0->verZ c l=21:=fun e=>by unfold verZ;rw[if_pos e]
  generalize verZ c l=V at*;generalize byO (Qc c) (Pc c).es (PPc c) (ctC c) (pmC c l) (sAll (Lc c l) tru).1=BY at*;generalize autB (restr (Lc c l) tru) (resC c).sup=AE at*;have z:(resC c).sup.n=0:=by omega
  have G:((resC c).sup.n:Int)=0:=by omega
  have b:Ps 18 [.agg (u8s D),celV c,.nilsl] (gdsV l):=wka b ⟨SN.Wk.refl _,SN.Wk.refl _,wkNilG,trivial⟩ (by rw[noRefs,noRef,N,noRefs,SU.QaX];rfl);refine ZcQ (Zc3 U m u s) ?_;refine cp b ?_;refine ZcP ?_;refine cp A ?_;refine ZcP ?_;refine cp E ?_;refine ZcP ?_;refine cp k ?_;refine ZcP ?_;refine cp f ?_;have v0:=v0 z;refine ZcQ (Zc1 z G) ?_;refine cp g ?_;refine ZcQ v0 ?_;exact⟨.inr trivial,rfl⟩
 rw[decide_eq_false X]at v;unfold VK.s4;refine ZcQ (Zc5 hlen o q m u s) ?_;refine cp F ?_;refine ZcQ (Zc1 hlen q) ?_;refine cp v ?_;refine ZcP ?_;refine cp F ?_;refine ZcP ?_;exact⟨.inr trivial,rfl⟩
theorem okg4:okFn Tryz.prog 4 VK.s4=true:=(Ok VK.s4)
abbrev tyDrf:Ty:=.arr 5 (.st (.pair (.int .u8) (.pair (.arr 2 (.arr 6 (.arr 2 (.int .u8)))) .unit)))
theorem QvT{d}(h:tyDrf.wf d):∃D:List Nat,D.length=125/\(∀x∈D,x<256)/\tyDrf.val d=.agg (u8s D):=by obtain⟨l,h1,a,b⟩:=Qci tyDrf rfl d h;exact⟨l,h1,a,congrArg AV.agg b⟩
theorem glaw4_in(d0)(d1)(b:tyPln.wf d0)(h1:tyDrf.wf d1):W2 Tryz.prog ⟨VK.s4.n,0⟩ VK.s4.body (fun e B=>(e=.normal\/e=.ret)/\resV B.T B.h VK.s4.res=some [.bool true]) ⟨argT 0 [tyPln.val d0,tyDrf.val d1],.e⟩:=by obtain⟨p,hp,f,g⟩:=QvC b;obtain⟨D,c,a,d⟩:=QvT h1;rw[g,d];exact law4 p hp f D c a
end Go.AM.SO
