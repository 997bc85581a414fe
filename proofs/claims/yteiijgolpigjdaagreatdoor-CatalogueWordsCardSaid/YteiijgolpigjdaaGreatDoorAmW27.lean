/- A part of the proof of CatalogueWordsCardSaid: lemmas on the way (AnYd, AnZx, AnYe). Conditions: none of ours. -/
import Derived.Test.YteiijgolpigjdaaGreatDoorAmW26
set_option linter.unusedSectionVars false
set_option maxHeartbeats 32000000
set_option maxRecDepth 100000
set_option linter.unusedVariables false
set_option linter.unusedSimpArgs false
namespace Go.AM.SO
open Go.Proofs Go.AM.SD Go.AM.SE
theorem Qrg:∀p∈pairs,(facC p.1 p.2).sp<=100->∃sts,chkW p.1 p.2 sts=true:=by
 intro p hp
 simp only[pairs,List.mem_cons,List.not_mem_nil,or_false]at hp
 rcases hp with rfl|rfl|rfl|rfl|rfl|rfl|rfl|rfl|rfl|rfl|rfl|rfl|rfl|rfl|rfl|rfl|rfl|rfl|rfl|rfl|rfl|rfl|rfl|rfl|rfl|rfl|rfl|rfl
 ·exact fun _=>⟨_,Qs0⟩
 ·exact fun _=>⟨_,Qs1⟩
 ·exact fun _=>⟨_,Qs2⟩
 ·exact fun _=>⟨_,Qs3⟩
 ·exact fun _=>⟨_,Qs4⟩
 ·exact fun _=>⟨_,Qs5⟩
 ·exact fun _=>⟨_,Qs6⟩
 ·exact fun _=>⟨_,Qs7⟩
 ·exact fun _=>⟨_,Qs8⟩
 ·exact fun _=>⟨_,Qs9⟩
 ·exact fun h=>absurd h (by decide)
 ·exact fun h=>absurd h (by decide)
 ·exact fun h=>absurd h (by decide)
 ·exact fun _=>⟨_,Qta⟩
 ·exact fun _=>⟨_,Qtb⟩
 ·exact fun _=>⟨_,Qtc⟩
 ·exact fun _=>⟨_,Qtd⟩
 ·exact fun _=>⟨_,Qte⟩
 ·exact fun _=>⟨_,Qtf⟩
 ·exact fun _=>⟨_,Qtg⟩
 ·exact fun _=>⟨_,Qth⟩
 ·exact fun h=>absurd h (by decide)
 ·exact fun h=>absurd h (by decide)
 ·exact fun _=>⟨_,Qti⟩
 ·exact fun _=>⟨_,Qtj⟩
 ·exact fun _=>⟨_,Qtk⟩
 ·exact fun h=>absurd h (by decide)
 ·exact fun h=>absurd h (by decide)
structure CatW (k n:Nat):Prop where
 rk:KN.runK k n=true
 rc:KN.runC k n=true
 wf:(facC k n).sp<=100->WfG (catC k n)
theorem Qqk:∀p∈pairs,CatW p.1 p.2:=by
 intro p hp
 simp only[pairs,List.mem_cons,List.not_mem_nil,or_false]at hp
 rcases hp with rfl|rfl|rfl|rfl|rfl|rfl|rfl|rfl|rfl|rfl|rfl|rfl|rfl|rfl|rfl|rfl|rfl|rfl|rfl|rfl|rfl|rfl|rfl|rfl|rfl|rfl|rfl|rfl
 ·exact⟨KN.QrK,KN.QrL,fun _=>QsF⟩
 ·exact⟨KN.QrM,KN.QrN,fun _=>QsG⟩
 ·exact⟨KN.QrO,KN.QrP,fun _=>QsH⟩
 ·exact⟨KN.QrQ,KN.QrR,fun _=>QsI⟩
 ·exact⟨KN.QrS,KN.QrT,fun _=>QsJ⟩
 ·exact⟨KN.QrU,KN.QrV,fun _=>QsK⟩
 ·exact⟨KN.QrW,KN.QrX,fun _=>QsL⟩
 ·exact⟨KN.QrY,KN.QrZ,fun _=>QsM⟩
 ·exact⟨KN.Qr0,KN.Qr1,fun _=>QsN⟩
 ·exact⟨KN.Qr2,KN.Qr3,fun _=>QsO⟩
 ·exact⟨KN.Qr4,KN.Qr5,fun h=>absurd h (by decide)⟩
 ·exact⟨KN.Qr6,KN.Qr7,fun h=>absurd h (by decide)⟩
 ·exact⟨KN.Qr8,KN.Qr9,fun h=>absurd h (by decide)⟩
 ·exact⟨KN.Qso,KN.Qsp,fun _=>QsP⟩
 ·exact⟨KN.Qsq,KN.Qsr,fun _=>QsQ⟩
 ·exact⟨KN.Qss,KN.Qst,fun _=>QsR⟩
 ·exact⟨KN.Qsa,KN.Qsb,fun _=>QsS⟩
 ·exact⟨KN.Qsc,KN.Qsd,fun _=>QsT⟩
 ·exact⟨KN.Qse,KN.Qsf,fun _=>QsU⟩
 ·exact⟨KN.Qsg,KN.Qsh,fun _=>QsV⟩
 ·exact⟨KN.Qsi,KN.Qsj,fun _=>QsW⟩
 ·exact⟨KN.Qsk,KN.Qsl,fun h=>absurd h (by decide)⟩
 ·exact⟨KN.Qsm,KN.Qsn,fun h=>absurd h (by decide)⟩
 ·exact⟨KN.Qsu,KN.Qsv,fun _=>QsX⟩
 ·exact⟨KN.Qsw,KN.Qsx,fun _=>QsY⟩
 ·exact⟨KN.Qsy,KN.Qsz,fun _=>QsZ⟩
 ·exact⟨KN.QsA,KN.QsB,fun h=>absurd h (by decide)⟩
 ·exact⟨KN.QsC,KN.QsD,fun h=>absurd h (by decide)⟩
theorem Qps (a b:Nat) (ha:a<256) (hb:b<256):∃k n:Nat,CatW k n/\(k,n)∈pairs/\PSpec Tryz.prog 6 [.int .u8 (a:Int),.int .u8 (b:Int)] (.tup [.int .i64 (k:Int),.int .i64 (n:Int)]):=by
 have h5:a % 5<5:=Nat.mod_lt _ (by decide)
 have h9:=Qpp (a % 5) h5 (b % room (a % 5)) (Nat.mod_lt _ (by unfold room;omega))
 refine⟨_,_,Qqk _ h9,h9,?_⟩
 have:=pick6 a b ha hb
 rwa [show(1+((a % 5:Nat):Int))=((1+a % 5:Nat):Int) by omega,show((least (a % 5):Int)+((b % room (a % 5):Nat):Int))=((least (a % 5)+b % room (a % 5):Nat):Int) by omega]at this
theorem Qtl:∀p∈pairs,0<(catC p.1 p.2).ev.length:=by decide
theorem Qig (l:List Nat):noRefs (u8s l)=true:=by
 induction l with
 |nil=>rfl
 |cons x l ih=>show noRefs (AV.int .u8 (x:Int)::u8s l)=true;rw[noRefs,ih];rfl
theorem Qb9 (x:Nat):noRefs (sxC x)=true:=by
 unfold sxC
 induction dig 20 x with
 |nil=>rfl
 |cons a l ih=>rw[List.map_cons,noRefs,ih];rfl
theorem Qf9 {es:List Ed}:∀{w:List Nat} {s x:Nat},runA es s (w++[x])=(runA es s w).bind fun t=>stepA es t x
 |[],s,x=>by
  show(match stepA es s x with|some n=>runA es n []|none=>none)=stepA es s x
  cases stepA es s x<;>rfl
 |y::w,s,x=>by
  show(match stepA es s y with|some n=>runA es n (w++[x])|none=>none)=(match stepA es s y with|some n=>runA es n w|none=>none).bind fun t=>stepA es t x
  cases stepA es s y with
  |none=>rfl
  |some n=>exact Qf9
theorem Qpt {es:List Ed} {v e t:Nat} (h:stepA es v e=some t):(v,e,t)∈es:=by
 unfold stepA at h
 cases hf:es.find? fun x=>x.1==v&&x.2.1==e with
 |none=>rw[hf]at h;cases h
 |some x=>
  rw[hf]at h
  have h1:=List.find?_some hf
  have h2:=List.mem_of_find?_eq_some hf
  obtain⟨x1,x2,x3⟩:=x
  simp at h1 h
  obtain⟨rfl,rfl⟩:=h1
  subst h
  exact h2
theorem frz_n {h:Heap} {b g m:Nat} {w:List Nat} {e:Nat} (hm:m=w.length+1) (hb:h.get b=some (.cells g (ints (nz w)++[.int .i64 (e:Int)]))):FrzTo h (.sl b g 0 m 1) (sliN (w++[e])):=hm▸frz_w hb
theorem _root_.Go.AM.au30 {p:Prop} (h:p:=by repeat (first|exact RT.nil|(refine RT.cons ?_ ?_; · (first|exact Rn.any|exact Rn.x1 rfl rfl|exact Rn.x2 rfl rfl|exact Rn.x3 rfl rfl|exact Rn.x4 rfl rfl|exact Rn.x5 rfl|exact Rn.x6 rfl|exact Rn.x7 rfl|(refine Rn.slot ?_ ?_;(first|rfl|(rw[Int.natCast_add];rfl));(first|rfl|(simp only[noRef,noRefs,Qah,Bool.and_self,Bool.and_true,Bool.true_and,Qab,Qap,Qaa,Qak,Qa1,Qaf,Qcz,Qcg,Qbe,Qbo,Qb0,Qpq,Qig];done)))|(refine Rn.fn ?_ ?_<;>(repeat' (first|exact RnL.nil|refine RnL.cons ?_ ?_|exact Rn.same rfl|exact Rn.x6 rfl|exact Rn.x2 rfl rfl|exact Rn.x5 rfl|exact Rn.x1 rfl rfl))))))):p:=h
theorem law2 (a b : Nat) (ha : a < 256) (hb : b < 256) (w : List Nat) (hw8 : ∀ x ∈ w, x < 256) :
    W2 Tryz.prog ⟨CA.s4.n,0⟩ CA.s4.body (fun e B=>(e= .normal\/e= .ret)/\resV B.T B.h CA.s4.res=some [.bool true]) ⟨argT 0 [.int .u8 (a:Int),.int .u8 (b:Int),.fsl (u8s w) w.length 1],.e⟩:=by
  refine(wpC.toW (n:=40) (Q:=fun e T h _=>(e= .normal\/e= .ret)/\resV T h CA.s4.res=some [.bool true]) (show wS Tryz.prog ⟨CA.s4.n,0⟩ CA.s4.body [] 40 _ _ _ from ?_)).mono fun e B ⟨_,h⟩=>h
  obtain⟨k,n,hcat,hmem,hp⟩:=Qps a b ha hb
  have hkn:=KN.known5
  have hnu:=Qig w
  by_cases hl:w.length<=10
  · have hK : PSpec Tryz.prog 7 [.int .i64 (k : Int), .int .i64 (n : Int)] (.tup [.agg [.int .i64 ((facC k n).sp : Int), .int .i64 ((facC k n).fb : Int), .int .i64 ((facC k n).kp : Int), .int .i64 ((facC k n).su : Int), bnsV (facC k n).bn], .int .i64 0]) := KN.known7 hcat.rk
    have hC:=KN.cell8 hcat.rc
    have hkw:=hcat.wf
    have htb:=Qrg _ hmem
    dsimp only at htb
    have q1:¬((10:Int)<(w.length:Int)):=by omega
    by_cases h4:(facC k n).sp<=100
    · have q4 : ¬((100 : Int) < ((facC k n).sp : Int)) := by omega
      have hw:=hkw h4
      obtain⟨sts,hst⟩:=htb h4
      obtain⟨t1,t2,t3,t4⟩:=Qre (Qrf hst)
      have hsup:=supG _ hw
      have hwr:WfA (resG (catC k n)).sup:=Qk5 (wfAG _ hw)
      have hne:0<(catC k n).ev.length:=Qtl _ hmem
      clear hcat hkw htb hst
      have hnc:=QbF (catC k n)
      generalize facC k n=f at*
      generalize (resG (catC k n)).sup=R at*
      generalize catC k n=c at*
      obtain⟨sp,fb,kp,su,bn⟩:=f
      dsimp only at*
      have hna:noRefs [sliN R.al,.int .i64 (R.n:Int),sliN R.ms,egsN R.es]=true:=by simp only[noRefs,noRef,Qab,Qaf];rfl
      simp(disch:=first|omega|exact PairsOK.mk rfl|(simp only[lenW]<;>omega)) only[CA.s4,q1,Qac,Qad,Qae,Qag,Qaj,Qam,wW,wV,simprocAttr]
      refine cp hkn ?_
      simp(disch:=first|omega|exact PairsOK.mk rfl|(simp only[lenW]<;>omega)) only[q1,Qac,Qad,Qae,Qag,Qaj,Qam,wW,wV,simprocAttr]
      refine cp hp ?_
      simp(disch:=first|omega|exact PairsOK.mk rfl|(simp only[lenW]<;>omega)) only[Qac,Qad,Qae,Qag,Qaj,Qam,wW,wV,simprocAttr]
      refine cp hC ?_
      simp(disch:=first|omega|exact PairsOK.mk rfl|(simp only[lenW]<;>omega)) only[Qac,Qad,Qae,Qag,Qaj,Qam,wW,wV,simprocAttr]
      refine cp hK ?_
      simp(disch:=first|omega|exact PairsOK.mk rfl|(simp only[lenW]<;>omega)) only[q4,Qac,Qad,Qae,Qag,Qaj,Qam,wW,wV,simprocAttr]
      refine cp hsup ?_
      simp(disch:=first|omega|exact PairsOK.mk rfl|(simp only[lenW]<;>omega)) only[Qac,Qad,Qae,Qag,Qaj,Qam,wW,wV,simprocAttr]
      refine Qbh 200 (fun a:Nat×Bool×List AV=>[(2,.fsl (u8s w) w.length 1),(7,.int .i64 (k:Int)),(8,.int .i64 (n:Int)),(9,.ptr 51 0 0),(13,.ptr 52 0 0),(15,.sl 60 0 0 a.1 1),(16,.bool a.2.1),(17,.sl 0 0 0 20 1),(18,.int .i64 (a.1:Int))])
        (fun a=>[(0,.cells 0 a.2.2),(51,.cells 0 [evns c.ev,itsN c.cs,itsN c.rs,exsZ [],cosZ c.ks]),(52,.cells 0 [sliN R.al,.int .i64 (R.n:Int),sliN R.ms,egsN R.es]),(60,.cells 0 (ints (nz ((w.map fun x=>x % c.ev.length).take a.1))))])
        (fun a=>a.1<=w.length/\noRefs a.2.2=true/\(a.2.1=true->∃v,v<R.n/\runA R.es 0 ((w.map fun x=>x % c.ev.length).take a.1)=some v/\a.2.2=sxC (sts.getD v 0))) (fun a=>w.length-a.1) (0,true,sxC 0) ?_ ⟨Nat.zero_le _,Qb9 0,fun _=>⟨0,t2,rfl,?_⟩⟩ ?_
      · refine ⟨[(0, .blk 97 0), (51, .blk 62 0), (52, .blk 90 0), (60, .nil)], rfl, au0, ?_, au30⟩
        exact RB.cells rfl rfl gg (show RnL _ _ _ (sxC 0) (sxC 0) from RnL.same (Qb9 0)) (RB.cells rfl rfl gg (RnL.same hnc) (RB.cells rfl rfl gg (RnL.same hna) (RB.newnil rfl rfl RB.nil)))
      · cases sts with
        |nil=>exact absurd t3 (by simp;omega)
        |cons y l=>simp at t1;subst t1;rfl
      rintro⟨i,fn,ds⟩ ⟨hi,hds,hv⟩
      dsimp only at hi hds hv
      by_cases hlt:i<w.length
      · cases fn with
        | true =>
          obtain⟨v,hvR,hrun,rfl⟩:=hv rfl
          obtain⟨x,hx⟩:=Qav hlt
          have hx8:=hw8 x (List.mem_of_getElem? hx)
          have hgu:((u8s w).drop i).head?=some (.int .u8 (x:Int)):=by rw[List.head?_drop];exact Qrz hx
          have e7:aBin .rem (.int .i64 (x:Int)) (.int .i64 (c.ev.length:Int))=some (.int .i64 ((x % c.ev.length:Nat):Int)):=QoX hne
          have hel:x % c.ev.length<c.ev.length:=Nat.mod_lt _ hne
          have hxs:(w.map fun x=>x % c.ev.length)[i]?=some (x % c.ev.length):=by rw[List.getElem?_map,hx];rfl
          have hws:=take_succ' hxs
          have hg:=generates39 R ((w.map fun x=>x % c.ev.length).take i++[x % c.ev.length]) hwr t2 (by rw[List.length_append,List.length_take];simp;omega)
          have hgn:gen R ((w.map fun x=>x % c.ev.length).take i++[x % c.ev.length])=(stepA R.es v (x % c.ev.length)).isSome:=by unfold gen;rw[Qf9,hrun];rfl
          have hrn:runA R.es 0 ((w.map fun x=>x % c.ev.length).take (i+1))=stepA R.es v (x % c.ev.length):=by rw[hws,Qf9,hrun];rfl
          have hst:=t4 v hvR (x % c.ev.length) hel
          have htl:(ints (nz ((w.map fun x=>x % c.ev.length).take i))).length=i:=by simp[ints,nz];omega
          have htn:i+1=((w.map fun x=>x % c.ev.length).take i).length+1:=by simp;omega
          have hds2:=Qb9 (sts.getD v 0)
          generalize x % c.ev.length=e at*
          simp(disch:=first|omega|exact PairsOK.mk rfl|(simp only[lenW]<;>omega)) only[hlt,hgu,e7,htl,Qac,Qad,Qae,Qag,Qaj,Qam,wW,wV,simprocAttr]
          cases hs:stepA R.es v e with
          | some j =>
            rw[hs]at hst hgn hrn
            dsimp only at hst
            rw[hgn,show(some j).isSome=true from rfl]at hg
            refine ch (HSpec.frameA hst (OnlyD.cons (OnlyD.same rfl) (OnlyD.cons (OnlyD.same rfl) (OnlyD.cons (OnlyD.sl rfl) (OnlyD.cons (OnlyD.same rfl) OnlyD.nil)))) (OnlyD.same rfl) (Qb9 _) (Qb9 _) gg rfl) ?_
            simp(disch:=first|omega|exact PairsOK.mk rfl|(simp only[lenW]<;>omega)) only[Qac,Qad,Qae,Qag,Qaj,Qam,wW,wV,simprocAttr]
            refine ch (HSpec.lend (FrzL.cons (FrzTo.same _) (FrzL.cons (frz_n htn gg) FrzL.nil)) hg rfl) ?_
            simp(disch:=first|omega|exact PairsOK.mk rfl|(simp only[lenW]<;>omega)) only[show aEq (.flat false [.b]) true (.bool true) (.bool true)=some (.bool false) from rfl,Qac,Qad,Qae,Qag,Qaj,Qam,wW,wV,simprocAttr]
            have hjl:=(hwr.esn _ (Qpt hs)).2
            refine⟨(i+1,true,sxC (sts.getD j 0)),by dsimp only;omega,⟨by dsimp only;omega,Qb9 _,fun _=>⟨j,hjl,hrn,rfl⟩⟩,?_⟩
            dsimp only
            rw[hws,QaU,QaK]
            refine⟨[(0,.blk 0 0),(51,.blk 51 0),(52,.blk 52 0),(60,.blk 60 1)],rfl,au0,?_,au30⟩
            exact RB.cells rfl rfl gg (RnL.same (Qb9 _)) (RB.cells rfl rfl gg (RnL.same hnc) (RB.cells rfl rfl gg (RnL.same hna) (RB.cells rfl rfl gg (RnL.same (QaX (Qab _) rfl)) RB.nil)))
          | none =>
            rw[hs]at hst hgn hrn
            dsimp only at hst
            obtain⟨ds,hn2,hst⟩:=hst
            rw[hgn,show(none:Option Nat).isSome=false from rfl]at hg
            refine ch (HSpec.frameA hst (OnlyD.cons (OnlyD.same rfl) (OnlyD.cons (OnlyD.same rfl) (OnlyD.cons (OnlyD.sl rfl) (OnlyD.cons (OnlyD.same rfl) OnlyD.nil)))) (OnlyD.same rfl) (Qb9 _) hn2 gg rfl) ?_
            simp(disch:=first|omega|exact PairsOK.mk rfl|(simp only[lenW]<;>omega)) only[Qac,Qad,Qae,Qag,Qaj,Qam,wW,wV,simprocAttr]
            refine ch (HSpec.lend (FrzL.cons (FrzTo.same _) (FrzL.cons (frz_n htn gg) FrzL.nil)) hg rfl) ?_
            simp(disch:=first|omega|exact PairsOK.mk rfl|(simp only[lenW]<;>omega)) only[show aEq (.flat false [.b]) true (.bool false) (.bool false)=some (.bool false) from rfl,Qac,Qad,Qae,Qag,Qaj,Qam,wW,wV,simprocAttr]
            refine⟨(i+1,false,ds),by dsimp only;omega,⟨by dsimp only;omega,hn2,fun h=>by cases h⟩,?_⟩
            dsimp only
            rw[hws,QaU,QaK]
            refine⟨[(0,.blk 0 0),(51,.blk 51 0),(52,.blk 52 0),(60,.blk 60 1)],rfl,au0,?_,au30⟩
            exact RB.cells rfl rfl gg (RnL.same hn2) (RB.cells rfl rfl gg (RnL.same hnc) (RB.cells rfl rfl gg (RnL.same hna) (RB.cells rfl rfl gg (RnL.same (QaX (Qab _) rfl)) RB.nil)))
        | false =>
          simp(disch:=first|omega|exact PairsOK.mk rfl|(simp only[lenW]<;>omega)) only[hlt,Qac,Qad,Qae,Qag,Qaj,Qam,wW,wV,simprocAttr]
          exact⟨.inr trivial,rfl⟩
      · cases fn
        all_goals
          simp(disch:=first|omega|exact PairsOK.mk rfl|(simp only[lenW]<;>omega)) only[hlt,Qac,Qad,Qae,Qag,Qaj,Qam,wW,wV,simprocAttr]
          exact⟨.inr trivial,rfl⟩
    · have q4 : (100 : Int) < ((facC k n).sp : Int) := by omega
      generalize facC k n=f at*
      obtain⟨sp,fb,kp,su,bn⟩:=f
      dsimp only at*
      simp(disch:=first|omega|exact PairsOK.mk rfl|(simp only[lenW]<;>omega)) only[CA.s4,q1,Qac,Qad,Qae,Qag,Qaj,Qam,wW,wV,simprocAttr]
      refine cp hkn ?_
      simp(disch:=first|omega|exact PairsOK.mk rfl|(simp only[lenW]<;>omega)) only[q1,Qac,Qad,Qae,Qag,Qaj,Qam,wW,wV,simprocAttr]
      refine cp hp ?_
      simp(disch:=first|omega|exact PairsOK.mk rfl|(simp only[lenW]<;>omega)) only[Qac,Qad,Qae,Qag,Qaj,Qam,wW,wV,simprocAttr]
      refine cp hC ?_
      simp(disch:=first|omega|exact PairsOK.mk rfl|(simp only[lenW]<;>omega)) only[Qac,Qad,Qae,Qag,Qaj,Qam,wW,wV,simprocAttr]
      refine cp hK ?_
      simp(disch:=first|omega|exact PairsOK.mk rfl|(simp only[lenW]<;>omega)) only[q4,Qac,Qad,Qae,Qag,Qaj,Qam,wW,wV,simprocAttr]
      exact⟨.inr trivial,rfl⟩
  · have q1 : (10 : Int) < (w.length : Int) := by omega
    simp(disch:=first|omega|exact PairsOK.mk rfl|(simp only[lenW]<;>omega)) only[CA.s4,q1,Qac,Qad,Qae,Qag,Qaj,Qam,wW,wV,simprocAttr]
    refine cp hkn ?_
    simp(disch:=first|omega|exact PairsOK.mk rfl|(simp only[lenW]<;>omega)) only[q1,Qac,Qad,Qae,Qag,Qaj,Qam,wW,wV,simprocAttr]
    refine cp hkn ?_
    simp(disch:=first|omega|exact PairsOK.mk rfl|(simp only[lenW]<;>omega)) only[Qac,Qad,Qae,Qag,Qaj,Qam,wW,wV,simprocAttr]
    exact⟨.inr trivial,rfl⟩
end Go.AM.SO
namespace Go.AM.SO
open Go.Proofs Go.AM.SD Go.AM.SE
theorem Qpu {x:Int} (hx:(Lit.int .u8 x).wf=true):∃y:Nat,y<256/\x=(y:Int):=by
 have h1:0<=x/\x<=255:=by
  simp[Lit.wf]at hx
  revert hx
  simp[IntKind.min,IntKind.max,IntKind.signed,IntKind.bits]
 exact⟨x.toNat,by omega,by omega⟩
end Go.AM.SO
namespace Go.AM.SO
open Go.Proofs Go.AM.SD Go.AM.SE
theorem claw4_in (a b:Int) (d2:(Ty.sl (.int .u8)).D) (wa:(Lit.int .u8 a).wf=true) (wb:(Lit.int .u8 b).wf=true) (h2:(Ty.sl (.int .u8)).wf d2):
  W2 Tryz.prog ⟨CA.s4.n,0⟩ CA.s4.body (fun e B=>(e= .normal\/e= .ret)/\resV B.T B.h CA.s4.res=some [.bool true]) ⟨argT 0 [.int .u8 a,.int .u8 b,(Ty.sl (.int .u8)).val d2],.e⟩:=by
 obtain⟨a,ha,rfl⟩:=Qpu wa
 obtain⟨b,hb,rfl⟩:=Qpu wb
 obtain⟨hw0,hw1⟩:=h2
 obtain⟨w,q1,q2,q3⟩:=Qf6 (.arr (List.length d2) (.int .u8)) rfl d2 ⟨rfl,hw1⟩
 have hlen:w.length=List.length d2:=by rw[q1];exact Nat.mul_one _
 have e1:(Ty.sl (.int .u8)).val d2= .fsl (u8s w) w.length 1:=by
  show AV.fsl (List.flatMap (Ty.cells (.int .u8)) d2) (List.length d2) 1=_
  rw[hlen,<-q3];rfl
 rw[e1]
 exact law2 a b ha hb w q2
theorem okg4:okFn Tryz.prog 4 CA.s4=true:=CA.ok4
end Go.AM.SO
