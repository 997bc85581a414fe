/- A part of the proof of ExplainRefusesCardSaid: lemmas on the way (AnEi, AnEj, AmTx, AnEn, AnEo). Conditions: none of ours. -/
import Derived.Shelf.Strings.OnBuilder
import Derived.Test.YtgfnbkngfedlkaaGreatDoorProg
import Derived.KernelRfl
import Derived.Test.YtgfnbkngfedlkaaGreatDoorAmW11
set_option linter.unusedSectionVars false
set_option maxHeartbeats 32000000
set_option maxRecDepth 100000
set_option linter.unusedVariables false
set_option linter.unusedSimpArgs false
namespace Go.Proofs
open Go.Shelf
def Tryz.QgX:Go.Shelf.Ren:=⟨fun|156=>83|165=>148|166=>108|169=>109|240=>194|241=>222|276=>243|277=>266|n=>n,fun|31=>192|9=>9|3=>3|4=>4|0=>0|20=>20|72=>230|76=>234|70=>228|37=>70|75=>233|127=>323|164=>368|5=>5|80=>236|n=>n,fun|n=>n⟩
theorem Tryz.joinS:Go.Proofs.Lays.n156 Tryz.prog Tryz.QgX:={
 mixed:=by kernel_rfl
 f156:=Tryz.func83.trans (congrArg some (by kernel_rfl))
 f165:=Tryz.func148.trans (congrArg some (by kernel_rfl))
 f166:=Tryz.func108.trans (congrArg some (by kernel_rfl))
 f169:=Tryz.func109.trans (congrArg some (by kernel_rfl))
 f240:=Tryz.func194.trans (congrArg some (by kernel_rfl))
 f241:=Tryz.func222.trans (congrArg some (by kernel_rfl))
 f276:=Tryz.func243.trans (congrArg some (by kernel_rfl))
 f277:=Tryz.func266.trans (congrArg some (by kernel_rfl))
 t0:=Tryz.underlying0
 a0:=Tryz.isAgg0
 z0:=Tryz.sizeOf0
 v0:=Tryz.zeroValue0
 t3:=Tryz.underlying3
 a3:=Tryz.isAgg3
 z3:=Tryz.sizeOf3
 v3:=Tryz.zeroValue3
 t4:=Tryz.underlying4
 a4:=Tryz.isAgg4
 z4:=Tryz.sizeOf4
 v4:=Tryz.zeroValue4
 t9:=Tryz.underlying9
 a9:=Tryz.isAgg9
 z9:=Tryz.sizeOf9
 v9:=Tryz.zeroValue9
 t20:=Tryz.underlying20
 a20:=Tryz.isAgg20
 z20:=Tryz.sizeOf20
 v20:=Tryz.zeroValue20
 t31:=Tryz.underlying192
 a31:=Tryz.isAgg192
 z31:=Tryz.sizeOf192
 v31:=Tryz.zeroValue192
 t37:=Tryz.underlying70
 a37:=Tryz.isAgg70
 z37:=Tryz.sizeOf70
 v37:=Tryz.zeroValue70
 t70:=Tryz.underlying228
 a70:=Tryz.isAgg228
 z70:=Tryz.sizeOf228
 v70:=Tryz.zeroValue228
 t72:=Tryz.underlying230
 a72:=Tryz.isAgg230
 z72:=Tryz.sizeOf230
 v72:=Tryz.zeroValue230
 t75:=Tryz.underlying233
 a75:=Tryz.isAgg233
 z75:=Tryz.sizeOf233
 v75:=Tryz.zeroValue233
 t76:=Tryz.underlying234
 a76:=Tryz.isAgg234
 z76:=Tryz.sizeOf234
 v76:=Tryz.zeroValue234
 t127:=Tryz.underlying323
 a127:=Tryz.isAgg323
 z127:=Tryz.sizeOf323
 v127:=Tryz.zeroValue323
 t164:=Tryz.underlying368
 a164:=Tryz.isAgg368
 z164:=Tryz.sizeOf368
 v164:=Tryz.zeroValue368}
theorem Tryz.joinX:Builder.Extra Tryz.prog Tryz.QgX:={
 sizeBuilder:=by kernel_rfl
 liesBuilder:=by kernel_rfl
 t5:=Tryz.underlying5
 a5:=Tryz.isAgg5
 z5:=Tryz.sizeOf5
 v5:=Tryz.zeroValue5
 infoByte:=by kernel_rfl
 cellsByte:=by kernel_rfl
 sizeByte:=by kernel_rfl
 neB5:=by decide}
end Go.Proofs
namespace Go.AM.SO
open Go.Proofs
theorem Qil {ok:Okc} {c:Ctx ok} {w:World}:∀{xs:List (List UInt8)} {vs:List Value},VPre c w (xs.map AV.str) vs->∀(j:Nat) x,xs[j]?=some x->vs[j]?=some (.string ⟨x.toArray⟩)
 |[],vs,_,j,x,hx=>by simp at hx
 |y::xs,vs,h,0,x,hx=>by
  simp only[List.map_cons,VPre,VRel]at h
  obtain⟨v,vs',rfl,rfl,_⟩:=h
  simp only[List.getElem?_cons_zero,Option.some.injEq]at hx
  subst hx
  rfl
 |y::xs,vs,h,j+1,x,hx=>by
  simp only[List.map_cons,VPre,VRel]at h
  obtain⟨v,vs',rfl,_,h⟩:=h
  simp only[List.getElem?_cons_succ]at hx⊢
  exact Qil h j x hx
theorem QeS:∀xs:List (List UInt8),noRefs (xs.map AV.str)=true
 |[]=>rfl
 |x::xs=>by rw[List.map_cons,noRefs,QeS xs];rfl
theorem call83:Callable Tryz.prog 83:=⟨_,Tryz.func83,by kernel_rfl,by kernel_rfl⟩
theorem join83 (xs:List (List UInt8)) (sep:List UInt8) (hx:xs≠[]) (hl:xs.length<=1000) (hj:(Lib.join xs sep).length<=1000000):
  PSpec Tryz.prog 83 [.fsl (xs.map AV.str) xs.length 1,.str sep] (.str (Lib.join xs sep)):=by
 refine⟨by rw[noRefs,noRef,QeS];rfl,rfl,.e,call83,fun c w cargs H ha=>?_⟩
 simp only[VRels]at ha
 obtain⟨v1,vs1,hc1,h1,v2,vs2,rfl,h2,rfl⟩:=ha
 have hcargs:cargs= #[v1,v2]:=Array.toList_inj.1 (by rw[hc1])
 subst hcargs
 simp only[VRel]at h1 h2
 subst h2
 rcases h1 with⟨_,h,_⟩|⟨cb,off,cap,C,e,fr,rfl,hlc,hcl,hF,hC,hpre⟩
 ·exact absurd (List.map_eq_nil_iff.1 h) hx
 have hblk:=QaC hC
 have hmap:(xs.map fun x:List UInt8=>(⟨x.toArray⟩:ByteArray)).map (·.data.toList)=xs:=by
  rw[List.map_map]
  have:((fun x:ByteArray=>x.data.toList)∘fun x:List UInt8=>(⟨x.toArray⟩:ByteArray))=id:=by funext x;simp
  rw[this,List.map_id]
 have hcell:∀(j:Nat) x,(xs.map fun x:List UInt8=>(⟨x.toArray⟩:ByteArray))[j]?=some x->w.cell? ⟨cb,off+j,none⟩=some (.string x):=by
  intro j x hx
  rw[List.getElem?_map]at hx
  cases hy:xs[j]? with
  |none=>rw[hy]at hx;cases hx
  |some y=>
   rw[hy]at hx
   simp only[Option.map_some,Option.some.injEq]at hx
   subst hx
   have:=Qil hpre j y hy
   rw[List.getElem?_drop]at this
   simp only[World.cell?,hC]
   simpa using this
 have hcon:=Any.strings_Join Tryz.joinS Tryz.joinX cb off cap (xs.map fun x:List UInt8=>(⟨x.toArray⟩:ByteArray)) ⟨sep.toArray⟩ w hcell hblk (by rw[List.length_map];omega) (by rw[List.length_map];exact hlc) (by rw[hmap];simpa using(by omega:(Lib.join xs sep).length<=140737488355328))
 rw[hmap,List.length_map]at hcon
 refine Calls.mono hcon ?_
 rintro e1 w' ⟨rfl,hb⟩
 refine⟨_,c,rfl,⟨hb.os,hb.tape,hb.output,hb.size,fun k C2 e2 fr2 h2=>⟨C2,fr2,by rw[hb.block k (QaC h2)];exact h2,rfl⟩,fun k hk _=>hb.block k hk,fun _ _ _ h=>h,fun _ h=>h,fun _ h=> .inl h,fun _ h=> .inl h,rfl⟩,⟨H.fresh,H.later,fun b x h=>(by cases h),H.inj,H.disj,fun cb h=>Nat.lt_of_lt_of_le (H.inF cb h) hb.size,fun cb h=>Nat.lt_of_lt_of_le (H.inO cb h) hb.size⟩,?_⟩
 simp[VRel]
end Go.AM.SO
namespace Go.AM
namespace RX
def isTrue:AV->Bool| .bool true=>true|_=>false
theorem QkX:∀u,isTrue u=true->u= .bool true:=by
 intro u h
 unfold isTrue at h
 split at h
 ·rfl
 ·cases h
def kTrue (t:Nat):KcA Bool:=fun e T _ _=>match e with
 | .ret=>isTrue (lk T t)
 |_=>false
theorem QlA {t:Nat} {e:SX} {T:Tmps} {h:Heap} {n:Nat} (hk:kTrue t e T h n=true):e= .ret/\lk T t= .bool true:=by
 unfold kTrue at hk
 cases e<;>simp only[Bool.false_eq_true]at hk
 exact⟨rfl,QkX _ hk⟩
def restC:FCode->FCode
 | .seq _ b=>b
 |c=>c
def hdC:FCode->FCode
 | .seq a _=>a
 |c=>c
variable {P:Program}
mutual
def beqA:AV->AV->Bool
 | .int k a,v=>match v with
  | .int k' b=>decide (k=k')&&decide (a=b)
  |_=>false
 | .bool a,v=>match v with
  | .bool b=>a==b
  |_=>false
 | .str a,v=>match v with
  | .str b=>decide (a=b)
  |_=>false
 | .nilsl,v=>match v with
  | .nilsl=>true
  |_=>false
 | .agg a,v=>match v with
  | .agg b=>beqL a b
  |_=>false
 | .fsl a l s,v=>match v with
  | .fsl b l' s'=>beqL a b&&Nat.beq l l'&&Nat.beq s s'
  |_=>false
 |_,_=>false
termination_by structural x=>x
def beqL:List AV->List AV->Bool
 |[],v=>match v with
  |[]=>true
  |_=>false
 |x::xs,v=>match v with
  |y::ys=>beqA x y&&beqL xs ys
  |_=>false
termination_by structural x=>x
end
mutual
theorem Ql4:∀(x y:AV),beqA x y=true->x=y:=by
 intro x y h
 cases x with
 |agg a=>cases y<;>simp[beqA]at h;rw[Qek _ _ h]
 |fsl a l s=>cases y<;>simp[beqA]at h;obtain⟨⟨h1,rfl⟩,rfl⟩:=h;rw[Qek _ _ h1]
 |int k a=>cases y<;>simp_all [beqA]
 |bool a=>cases y<;>simp_all [beqA]
 |str a=>cases y<;>simp_all [beqA]
 |nilsl=>cases y<;>simp_all [beqA]
 |_=>simp[beqA]at h
theorem Qek:∀(x y:List AV),beqL x y=true->x=y:=by
 intro x y h
 cases x with
 |nil=>cases y<;>simp_all [beqL]
 | cons a r =>
  cases y with
  |nil=>simp[beqL]at h
  |cons b s=>
   simp only[beqL,Bool.and_eq_true]at h
   rw[Ql4 _ _ h.1,Qek _ _ h.2]
end
def ansE:Ans Bool:=⟨false,fun x y b=>beqL x y&&b,fun b=>b=true⟩
theorem Ql5:ansE.OK:=⟨fun h=>(by cases h),fun x y p h=>by
  have h:(beqL x y&&p)=true:=h
  rw[Bool.and_eq_true]at h
  exact⟨Qek _ _ h.1,h.2⟩⟩
theorem Qea {t:FT2} (ht:t.OK P) {orc:Orc} (ho:OrcOK P orc) {N:NM} {d m:Nat} {c:FCode} {T:Tmps} {h:Heap} {Q:SX->St->Prop} (k:KcA Bool)
  (hx:exR ansE orc t.get d c T h m k=true) (hk:∀e T h n,k e T h n=true->Q e ⟨T,h⟩):W2 P N c.slim Q ⟨T,h⟩:=by
 obtain⟨e,T',h',n',h1,h2,_⟩:=QkD Ql5 ho (FT2.ok ht) d N.n c T h m k hx
 exact(W2.of_W h2).mono fun e' B ⟨e1,e2⟩=>by subst e1;subst e2;exact hk _ _ _ _ h1
end RX
end Go.AM
namespace Go.AM.EM
open Go.Proofs Go.AM.RX
noncomputable section
def F:FFn:=match ft.get 19 with|some f=>f|none=>⟨0,[],.skip⟩
theorem okF:okFn Tryz.prog 19 F.slim=true:=FT2.ok ft_ok 19 F (by kernel_rfl)
theorem resF:F.res=[.tmp 0]:=by kernel_rfl
def c1:FCode:=hdC F.body
def c2:FCode:=hdC (restC F.body)
def c3:FCode:=hdC (restC (restC F.body))
def c4:FCode:=hdC (restC (restC (restC F.body)))
def cT:FCode:=restC (restC (restC (restC F.body)))
theorem F_is:F.body= .seq c1 (.seq c2 (.seq c3 (.seq c4 cT))):=by kernel_rfl
def w1:List (List UInt8):=[[108,101,97,100,115],[116,111,32,102,105,110,105,115,104,97,44,32,119,104,105,99,104,32,110,101,118,101,114,32,114,101,102,117,115,101,115]]
def w2:List (List UInt8):=[[108,101,97,100,115],[116,111,32,116,104,101,32,101,120,99,108,117,115,105,111,110,32,98,111,116,104]]
def j83 (xs:List (List UInt8)):Orc:=fun g=>ifB (Nat.beq g 83) (some ([.fsl (xs.map AV.str) xs.length 1,.str [32]],.str (Lib.join xs [32]))) none
theorem Qk8 {xs:List (List UInt8)} (hx:xs≠[]) (hl:xs.length<=1000) (hj:(Lib.join xs [32]).length<=1000000):OrcOK Tryz.prog (j83 xs):=by
 intro k bs w hk
 unfold j83 at hk
 simp only[Qaf,Nat.beq_eq]at hk
 split at hk
 ·rename_i e;subst e;cases hk;exact SO.join83 xs [32] hx hl hj
 ·cases hk
def k4:KcA Bool:=fun e T h k=>match e with
 | .normal=>exR ansE (j83 w2) ft.get 100000 cT T h k (kTrue 0)
 |_=>false
def k3:KcA Bool:=fun e T h k=>match e with
 | .normal=>exR ansE (j83 w2) ft.get 100000 c4 T h k k4
 |_=>false
def k2:KcA Bool:=fun e T h k=>match e with
 | .normal=>exR ansE (j83 w1) ft.get 100000 c3 T h k k3
 |_=>false
def k1:KcA Bool:=fun e T h k=>match e with
 | .normal=>exR ansE (j83 w1) ft.get 100000 c2 T h k k2
 |_=>false
theorem run:exR ansE (j83 w1) ft.get 100000 c1 [] .e 64 k1=true:=by kernel_rfl
theorem known19:PSpec Tryz.prog 19 [] (.bool true):=by
 have o1:OrcOK Tryz.prog (j83 w1):=Qk8 (by decide) (by decide) (by decide)
 have o2:OrcOK Tryz.prog (j83 w2):=Qk8 (by decide) (by decide) (by decide)
 refine PSpec.of_W2 okF (Nat.zero_le _) rfl rfl ?_
 show W2 Tryz.prog ⟨F.n,0⟩ F.body.slim (fun e B=>(e= .normal\/e= .ret)/\∃vs,resV B.T B.h F.res=some vs/\Rn 0 π0 B.h (.bool true) (resOf vs)) ⟨[],.e⟩
 rw[resF,F_is]
 refine W2.seq (Qea ft_ok o1 _ run fun e T h k hk=>?_)
 cases e<;>simp only[k1,Bool.false_eq_true]at hk
 refine W2.seq (Qea ft_ok o1 _ hk fun e T h k hk=>?_)
 cases e<;>simp only[k2,Bool.false_eq_true]at hk
 refine W2.seq (Qea ft_ok o1 _ hk fun e T h k hk=>?_)
 cases e<;>simp only[k3,Bool.false_eq_true]at hk
 refine W2.seq (Qea ft_ok o2 _ hk fun e T h k hk=>?_)
 cases e<;>simp only[k4,Bool.false_eq_true]at hk
 refine Qea ft_ok o2 _ hk fun e T h k hk=>?_
 obtain⟨rfl,hk2⟩:=QlA hk
 refine⟨.inr rfl,[.bool true],?_,Rn.same rfl⟩
 show resV T h [.tmp 0]=_
 rw[show resV T h [.tmp 0]=some [lk T 0] from rfl,hk2]
end
end Go.AM.EM
namespace Go.AM.SO
open Go.Proofs Go.AM.SD Go.AM.SE
theorem Ql6 {c:CelN} (h:CelR c) (hf:fewE c=true):CelOk c:=by
 unfold fewE at hf
 simp only[Bool.and_eq_true,decide_eq_true_eq,Bool.not_eq_true']at hf
 obtain⟨⟨_,a2,a3,a4,a5⟩,hs⟩:=hf
 refine h.ok a2 a3 a4 a5 fun x hx=>?_
 have hx:smE x=false:=by
  rw[Bool.eq_false_iff]
  intro e
  rw[List.any_eq_true.2 ⟨x,hx,e⟩]at hs
  cases hs
 have:=of_decide_eq_false hx
 omega
theorem elaw4 (c:CelN) (h:CelR c):
    W2 Tryz.prog ⟨EA.s4.n,0⟩ EA.s4.body (fun e B=>(e= .normal\/e= .ret)/\resV B.T B.h EA.s4.res=some [.bool true]) ⟨argT 0 [celZ c],.e⟩:=by
  refine(wpC.toW (n:=40) (Q:=fun e T h _=>(e= .normal\/e= .ret)/\resV T h EA.s4.res=some [.bool true]) (show wS Tryz.prog ⟨EA.s4.n,0⟩ EA.s4.body [] 40 _ _ _ from ?_)).mono fun e B ⟨_,h⟩=>h
  have hnr:=Qax c
  have hkn:=EM.known19
  have hF:=few20 c h
  have hok:=fun hf=>Ql6 h hf
  have hC:=fun hf=>check21X c (hok hf)
  have h22:=fun hf h0=>event22X c (hok hf) h0
  have h23:=fun hf h0=>state23X c (hok hf) h0
  have h24:=fun hf h0=>empty24X c (hok hf) h0
  have h25:=fun hf h0=>stuck25X c (hok hf) h0
  have h26:=fun hf h0=>forb26X c (hok hf) h0
  have h27:=fun hf h0=>text27X c (hok hf) h0
  have hN:=none28X
  generalize celErr c=e at*
  generalize fewE c=f at*
  cases f with
  | false =>
    simp(disch:=first|omega|exact PairsOK.mk rfl|(simp only[lenW]<;>omega)) only[EA.s4,wW,wV,simprocAttr]
    refine cp hkn ?_
    simp(disch:=first|omega|exact PairsOK.mk rfl|(simp only[lenW]<;>omega)) only[wW,wV,simprocAttr]
    refine cp hF ?_
    simp(disch:=first|omega|exact PairsOK.mk rfl|(simp only[lenW]<;>omega)) only[wW,wV,simprocAttr]
    refine cp hkn ?_
    simp(disch:=first|omega|exact PairsOK.mk rfl|(simp only[lenW]<;>omega)) only[wW,wV,simprocAttr]
    exact⟨.inr trivial,rfl⟩
  | true =>
    simp(disch:=first|omega|exact PairsOK.mk rfl|(simp only[lenW]<;>omega)) only[EA.s4,wW,wV,simprocAttr]
    refine cp hkn ?_
    simp(disch:=first|omega|exact PairsOK.mk rfl|(simp only[lenW]<;>omega)) only[wW,wV,simprocAttr]
    refine cp hF ?_
    simp(disch:=first|omega|exact PairsOK.mk rfl|(simp only[lenW]<;>omega)) only[wW,wV,simprocAttr]
    refine cp (hC rfl) ?_
    by_cases h0:e=0
    · simp (disch := first | omega | exact PairsOK.mk rfl | (simp only [lenW] <;> omega)) only [h0, wW, wV, simprocAttr]
      exact⟨.inr trivial,rfl⟩
    simp(disch:=first|omega|exact PairsOK.mk rfl|(simp only[lenW]<;>omega)) only[h0,wW,wV,simprocAttr]
    refine cp (h22 rfl h0) ?_
    simp(disch:=first|omega|exact PairsOK.mk rfl|(simp only[lenW]<;>omega)) only[wW,wV,simprocAttr]
    refine cp (h23 rfl h0) ?_
    simp(disch:=first|omega|exact PairsOK.mk rfl|(simp only[lenW]<;>omega)) only[wW,wV,simprocAttr]
    refine cp (h24 rfl h0) ?_
    simp(disch:=first|omega|exact PairsOK.mk rfl|(simp only[lenW]<;>omega)) only[wW,wV,simprocAttr]
    refine cp (h25 rfl h0) ?_
    simp(disch:=first|omega|exact PairsOK.mk rfl|(simp only[lenW]<;>omega)) only[wW,wV,simprocAttr]
    refine cp (h26 rfl h0) ?_
    simp(disch:=first|omega|exact PairsOK.mk rfl|(simp only[lenW]<;>omega)) only[wW,wV,simprocAttr]
    refine cp (h27 rfl h0) ?_
    simp(disch:=first|omega|exact PairsOK.mk rfl|(simp only[lenW]<;>omega)) only[wW,wV,simprocAttr]
    refine cp hN ?_
    simp(disch:=first|omega|exact PairsOK.mk rfl|(simp only[lenW]<;>omega)) only[wW,wV,simprocAttr]
    refine cp hN ?_
    simp(disch:=first|omega|exact PairsOK.mk rfl|(simp only[lenW]<;>omega)) only[wW,wV,simprocAttr]
    refine cp hN ?_
    simp(disch:=first|omega|exact PairsOK.mk rfl|(simp only[lenW]<;>omega)) only[wW,wV,simprocAttr]
    exact⟨.inr trivial,rfl⟩
theorem oke4:okFn Tryz.prog 4 EA.s4=true:=EA.ok4
theorem elaw4_in (d0:tyCel.D) (h0:tyCel.wf d0) (z0:tyCel.sized Tryz.prog [28] d0):
  W2 Tryz.prog ⟨EA.s4.n,0⟩ EA.s4.body (fun e B=>(e= .normal\/e= .ret)/\resV B.T B.h EA.s4.res=some [.bool true]) ⟨argT 0 [tyCel.val d0],.e⟩:=by
 rw[cCel]
 exact elaw4 _ (Qmo h0 z0)
end Go.AM.SO
