/- A part of the proof of ExplainEventsCardSaid: lemmas on the way (AnEi, AnEj, AmTx, AnEn, AnSx, AnSy, AnSz, AnTb, AnTa, AnTd, AnTf, AnTe, AnTg, AnTh, AnTi, AnTj, AnTk). Conditions: none of ours. -/
import Derived.Shelf.Strings.OnBuilder
import Derived.Test.YtgfnbkngfedlkaaGreatDoorProg
import Derived.KernelRfl
import Derived.Test.YtgfnbkngfedlkaaGreatDoorAmZ19
set_option linter.unusedSectionVars false
set_option maxHeartbeats 32000000
set_option maxRecDepth 100000
set_option linter.unusedVariables false
set_option linter.unusedSimpArgs false
namespace Go.Proofs
open Go.Shelf
def Tryz.QlJ:Go.Shelf.Ren:=⟨fun|156=>83|165=>148|166=>108|169=>109|240=>194|241=>222|276=>243|277=>266|n=>n,fun|31=>192|9=>9|3=>3|4=>4|0=>0|20=>20|72=>230|76=>234|70=>228|37=>70|75=>233|127=>323|164=>368|5=>5|80=>236|n=>n,fun|n=>n⟩
theorem Tryz.joinS:Go.Proofs.Lays.n156 Tryz.prog Tryz.QlJ:={
 mixed:=by kernel_rfl
 f156:=Tryz.func83.trans (congrArg some (by kernel_rfl))
 f165:=Tryz.func148.trans (congrArg some (by kernel_rfl))
 f166:=Tryz.func108.trans (congrArg some (by kernel_rfl))
 f169:=Tryz.func109.trans (congrArg some (by kernel_rfl))
 f240:=Tryz.func194.trans (congrArg some (by kernel_rfl))
 f241:=Tryz.func222.trans (congrArg some (by kernel_rfl))
 f276:=Tryz.func243.trans (congrArg some (by kernel_rfl))
 f277:=Tryz.func266.trans (congrArg some (by kernel_rfl))
 t0:=Tryz.underlying0
 a0:=Tryz.isAgg0
 z0:=Tryz.sizeOf0
 v0:=Tryz.zeroValue0
 t3:=Tryz.underlying3
 a3:=Tryz.isAgg3
 z3:=Tryz.sizeOf3
 v3:=Tryz.zeroValue3
 t4:=Tryz.underlying4
 a4:=Tryz.isAgg4
 z4:=Tryz.sizeOf4
 v4:=Tryz.zeroValue4
 t9:=Tryz.underlying9
 a9:=Tryz.isAgg9
 z9:=Tryz.sizeOf9
 v9:=Tryz.zeroValue9
 t20:=Tryz.underlying20
 a20:=Tryz.isAgg20
 z20:=Tryz.sizeOf20
 v20:=Tryz.zeroValue20
 t31:=Tryz.underlying192
 a31:=Tryz.isAgg192
 z31:=Tryz.sizeOf192
 v31:=Tryz.zeroValue192
 t37:=Tryz.underlying70
 a37:=Tryz.isAgg70
 z37:=Tryz.sizeOf70
 v37:=Tryz.zeroValue70
 t70:=Tryz.underlying228
 a70:=Tryz.isAgg228
 z70:=Tryz.sizeOf228
 v70:=Tryz.zeroValue228
 t72:=Tryz.underlying230
 a72:=Tryz.isAgg230
 z72:=Tryz.sizeOf230
 v72:=Tryz.zeroValue230
 t75:=Tryz.underlying233
 a75:=Tryz.isAgg233
 z75:=Tryz.sizeOf233
 v75:=Tryz.zeroValue233
 t76:=Tryz.underlying234
 a76:=Tryz.isAgg234
 z76:=Tryz.sizeOf234
 v76:=Tryz.zeroValue234
 t127:=Tryz.underlying323
 a127:=Tryz.isAgg323
 z127:=Tryz.sizeOf323
 v127:=Tryz.zeroValue323
 t164:=Tryz.underlying368
 a164:=Tryz.isAgg368
 z164:=Tryz.sizeOf368
 v164:=Tryz.zeroValue368}
theorem Tryz.joinX:Builder.Extra Tryz.prog Tryz.QlJ:={
 sizeBuilder:=by kernel_rfl
 liesBuilder:=by kernel_rfl
 t5:=Tryz.underlying5
 a5:=Tryz.isAgg5
 z5:=Tryz.sizeOf5
 v5:=Tryz.zeroValue5
 infoByte:=by kernel_rfl
 cellsByte:=by kernel_rfl
 sizeByte:=by kernel_rfl
 neB5:=by decide}
end Go.Proofs
namespace Go.AM.SO
open Go.Proofs
theorem QiS{ok:Okc}{c:Ctx ok}{w:World}:∀{xs:List (List UInt8)}{vs:List Value},VPre c w (xs.map AV.str) vs->∀(j:Nat)x,xs[j]?=some x->vs[j]?=some (.string ⟨x.toArray⟩)|[],vs,_,j,x,a=>by simp at a|y::xs,vs,h,0,x,a=>by simp only[ZaO,VPre,VRel]at h;obtain⟨v,b,rfl,rfl,_⟩:=h;simp only[Zbn,Zab]at a;subst a;rfl|y::xs,vs,h,j+1,x,a=>by simp only[ZaO,VPre,VRel]at h;obtain⟨v,b,rfl,_,h⟩:=h;simp only[ZbO]at a⊢;exact QiS h j x a
theorem Qbp:∀xs:List (List UInt8),noRefs (xs.map AV.str)=true|[]=>rfl|x::xs=>by rw[ZaO,noRefs,Qbp xs];rfl
theorem call83:Callable Tryz.prog 83:=⟨_,Tryz.func83,by kernel_rfl,by kernel_rfl⟩
theorem join83(xs:List (List UInt8))(sep:List UInt8)(f:xs≠[])(L:xs.length<=1000)(K:(Lib.join xs sep).length<=1000000):PSpec Tryz.prog 83 [.fsl (xs.map AV.str) xs.length 1,.str sep] (.str (Lib.join xs sep)):=by
 refine⟨by rw[noRefs,noRef,Qbp];rfl,rfl,.e,call83,fun c w l H z=>?_⟩;simp only[VRels]at z;obtain⟨v1,A,t,h1,v2,B,rfl,p,rfl⟩:=z;have a:l=#[v1,v2]:=Array.toList_inj.1 (by rw[t]);subst a;simp only[VRel]at h1 p;subst p;rcases h1 with⟨_,h,_⟩|⟨o,off,cap,C,e,N,rfl,u,E,G,v,q⟩;·exact absurd (List.map_eq_nil_iff.1 h) f
 have hblk:=QaT v;have d:(xs.map fun x:List UInt8=>(⟨x.toArray⟩:ByteArray)).map (·.data.toList)=xs:=by
  rw[List.map_map];have:((fun x:ByteArray=>x.data.toList)∘fun x:List UInt8=>(⟨x.toArray⟩:ByteArray))=id:=by funext x;simp
  rw[this,List.map_id]
 have m:∀(j:Nat)x,(xs.map fun x:List UInt8=>(⟨x.toArray⟩:ByteArray))[j]?=some x->w.cell? ⟨o,off+j,none⟩=some (.string x):=by intro j x f;rw[ZaD]at f;cases s:xs[j]? with|none=>rw[s]at f;cases f|some y=>rw[s]at f;simp only[ZbD,Zab]at f;subst f;have:=QiS q j y s;rw[ZbJ]at this;simp only[World.cell?,v];simpa using this
 have g:=Any.strings_Join Tryz.joinS Tryz.joinX o off cap (xs.map fun x:List UInt8=>(⟨x.toArray⟩:ByteArray)) ⟨sep.toArray⟩ w m hblk (by rw[Zaz];omega) (by rw[Zaz];exact u) (by rw[d];simpa using(by omega:(Lib.join xs sep).length<=140737488355328));rw[d,Zaz]at g;refine Calls.mono g ?_;rintro J I⟨rfl,i⟩;refine⟨_,c,rfl,⟨i.os,i.tape,i.output,i.size,fun k C2 M r p=>⟨C2,r,by rw[i.block k (QaT p)];exact p,rfl⟩,fun k hk _=>i.block k hk,fun _ _ _ h=>h,fun _ h=>h,fun _ h=>.inl h,fun _ h=>.inl h,rfl⟩,⟨H.fresh,H.later,fun b x h=>(by cases h),H.inj,H.disj,fun o h=>ZaS (H.inF o h) i.size,fun o h=>ZaS (H.inO o h) i.size⟩,?_⟩;simp[VRel]
end Go.AM.SO
namespace Go.AM
namespace RX
def isTrue:AV->Bool|.bool true=>true|_=>false
theorem Qhd:∀u,isTrue u=true->u=.bool true:=by
 intro u h;unfold isTrue at h;split at h;·rfl
 cases h
def kTrue(t:Nat):KcA Bool:=fun e T _ _=>match e with|.ret=>isTrue (lk T t)|_=>false
theorem Qti{t:Nat}{e:SX}{T:Tmps}{h:Heap}{n:Nat}(hk:kTrue t e T h n=true):e=.ret/\lk T t=.bool true:=by unfold kTrue at hk;cases e<;>simp only[Zap]at hk;exact⟨rfl,Qhd _ hk⟩
def restC:FCode->FCode|.seq _ b=>b|c=>c
def hdC:FCode->FCode|.seq a _=>a|c=>c
variable{P:Program}
mutual def beqA:AV->AV->Bool
 |.int k a,v=>match v with|.int k' b=>decide (k=k')&&decide (a=b)|_=>false
 |.bool a,v=>match v with|.bool b=>a==b|_=>false
 |.str a,v=>match v with|.str b=>decide (a=b)|_=>false
 |.nilsl,v=>match v with|.nilsl=>true|_=>false
 |.agg a,v=>match v with|.agg b=>beqL a b|_=>false
 |.fsl a l s,v=>match v with|.fsl b l' s'=>beqL a b&&Nat.beq l l'&&Nat.beq s s'|_=>false
 |_,_=>false termination_by structural x=>x def beqL:List AV->List AV->Bool
 |[],v=>match v with|[]=>true|_=>false
 |x::xs,v=>match v with|y::ys=>beqA x y&&beqL xs ys|_=>false termination_by structural x=>x end
mutual theorem Quy:∀(x y:AV),beqA x y=true->x=y:=by intro x y h;cases x with|agg a=>cases y<;>simp[beqA]at h;rw[QhC _ _ h]|fsl a l s=>cases y<;>simp[beqA]at h;obtain⟨⟨h1,rfl⟩,rfl⟩:=h;rw[QhC _ _ h1]|int k a=>cases y<;>simp_all[beqA]|bool a=>cases y<;>simp_all[beqA]|str a=>cases y<;>simp_all[beqA]|nilsl=>cases y<;>simp_all[beqA]|_=>simp[beqA]at h theorem QhC:∀(x y:List AV),beqL x y=true->x=y:=by intro x y h;cases x with|nil=>cases y<;>simp_all[beqL]|cons a r=>cases y with|nil=>simp[beqL]at h|cons b s=>simp only[beqL,Zaa]at h;rw[Quy _ _ h.1,QhC _ _ h.2]end
def ansE:Ans Bool:=⟨false,fun x y b=>beqL x y&&b,fun b=>b=true⟩
theorem Quz:ansE.OK:=⟨fun h=>(by cases h),fun x y p h=>by have h:(beqL x y&&p)=true:=h;rw[Zaa]at h;exact⟨QhC _ _ h.1,h.2⟩⟩
theorem Qhr{t:FT2}(g:t.OK P){orc:Orc}(ho:OrcOK P orc){N:NM}{d m:Nat}{c:FCode}{T:Tmps}{h:Heap}{Q:SX->St->Prop}(k:KcA Bool)(a:exR ansE orc t.get d c T h m k=true)(hk:∀e T h n,k e T h n=true->Q e ⟨T,h⟩):W2 P N c.slim Q ⟨T,h⟩:=by obtain⟨e,T',l,p,h1,i,_⟩:=QkQ Quz ho (FT2.ok g) d N.n c T h m k a;exact(W2.of_W i).mono fun o B⟨b,f⟩=>by subst b;subst f;exact hk _ _ _ _ h1
end RX
end Go.AM
namespace Go.AM.EM
open Go.Proofs Go.AM.RX
noncomputable section
def F:FFn:=match ft.get 19 with|some f=>f|none=>⟨0,[],.skip⟩
theorem okF:okFn Tryz.prog 19 F.slim=true:=FT2.ok ft_ok 19 F (by kernel_rfl)
theorem resF:F.res=[.tmp 0]:=by kernel_rfl
def c1:FCode:=hdC F.body
def c2:FCode:=hdC (restC F.body)
def c3:FCode:=hdC (restC (restC F.body))
def c4:FCode:=hdC (restC (restC (restC F.body)))
def cT:FCode:=restC (restC (restC (restC F.body)))
theorem F_is:F.body=.seq c1 (.seq c2 (.seq c3 (.seq c4 cT))):=by kernel_rfl
def w1:List (List UInt8):=[[108,101,97,100,115],[116,111,32,102,105,110,105,115,104,97,44,32,119,104,105,99,104,32,110,101,118,101,114,32,114,101,102,117,115,101,115]]
def w2:List (List UInt8):=[[108,101,97,100,115],[116,111,32,116,104,101,32,101,120,99,108,117,115,105,111,110,32,98,111,116,104]]
def j83(xs:List (List UInt8)):Orc:=fun g=>ifB (Nat.beq g 83) (some ([.fsl (xs.map AV.str) xs.length 1,.str [32]],.str (Lib.join xs [32]))) none
theorem Qr9{xs:List (List UInt8)}(b:xs≠[])(a:xs.length<=1000)(c:(Lib.join xs [32]).length<=1000000):OrcOK Tryz.prog (j83 xs):=by
 intro k d w hk;unfold j83 at hk;simp only[QaF,ZbV]at hk;split at hk;·rename_i e;subst e;cases hk;exact SO.join83 xs [32] b a c
 cases hk
def k4:KcA Bool:=fun e T h k=>match e with|.normal=>exR ansE (j83 w2) ft.get 100000 cT T h k (kTrue 0)|_=>false
def k3:KcA Bool:=fun e T h k=>match e with|.normal=>exR ansE (j83 w2) ft.get 100000 c4 T h k k4|_=>false
def k2:KcA Bool:=fun e T h k=>match e with|.normal=>exR ansE (j83 w1) ft.get 100000 c3 T h k k3|_=>false
def k1:KcA Bool:=fun e T h k=>match e with|.normal=>exR ansE (j83 w1) ft.get 100000 c2 T h k k2|_=>false
theorem run:exR ansE (j83 w1) ft.get 100000 c1 [] .e 64 k1=true:=by kernel_rfl
theorem known19:PSpec Tryz.prog 19 [] (.bool true):=by have b:OrcOK Tryz.prog (j83 w1):=Qr9 (by decide) (by decide) (by decide);have c:OrcOK Tryz.prog (j83 w2):=Qr9 (by decide) (by decide) (by decide);refine PSpec.of_W2 okF (Zah _) rfl rfl ?_;show W2 Tryz.prog ⟨F.n,0⟩ F.body.slim (fun e B=>(e=.normal\/e=.ret)/\∃d,resV B.T B.h F.res=some d/\Rn 0 π0 B.h (.bool true) (resOf d)) ⟨[],.e⟩;rw[resF,F_is];refine W2.seq (Qhr ft_ok b _ run fun e T h k hk=>?_);cases e<;>simp only[k1,Zap]at hk;refine W2.seq (Qhr ft_ok b _ hk fun e T h k hk=>?_);cases e<;>simp only[k2,Zap]at hk;refine W2.seq (Qhr ft_ok b _ hk fun e T h k hk=>?_);cases e<;>simp only[k3,Zap]at hk;refine W2.seq (Qhr ft_ok c _ hk fun e T h k hk=>?_);cases e<;>simp only[k4,Zap]at hk;refine Qhr ft_ok c _ hk fun e T h k hk=>?_;obtain⟨rfl,a⟩:=Qti hk;refine⟨.inr rfl,[.bool true],?_,Zct rfl⟩;show resV T h [.tmp 0]=_;rw[show resV T h [.tmp 0]=some [lk T 0]from rfl,a]
end
end Go.AM.EM
namespace Go.AM.SO
open Go.Proofs Go.AM.SD Go.AM.SE
end Go.AM.SO
namespace Go.AM.SO
open Go.Proofs Go.AM.SD Go.AM.SE
end Go.AM.SO
namespace Go.AM.SO
open Go.Proofs Go.AM.SD Go.AM.SE
end Go.AM.SO
namespace Go.AM.SO
open Go.Proofs Go.AM.SD Go.AM.SE
abbrev Yes(k:SFn)(vs:List AV):Prop:=W2 Tryz.prog ⟨k.n,0⟩ k.body (fun e B=>(e=.normal\/e=.ret)/\resV B.T B.h k.res=some [.bool true]) ⟨argT 0 vs,.e⟩
end Go.AM.SO
namespace Go.AM.SO
open Go.Proofs Go.AM.SD Go.AM.SE
def Now(a:Aut)(u:List Nat)(k s:Nat)(l:List Nat):Prop:=l.Nodup/\∀t∈l,t<a.n/\rchK a u k s t
theorem Now.nil{a:Aut}{u:List Nat}{k s:Nat}:Now a u k s []:=⟨List.nodup_nil,fun t b=>by cases b⟩
end Go.AM.SO
namespace Go.AM.SO
open Go.Proofs Go.AM.SD Go.AM.SE
abbrev mapK(K:List Nat):List (AV×AV):=mapG kI (fun _=>AV.bool true) K
theorem QnI{K:List Nat}{v:Nat}:mapG kI (updG (fun _=>AV.bool true) v (.bool true)) (K++[v])=mapK (K++[v]):=by refine congrArg (fun f=>mapG kI f (K++[v])) (funext fun z=>?_);unfold updG;split<;>rfl
theorem rn_K{m:Nat}{π:Nat->Option Src}{h:Heap}(K:List Nat):RnM m π h (mapK K) (mapK K):=ZcV fun z _=>⟨rfl,rfl⟩
theorem QhD{R:List Rm}{r:Int}{t:Nat}:blkTo R r t=(Nat.beq (rmD R t).reason 3&&decide ((rmD R t).rank=r)):=by unfold blkTo rmD;cases remAt R t<;>rfl
def grow(R:List Rm)(r:Int)(K:List Nat)(e:Ed):Bool:=K.contains e.1&&(!K.contains e.2.2&&blkTo R r e.2.2)
theorem QuB{a:Aut}{R:List Rm}{r:Int}{K:List Nat}(h:∀(j:Nat)y,j<a.es.length->a.es[j]?=some y->grow R r K y=false):∀e∈a.es,e.1∈K->blkTo R r e.2.2=true->e.2.2∈K:=by intro e he h1 c;obtain⟨j,b⟩:=Zbk he;have:=h j e (Zaf.1 b).1 b;unfold grow at this;rw[c]at this;simp[h1]at this;exact this
theorem stuck25K(c:Cel)(h:WfCel c){s:Nat}(hs:s<(spQ c).n){x:Rm}(hx:remAt (resC c).rem s=some x)(h3:x.reason=3):PSpec Tryz.prog 25 [celV c,.int .i64 (s:Int)] (.tup [sliN (stkI (spQ c) (resC c).rem x.rank s),egsN (stkX (spQ c) (resC c).rem x.rank s),.int .i64 0]):=by
 refine Zcx 64 XA.ok25 rfl (by rw[noRefs,SU.QaK];rfl) (by simp only[noRef,noRefs,Qad,Qaf];rfl) ?_;have hO:=open80 c h;have hnc:=QaY c;have m:=Qdf c;have V:WfA (spQ c):=wfA_c c h;have hR:RemOk (spQ c) (uncL c.ev 5) (leftC c) (resC c).rem:=Qct c h;rw[Qcu]at hO m;generalize leftC c=left at*;generalize resC c=r at*;generalize spQ c=q at*;generalize plA c=p at*;generalize spA c (sync0 (allA c)).1=A at*;generalize spB c (sync0 (allA c)).1=B at*;generalize spP c (sync0 (auL c.cs)).1 (sync0 (allA c)).1=X at*;generalize forb c (sync0 (allA c)).1.length=F at*;generalize uncL c.ev 5=u at*;have g1:¬(s:Int)<0:=by omega
 have g2:¬(q.n:Int)<=(s:Int):=by omega
 have hn:=V.n5;have hel:=WfA.el1 V;have k:=Qah q.es;have hD:rmD r.rem s=x:=by unfold rmD;rw[hx];rfl
 obtain⟨xs,d,xr,xe⟩:=x;dsimp only at h3;subst h3;have P:blkTo r.rem d s=true:=by rw[QhD,hD];simp
 dsimp only;unfold XA.s25;refine Zc0 ?_;refine cp hO ?_;refine Zc1 (Zc6 g1 g2) ?_;refine QcW ?_;rw[hD];simp(disch:=first|omega|exact PairsOK.mk rfl|(simp only[lenW]<;>omega))only[rmV,rmC,Qaa,Qab,Qac,wW,wV,simprocAttr];refine QcW ?_;rw[hD];simp(disch:=first|omega|exact PairsOK.mk rfl|(simp only[lenW]<;>omega))only[rmV,rmC,Qaa,Qab,Qac,wW,wV,simprocAttr];refine Qbf (c:=kI) (f:=fun _=>.bool true) (x:=s) (l:=[]) (v:=.bool true) (g:=0) gg Qbb (by simp) (by omega) ?_;rw[show mapG kI (updG (fun _=>AV.bool true) s (.bool true)) ([]++[s])=mapK [s]from QnI (K:=[])];refine Zc0 ?_;refine Qap 120 (fun z:Bool×List Nat=>[(4,.nilsl),(5,.nilsl),(7,.fptr (stdY c p q A B X F r u)),(8,.int .i64 d),(9,.map 60 0),(10,.bool z.1)]) (fun z=>[(60,.map 0 (mapK z.2))]) (fun z=>KOk q r.rem d s z.2/\(z.1=false->∀e∈q.es,e.1∈z.2->blkTo r.rem d e.2.2=true->e.2.2∈z.2)) (fun z=>2*(q.n-z.2.length)+z.1.toNat) (true,[s]) 1 300 (fun K:List Nat=>[(4,.nilsl),(5,.nilsl),(7,.fptr (stdY c p q A B X F r u)),(8,.int .i64 d),(9,.map 60 0)]) (fun K=>[(60,.map 0 (mapK K))]) (fun K=>KOk q r.rem d s K/\∀e∈q.es,e.1∈K->blkTo r.rem d e.2.2=true->e.2.2∈K) ?_ ⟨KOk.one,fun e=>by cases e⟩ ?_ ?_;·exact⟨[(60,.blk 108 0)],rfl,ZcB,ZcH rfl rfl gg (rn_K [s]) ZcE,ZcD (Zct rfl) (ZcD (Zct rfl) (ZcD (Zct m) (ZcD (Zct rfl) (ZcD (Rn.x3 rfl rfl) au29))))⟩
 ·rintro⟨ch,K⟩⟨U,M⟩;dsimp only at U M;cases ch with|false=>refine Zc0 ?_;refine⟨K,?_⟩;exact⟨⟨U,M rfl⟩,[(60,.blk 60 0)],rfl,ZcB,ZcH rfl rfl gg (rn_K K) ZcE,ZcD (Zct rfl) (ZcD (Zct rfl) (ZcD (Zct m) (ZcD (Zct rfl) (ZcD (Rn.x3 rfl rfl) ZcC))))⟩|true=>
  refine Zc0 ?_;refine Qap 160 (fun z:Nat×List Nat×Bool=>[(4,.nilsl),(5,.nilsl),(7,.fptr (stdY c p q A B X F r u)),(8,.int .i64 d),(9,.map 60 0),(10,.bool z.2.2),(64,egsN q.es),(65,.int .i64 q.es.length),(66,.int .i64 z.1)]) (fun z=>[(60,.map 0 (mapK z.2.1))]) (fun z=>z.1<=q.es.length/\KOk q r.rem d s z.2.1/\((z.2.2=false/\z.2.1=K/\∀(j:Nat)y,j<z.1->q.es[j]?=some y->grow r.rem d K y=false)\/(z.2.2=true/\K.length<z.2.1.length))) (fun z=>q.es.length-z.1) (0,K,false) 3 220 (fun z:List Nat×Bool=>[(4,.nilsl),(5,.nilsl),(7,.fptr (stdY c p q A B X F r u)),(8,.int .i64 d),(9,.map 60 0),(10,.bool z.2)]) (fun z=>[(60,.map 0 (mapK z.1))]) (fun z=>KOk q r.rem d s z.1/\((z.2=false/\z.1=K/\∀(j:Nat)y,j<q.es.length->q.es[j]?=some y->grow r.rem d K y=false)\/(z.2=true/\K.length<z.1.length))) ?_ ⟨Zah _,U,.inl ⟨rfl,rfl,fun j y hj=>absurd hj (ZaB _)⟩⟩ ?_ ?_;·exact⟨[(60,.blk 60 0)],rfl,ZcB,ZcH rfl rfl gg (rn_K K) ZcE,ZcD (Zct rfl) (ZcD (Zct rfl) (ZcD (Zct m) (ZcD (Zct rfl) (ZcD (Rn.x3 rfl rfl) (ZcD (Zct rfl) (ZcD (Zct k) au29))))))⟩
  ·rintro⟨i,L,b⟩⟨hi,J,o⟩;dsimp only at hi J o;have hLl:=J.len V hR P;by_cases a:i<q.es.length
   ·obtain⟨y,Y⟩:=Qao a;have hym:=Zac Y;have w:=QaJ Y;have H:3<=((q.es.flatMap edC).drop (i*3)).length:=by rw[w];simp
    have l:grow r.rem d L y=false->i+1<=q.es.length/\KOk q r.rem d s L/\((b=false/\L=K/\∀(j:Nat)y,j<i+1->q.es[j]?=some y->grow r.rem d K y=false)\/(b=true/\K.length<L.length)):=by
     intro hg;refine⟨by omega,J,?_⟩;rcases o with⟨rfl,rfl,ho⟩|ho
     ·refine .inl ⟨rfl,rfl,fun j z hj hz=>?_⟩;by_cases e:j=i;·subst e;rw[Y]at hz;cases hz;exact hg
      exact ho j z (by omega) hz
     exact .inr ho
    have C:=@QhD r.rem d y.2.2;refine Zc1 (Zc7 a w H) ?_;refine Qbj [(73,[])] rfl rfl ?_;refine Zc1 (Zc7 a w H) ?_;refine QcW ?_;obtain⟨zs,zk,zr,ze,hz⟩:∃zs zk zr ze,rmD r.rem y.2.2=⟨zs,zk,zr,ze⟩:=⟨_,_,_,_,rfl⟩;rw[hz]at C⊢;dsimp only at C;simp(disch:=first|omega|exact PairsOK.mk rfl|(simp only[lenW]<;>omega))only[rmV,rmC,Qaa,Qab,Qac,wW,wV,simprocAttr];refine⟨⟨⟨_,rfl,fun b hb=>hb⟩,trivial⟩,?_⟩;by_cases N:y.1∈L
    ·refine QbE (c:=kI) (f:=fun _=>.bool true) (x:=y.1) (l:=L) (g:=0) gg Qbb N ?_;refine Zc0 ?_;by_cases f:y.2.2∈L;·refine QbE (c:=kI) (f:=fun _=>.bool true) (x:=y.2.2) (l:=L) (g:=0) gg Qbb f ?_;refine Zc0 ?_;refine⟨(i+1,L,b),by dsimp only;omega,l (by unfold grow;simp[f]),?_⟩;exact⟨[(60,.blk 60 0)],rfl,ZcB,ZcH rfl rfl gg (rn_K L) ZcE,ZcD (Zct rfl) (ZcD (Zct rfl) (ZcD (Zct m) (ZcD (Zct rfl) (ZcD (Rn.x3 rfl rfl) (ZcD (Zct rfl) (ZcD (Zct k) au29))))))⟩
     refine Qbe (c:=kI) (f:=fun _=>.bool true) (x:=y.2.2) (l:=L) (g:=0) gg Qbb f ?_;by_cases g3:zr=3
     ·subst g3;by_cases gk:zk=d
      ·have G:blkTo r.rem d y.2.2=true:=by rw[C,gk];simp
       refine Zc1 gk ?_;refine Qbf (c:=kI) (f:=fun _=>.bool true) (x:=y.2.2) (l:=L) (v:=.bool true) (g:=0) gg Qbb f (by omega) ?_;rw[show mapG kI (updG (fun _=>AV.bool true) y.2.2 (.bool true)) (L++[y.2.2])=mapK (L++[y.2.2])from QnI];refine Zc0 ?_;refine⟨(i+1,L++[y.2.2],true),by dsimp only;omega,⟨by dsimp only;omega,J.add hym N f G,.inr ⟨rfl,?_⟩⟩,?_⟩
       ·rcases o with⟨_,e,_⟩|⟨_,e⟩;·rw[e];simp
        simp;omega
       exact⟨[(60,.blk 60 0)],rfl,ZcB,ZcH rfl rfl gg (rn_K (L++[y.2.2])) ZcE,ZcD (Zct rfl) (ZcD (Zct rfl) (ZcD (Zct m) (ZcD (Zct rfl) (ZcD (Rn.x3 rfl rfl) (ZcD (Zct rfl) (ZcD (Zct k) au29))))))⟩
      have G:blkTo r.rem d y.2.2=false:=by rw[C];simp[gk]
      refine Zc1 gk ?_;refine⟨(i+1,L,b),by dsimp only;omega,l (by unfold grow;simp[G]),?_⟩;exact⟨[(60,.blk 60 0)],rfl,ZcB,ZcH rfl rfl gg (rn_K L) ZcE,ZcD (Zct rfl) (ZcD (Zct rfl) (ZcD (Zct m) (ZcD (Zct rfl) (ZcD (Rn.x3 rfl rfl) (ZcD (Zct rfl) (ZcD (Zct k) au29))))))⟩
     have g3':¬(zr:Int)=3:=by omega
     have G:blkTo r.rem d y.2.2=false:=by rw[C];simp[g3]
     refine Zc1 g3' ?_;refine⟨(i+1,L,b),by dsimp only;omega,l (by unfold grow;simp[G]),?_⟩;exact⟨[(60,.blk 60 0)],rfl,ZcB,ZcH rfl rfl gg (rn_K L) ZcE,ZcD (Zct rfl) (ZcD (Zct rfl) (ZcD (Zct m) (ZcD (Zct rfl) (ZcD (Rn.x3 rfl rfl) (ZcD (Zct rfl) (ZcD (Zct k) au29))))))⟩
    refine Qbe (c:=kI) (f:=fun _=>.bool true) (x:=y.1) (l:=L) (g:=0) gg Qbb N ?_;refine Zc0 ?_;refine⟨(i+1,L,b),by dsimp only;omega,l (by unfold grow;simp[N]),?_⟩;exact⟨[(60,.blk 60 0)],rfl,ZcB,ZcH rfl rfl gg (rn_K L) ZcE,ZcD (Zct rfl) (ZcD (Zct rfl) (ZcD (Zct m) (ZcD (Zct rfl) (ZcD (Rn.x3 rfl rfl) (ZcD (Zct rfl) (ZcD (Zct k) au29))))))⟩
   have e:i=q.es.length:=by omega
   subst e;refine Zc1 a ?_;refine⟨(L,b),?_⟩;exact⟨⟨J,o⟩,[(60,.blk 60 0)],rfl,ZcB,ZcH rfl rfl gg (rn_K L) ZcE,ZcD (Zct rfl) (ZcD (Zct rfl) (ZcD (Zct m) (ZcD (Zct rfl) (ZcD (Rn.x3 rfl rfl) (ZcD (Zct rfl) ZcC)))))⟩
  rintro⟨L,b⟩⟨J,o⟩;dsimp only at J o;have hLl:=J.len V hR P;have hKl:=U.len V hR P;refine Zc0 ?_;rcases o with⟨rfl,rfl,ho⟩|⟨rfl,ho⟩;·refine⟨(false,L),by simp,⟨J,fun _=>QuB ho⟩,?_⟩;exact⟨[(60,.blk 60 0)],rfl,ZcB,ZcH rfl rfl gg (rn_K L) ZcE,ZcD (Zct rfl) (ZcD (Zct rfl) (ZcD (Zct m) (ZcD (Zct rfl) (ZcD (Rn.x3 rfl rfl) au29))))⟩
  refine⟨(true,L),by simp;omega,⟨J,fun e=>by cases e⟩,?_⟩;exact⟨[(60,.blk 60 0)],rfl,ZcB,ZcH rfl rfl gg (rn_K L) ZcE,ZcD (Zct rfl) (ZcD (Zct rfl) (ZcD (Zct m) (ZcD (Zct rfl) (ZcD (Rn.x3 rfl rfl) au29))))⟩
 rintro K⟨U,M⟩;have T:=U.all M;have eI:stkI q r.rem d s=(List.range q.n).filter K.contains:=by unfold stkI;congr 1;funext t;exact(T t).symm
 have eX:stkX q r.rem d s=q.es.filter (fun e:Ed=>K.contains e.1&&!K.contains e.2.2):=by unfold stkX;congr 1;funext e;rw[T,T]
 rw[eI,eX];have hfl:∀i,((List.range i).filter K.contains).length<=i:=fun i=>Zav (ZaG ..) (by simp);have hKl:=U.len V hR P;refine Zc0 ?_;refine Qap 320 (fun i:Nat=>[(4,.sl 61 0 0 ((List.range i).filter K.contains).length 1),(5,.nilsl),(7,.fptr (stdY c p q A B X F r u)),(9,.map 60 0),(108,.int .i64 (q.n:Int)),(109,.int .i64 i)]) (fun i=>[(60,.map 0 (mapK K)),(61,.cells 0 (ints (nz ((List.range i).filter K.contains))))]) (fun i=>i<=q.n) (fun i=>q.n-i) 0 5 400 (fun _:Unit=>[(4,.sl 61 0 0 ((List.range q.n).filter K.contains).length 1),(5,.nilsl),(7,.fptr (stdY c p q A B X F r u)),(9,.map 60 0)]) (fun _=>[(60,.map 0 (mapK K)),(61,.cells 0 (ints (nz ((List.range q.n).filter K.contains))))]) (fun _=>True) ?_ (Zah _) ?_ ?_;·exact⟨[(60,.blk 60 0),(61,.nil)],rfl,ZcB,ZcH rfl rfl gg (rn_K K) (ZcG rfl rfl ZcE),ZcD (Rn.x4 rfl rfl) (ZcD (Zct rfl) (ZcD (Zct m) (ZcD (Rn.x3 rfl rfl) au29)))⟩
 ·rintro i hi;have hil:=hfl i;have v:(List.range (i+1)).filter K.contains=(List.range i).filter K.contains++(if K.contains i then[i]else[]):=by rw[ZaQ,Za7];cases S:K.contains i<;>simp only[List.filter,S]<;>rfl
  have R:(ints (nz ((List.range i).filter K.contains))).length=((List.range i).filter K.contains).length:=by simp[ints]
  by_cases a:i<q.n
  ·by_cases hm:i∈K;·rw[if_pos (by simpa using hm)]at v;generalize(List.range i).filter K.contains=I at*;refine Zc1 a ?_;refine QbE (c:=kI) (f:=fun _=>.bool true) (x:=i) (l:=K) (g:=0) gg Qbb hm ?_;refine Zc1 R ?_;refine⟨i+1,by omega,by omega,?_⟩;rw[v,QaD,Qay,Zae];exact⟨[(60,.blk 60 0),(61,.blk 61 1)],rfl,ZcB,ZcH rfl rfl gg (rn_K K) (ZcF rfl rfl gg (Zcv (SU.Qau (Qad _) rfl)) ZcE),ZcD (Rn.x1 rfl rfl) (ZcD (Zct rfl) (ZcD (Zct m) (ZcD (Rn.x3 rfl rfl) au29)))⟩
   rw[if_neg (by simpa using hm),Zaq]at v;generalize(List.range i).filter K.contains=I at*;refine Zc1 a ?_;refine Qbe (c:=kI) (f:=fun _=>.bool true) (x:=i) (l:=K) (g:=0) gg Qbb hm ?_;refine Zc0 ?_;refine⟨i+1,by omega,by omega,?_⟩;rw[v];exact⟨[(60,.blk 60 0),(61,.blk 61 0)],rfl,ZcB,ZcH rfl rfl gg (rn_K K) (ZcF rfl rfl gg (Zcv (Qad _)) ZcE),ZcD (Rn.x1 rfl rfl) (ZcD (Zct rfl) (ZcD (Zct m) (ZcD (Rn.x3 rfl rfl) au29)))⟩
  have e:i=q.n:=by omega
  subst e;refine Zc1 a ?_;exact⟨(),[(60,.blk 60 0),(61,.blk 61 0)],rfl,ZcB,ZcH rfl rfl gg (rn_K K) (ZcF rfl rfl gg (Zcv (Qad _)) ZcE),ZcD (Rn.x1 rfl rfl) (ZcD (Zct rfl) (ZcD (Zct m) (ZcD (Rn.x3 rfl rfl) ZcC)))⟩
 rintro _ _;have hil:=hfl q.n;generalize(List.range q.n).filter K.contains=I at*;obtain⟨g,hg⟩:∃g:Ed->Bool,g=fun e:Ed=>K.contains e.1&&!K.contains e.2.2:=⟨_,rfl⟩;rw[<-hg];refine Zc0 ?_;refine Qap 420 (fun i:Nat=>[(4,.sl 61 0 0 I.length 1),(5,.sl 62 0 0 ((q.es.take i).filter g).length 3),(9,.map 60 0),(125,egsN q.es),(126,.int .i64 q.es.length),(127,.int .i64 i)]) (fun i=>[(60,.map 0 (mapK K)),(61,.cells 0 (ints (nz I))),(62,.cells 0 (((q.es.take i).filter g).flatMap edC))]) (fun i=>i<=q.es.length) (fun i=>q.es.length-i) 0 7 500 (fun _:Unit=>[(4,.sl 61 0 0 I.length 1),(5,.sl 62 0 0 (q.es.filter g).length 3)]) (fun _=>[(61,.cells 0 (ints (nz I))),(62,.cells 0 ((q.es.filter g).flatMap edC))]) (fun _=>True) ?_ (Zah _) ?_ ?_;·exact⟨[(60,.blk 60 0),(61,.blk 61 0),(62,.nil)],rfl,ZcB,ZcH rfl rfl gg (rn_K K) (ZcF rfl rfl gg (Zcv (Qad _)) (ZcG rfl rfl ZcE)),ZcD (Rn.x1 rfl rfl) (ZcD (Rn.x4 rfl rfl) (ZcD (Rn.x3 rfl rfl) (ZcD (Zct k) au29)))⟩
 ·rintro i hi;by_cases a:i<q.es.length
  ·obtain⟨y,Y⟩:=Qao a;have w:=QaJ Y;have H:3<=((q.es.flatMap edC).drop (i*3)).length:=by rw[w];simp
   have v:(q.es.take (i+1)).filter g=(q.es.take i).filter g++(if g y then[y]else[]):=by rw[take_succ' Y,Za7];cases S:g y<;>simp only[List.filter,S]<;>rfl
   have hgl:((q.es.take i).filter g).length<=i:=Zav (ZaG ..) (by simp;omega);have R:(((q.es.take i).filter g).flatMap edC).length=((q.es.take i).filter g).length*3:=Qbx _;have Q:g y=(K.contains y.1&&!K.contains y.2.2):=by rw[hg]
   generalize(q.es.take i).filter g=E at*;have Z:g y=false->E=(q.es.take (i+1)).filter g:=fun e=>by rw[v,e];simp
   by_cases N:y.1∈K
   ·refine Zc1 (Zc7 a w H) ?_;refine QbE (c:=kI) (f:=fun _=>.bool true) (x:=y.1) (l:=K) (g:=0) gg Qbb N ?_;refine Zc0 ?_;by_cases f:y.2.2∈K;·refine QbE (c:=kI) (f:=fun _=>.bool true) (x:=y.2.2) (l:=K) (g:=0) gg Qbb f ?_;refine Zc0 ?_;refine⟨i+1,by omega,by omega,?_⟩;rw[<-Z (by rw[Q];simp[f])];exact⟨[(60,.blk 60 0),(61,.blk 61 0),(62,.blk 62 0)],rfl,ZcB,ZcH rfl rfl gg (rn_K K) (ZcF rfl rfl gg (Zcv (Qad _)) (ZcF rfl rfl gg (Zcv (Qaf _)) ZcE)),ZcD (Rn.x1 rfl rfl) (ZcD (Rn.x1 rfl rfl) (ZcD (Rn.x3 rfl rfl) (ZcD (Zct k) au29)))⟩
    refine Qbe (c:=kI) (f:=fun _=>.bool true) (x:=y.2.2) (l:=K) (g:=0) gg Qbb f ?_;refine Zc1 R ?_;refine⟨i+1,by omega,by omega,?_⟩;rw[v,if_pos (by rw[Q];simp[N,f]),Zar,Zae];exact⟨[(60,.blk 60 0),(61,.blk 61 0),(62,.blk 62 1)],rfl,ZcB,ZcH rfl rfl gg (rn_K K) (ZcF rfl rfl gg (Zcv (Qad _)) (ZcF rfl rfl gg (Zcv (SU.Qau (Qaf _) rfl)) ZcE)),ZcD (Rn.x1 rfl rfl) (ZcD (Rn.x1 rfl rfl) (ZcD (Rn.x3 rfl rfl) (ZcD (Zct k) au29)))⟩
   refine Zc1 (Zc7 a w H) ?_;refine Qbe (c:=kI) (f:=fun _=>.bool true) (x:=y.1) (l:=K) (g:=0) gg Qbb N ?_;refine Zc0 ?_;refine⟨i+1,by omega,by omega,?_⟩;rw[<-Z (by rw[Q];simp[N])];exact⟨[(60,.blk 60 0),(61,.blk 61 0),(62,.blk 62 0)],rfl,ZcB,ZcH rfl rfl gg (rn_K K) (ZcF rfl rfl gg (Zcv (Qad _)) (ZcF rfl rfl gg (Zcv (Qaf _)) ZcE)),ZcD (Rn.x1 rfl rfl) (ZcD (Rn.x1 rfl rfl) (ZcD (Rn.x3 rfl rfl) (ZcD (Zct k) au29)))⟩
  have e:i=q.es.length:=by omega
  subst e;rw[Zao];refine Zc1 a ?_;exact⟨(),[(61,.blk 61 0),(62,.blk 62 0)],rfl,ZcB,ZcF rfl rfl gg (Zcv (Qad _)) (ZcF rfl rfl gg (Zcv (Qaf _)) ZcE),ZcD (Rn.x1 rfl rfl) (ZcD (Rn.x1 rfl rfl) ZcC)⟩
 rintro _ _;refine Zc0 ?_;exact⟨.inr trivial,_,rfl,Rn.tup (ZcL (ZcN (b:=61) rfl (by simp[ints]) (Zcv (Qad _))) (ZcL (ZcN (b:=62) rfl (Qbx _) (Zcv (Qaf _))) (Zcv rfl)))⟩
theorem stuck25R(c:Cel)(h:WfCel c){s:Int}(b:s<0\/((spQ c).n:Int)<=s):PSpec Tryz.prog 25 [celV c,.int .i64 s] (.tup [sliN [],egsN [],.int .i64 2]):=by
 refine Zcx 64 XA.ok25 rfl (by rw[noRefs,SU.QaK];rfl) rfl ?_;have hO:=open80 c h;have a:=QaY c;rw[Qcu]at hO;generalize resC c=r at*;generalize spQ c=q at*;generalize plA c=p at*;generalize spA c (sync0 (allA c)).1=A at*;generalize spB c (sync0 (allA c)).1=B at*;generalize spP c (sync0 (auL c.cs)).1 (sync0 (allA c)).1=X at*;generalize forb c (sync0 (allA c)).1.length=F at*;generalize uncL c.ev 5=u at*;by_cases g1:s<0;·unfold XA.s25;refine Zc0 ?_;refine cp hO ?_;refine Zc1 g1 ?_;exact⟨.inr trivial,_,rfl,Rn.tup (ZcL Zcu (ZcL Zcu (Zcv rfl)))⟩
 have g2:(q.n:Int)<=s:=by omega
 unfold XA.s25;refine Zc0 ?_;refine cp hO ?_;refine Zc1 (Zc6 g1 g2) ?_;exact⟨.inr trivial,_,rfl,Rn.tup (ZcL Zcu (ZcL Zcu (Zcv rfl)))⟩
theorem stuck25N(c:Cel)(h:WfCel c){s:Nat}(m:s<(spQ c).n)(d:(rmD (resC c).rem s).reason≠3):PSpec Tryz.prog 25 [celV c,.int .i64 (s:Int)] (.tup [sliN [],egsN [],.int .i64 22]):=by
 refine Zcx 64 XA.ok25 rfl (by rw[noRefs,SU.QaK];rfl) rfl ?_;have hO:=open80 c h;have k:=QaY c;have l:=Qdf c;rw[Qcu]at hO l;generalize resC c=r at*;generalize spQ c=q at*;generalize plA c=p at*;generalize spA c (sync0 (allA c)).1=A at*;generalize spB c (sync0 (allA c)).1=B at*;generalize spP c (sync0 (auL c.cs)).1 (sync0 (allA c)).1=X at*;generalize forb c (sync0 (allA c)).1.length=F at*;generalize uncL c.ev 5=u at*;have g1:¬(s:Int)<0:=by omega
 have g2:¬(q.n:Int)<=(s:Int):=by omega
 obtain⟨b,g,a,i,f⟩:∃b g a i,rmD r.rem s=⟨b,g,a,i⟩:=⟨_,_,_,_,rfl⟩;rw[f]at d;dsimp only at d;have g3:¬(a:Int)=3:=by omega
 unfold XA.s25;refine Zc0 ?_;refine cp hO ?_;refine Zc1 (Zc6 g1 g2) ?_;refine QcW ?_;rw[f];simp(disch:=first|omega|exact PairsOK.mk rfl|(simp only[lenW]<;>omega))only[rmV,rmC,g3,Qaa,Qab,Qac,wW,wV,simprocAttr];exact⟨.inr trivial,_,rfl,Rn.tup (ZcL Zcu (ZcL Zcu (Zcv rfl)))⟩
end Go.AM.SO
namespace Go.Proofs
open Go.Shelf
def Tryz.Qsa:Go.Shelf.Ren:=⟨fun|189=>45|125=>96|257=>95|128=>174|129=>175|294=>165|295=>166|296=>167|297=>168|298=>169|299=>170|216=>171|300=>172|301=>173|328=>233|329=>234|330=>235|331=>236|332=>237|215=>238|343=>273|n=>n,fun|28=>30|3=>3|46=>210|0=>0|51=>298|53=>300|4=>4|183=>292|182=>291|131=>201|5=>5|9=>9|218=>356|222=>360|228=>389|229=>287|n=>n,fun|n=>n⟩
theorem Tryz.sortI:Go.Proofs.Lays.n189 Tryz.prog Tryz.Qsa:={
 mixed:=by kernel_rfl
 f125:=Tryz.func96.trans (congrArg some (by kernel_rfl))
 f128:=Tryz.func174.trans (congrArg some (by kernel_rfl))
 f129:=Tryz.func175.trans (congrArg some (by kernel_rfl))
 f189:=Tryz.func45.trans (congrArg some (by kernel_rfl))
 f215:=Tryz.func238.trans (congrArg some (by kernel_rfl))
 f216:=Tryz.func171.trans (congrArg some (by kernel_rfl))
 f257:=Tryz.func95.trans (congrArg some (by kernel_rfl))
 f294:=Tryz.func165.trans (congrArg some (by kernel_rfl))
 f295:=Tryz.func166.trans (congrArg some (by kernel_rfl))
 f296:=Tryz.func167.trans (congrArg some (by kernel_rfl))
 f297:=Tryz.func168.trans (congrArg some (by kernel_rfl))
 f298:=Tryz.func169.trans (congrArg some (by kernel_rfl))
 f299:=Tryz.func170.trans (congrArg some (by kernel_rfl))
 f300:=Tryz.func172.trans (congrArg some (by kernel_rfl))
 f301:=Tryz.func173.trans (congrArg some (by kernel_rfl))
 f328:=Tryz.func233.trans (congrArg some (by kernel_rfl))
 f329:=Tryz.func234.trans (congrArg some (by kernel_rfl))
 f330:=Tryz.func235.trans (congrArg some (by kernel_rfl))
 f331:=Tryz.func236.trans (congrArg some (by kernel_rfl))
 f332:=Tryz.func237.trans (congrArg some (by kernel_rfl))
 f343:=Tryz.func273.trans (congrArg some (by kernel_rfl))
 t0:=Tryz.underlying0
 a0:=Tryz.isAgg0
 z0:=Tryz.sizeOf0
 v0:=Tryz.zeroValue0
 t3:=Tryz.underlying3
 a3:=Tryz.isAgg3
 z3:=Tryz.sizeOf3
 v3:=Tryz.zeroValue3
 t4:=Tryz.underlying4
 a4:=Tryz.isAgg4
 z4:=Tryz.sizeOf4
 v4:=Tryz.zeroValue4
 t5:=Tryz.underlying5
 a5:=Tryz.isAgg5
 z5:=Tryz.sizeOf5
 v5:=Tryz.zeroValue5
 t9:=Tryz.underlying9
 a9:=Tryz.isAgg9
 z9:=Tryz.sizeOf9
 v9:=Tryz.zeroValue9
 t28:=Tryz.underlying30
 a28:=Tryz.isAgg30
 z28:=Tryz.sizeOf30
 v28:=Tryz.zeroValue30
 t46:=Tryz.underlying210
 a46:=Tryz.isAgg210
 z46:=Tryz.sizeOf210
 v46:=Tryz.zeroValue210
 t51:=Tryz.underlying298
 a51:=Tryz.isAgg298
 z51:=Tryz.sizeOf298
 v51:=Tryz.zeroValue298
 t53:=Tryz.underlying300
 a53:=Tryz.isAgg300
 z53:=Tryz.sizeOf300
 v53:=Tryz.zeroValue300
 t131:=Tryz.underlying201
 a131:=Tryz.isAgg201
 z131:=Tryz.sizeOf201
 v131:=Tryz.zeroValue201
 t182:=Tryz.underlying291
 a182:=Tryz.isAgg291
 z182:=Tryz.sizeOf291
 v182:=Tryz.zeroValue291
 t183:=Tryz.underlying292
 a183:=Tryz.isAgg292
 z183:=Tryz.sizeOf292
 v183:=Tryz.zeroValue292
 t218:=Tryz.underlying356
 a218:=Tryz.isAgg356
 z218:=Tryz.sizeOf356
 v218:=Tryz.zeroValue356
 t222:=Tryz.underlying360
 a222:=Tryz.isAgg360
 z222:=Tryz.sizeOf360
 v222:=Tryz.zeroValue360
 t228:=Tryz.underlying389
 a228:=Tryz.isAgg389
 z228:=Tryz.sizeOf389
 v228:=Tryz.zeroValue389
 t229:=Tryz.underlying287
 a229:=Tryz.isAgg287
 z229:=Tryz.sizeOf287
 v229:=Tryz.zeroValue287}
end Go.Proofs
namespace Go.AM.SO
open Go.Proofs Go.AM.SD Go.AM.SE
theorem call183:Callable Tryz.prog 45:=⟨_,Tryz.func45,by kernel_rfl,by kernel_rfl⟩
theorem sort183(l c:List Int)(m:Nat)(hm:l.length=m)(g:m<=1000000)(f:(l.mergeSort fun x y=>decide (x<=y))=c){h:Heap}{b γ:Nat}(d:h.get b=some (.cells γ (ints l)))(a:b<1099511627775):HSpec Tryz.prog 45 [.sl b γ 0 m 1] h (.tup []) (h.set b (.cells γ (ints c))):=by subst hm;subst f;exact HSpec.sortI (f:=45) Tryz.sortI rfl call183 l (by omega) d a
end Go.AM.SO
namespace Go.AM.SO
open Go.Proofs Go.AM.SD Go.AM.SE
theorem QuC(K:List Nat):∃L:List Nat,((nz K).mergeSort fun x y=>decide (x<=y))=nz L/\L.Perm K/\L.Pairwise (·<=·):=by
 have hp:((nz K).mergeSort fun x y=>decide (x<=y)).Perm (nz K):=List.mergeSort_perm _ _;have g:((nz K).mergeSort fun x y=>decide (x<=y)).Pairwise (fun x y=>decide (x<=y)=true):=List.pairwise_mergeSort (by intro a b c h1 i;simp at*;omega) (by intro a b;simp;omega) _;generalize((nz K).mergeSort fun x y=>decide (x<=y))=M at*;have f:∀x∈M,(0:Int)<=x:=fun x d=>by have:=hp.mem_iff.1 d;unfold nz at this;obtain⟨y,_,rfl⟩:=Zan.1 this;omega
 refine⟨M.map Int.toNat,?_,?_,?_⟩
 ·unfold nz;rw[List.map_map];conv=>lhs;rw[<-List.map_id M]
  refine Za2 fun x d=>?_;have:=f x d;simp;omega
 ·refine(hp.map Int.toNat).trans ?_;unfold nz;rw[List.map_map];have:(List.map (Int.toNat∘fun n:Nat=>(n:Int)) K)=K:=by
   conv=>rhs;rw[<-List.map_id K]
   exact Za2 fun x _=>by simp
  rw[this]
 rw[ZbC];exact g.imp fun h=>by simp at h;omega
theorem marked47(c:Cel)(q:Aut)(TA TB:List (List Nat))(X:List Nat)(F:List (Nat×Int×Int×Int))(r:Res)(t:Nat)(hm:q.ms.length<=1000000):PSpec Tryz.prog 47 [.int .i64 (t:Int),.fptr (wldP c q TA TB X F r)] (.bool (q.ms.contains t)):=by have b:=@nrW c q TA TB X F r;refine Zcy 64 XL.ok47 rfl (by rw[noRefs,noRefs,noRef,noRef,b];rfl) rfl ?_;have a:=contains39 q.ms t hm;unfold XL.s47;refine Zc0 ?_;refine ch (ZcQ (ZcT (Zcz _) (ZcT (Zcz _) ZcS)) a rfl) ?_;refine Zc0 ?_;exact⟨.inr trivial,_,rfl,rfl⟩
theorem law12(hK:PSpec Tryz.prog 19 [] (.bool true))(p:Pln)(h:POk p)(hxn:p.xn<=9223372036854775807)(st:Int):W2 Tryz.prog ⟨XL.s12.n,0⟩ XL.s12.body (fun e B=>(e=.normal\/e=.ret)/\resV B.T B.h XL.s12.res=some [.bool true]) ⟨argT 0 [plnV p,.int .i64 st],.e⟩:=by
 refine(Zcw (n:=40) (Q:=fun e T h _=>(e=.normal\/e=.ret)/\resV T h XL.s12.res=some [.bool true]) (show wS Tryz.prog ⟨XL.s12.n,0⟩ XL.s12.body [] 40 _ _ _ from ?_)).mono fun e B⟨_,h⟩=>h;have hlen:=SU.QcA h;have Q:=SU.QcB h;have hS:PSpec Tryz.prog 32 [.agg (plnC p)] (.bool (decide (p.xn<=4))):=short25 p h hxn;have hM:PSpec Tryz.prog 33 [.agg (plnC p)] (.tup [.agg (wldC (mkC p)),.bool true]):=begin33 p h;have hw:=@Qd6 p;have f:(plnC p).take 152=plnC p:=by rw[<-hlen,Zao]
 show wS _ _ _ _ _ (argT 0 [.agg (plnC p),.int .i64 st]) _ _;generalize plnC p=C at*;generalize mkC p=c at*;by_cases h4:p.xn<=4
 ·rw[decide_eq_true h4]at hS;have hQ:WfA (spQ c):=wfA_c c hw;have hR:RemOk (spQ c) (uncL c.ev 5) (leftC c) (resC c).rem:=Qct c hw;have hTR:=@stuck25R c hw st;have hTN:=fun s=>@stuck25N c hw s;have hTK:=fun(s:Nat)hs(x:Rm)=>@stuck25K c hw s hs x;have hV:=fun s=>removalW c hw s;rw[QcT]at hM hV;generalize leftC c=left at*;generalize uncL c.ev 5=u at*;generalize resC c=r at*;generalize spQ c=q at*;generalize spA c (sync0 (allA c)).1=A at*;generalize spB c (sync0 (allA c)).1=B at*;generalize spP c (sync0 (auL c.cs)).1 (sync0 (allA c)).1=X at*;generalize forb c (sync0 (allA c)).1.length=F at*;have a:=@nrW c q A B X F r;have hel:=WfA.el1 hQ;have hn5:=hQ.n5;have G:=Qah q.es;by_cases hr:st<0\/(q.n:Int)<=st
  ·have hT:=hTR hr;by_cases g1:st<0;·unfold XL.s12;refine Zc1 (Zc7 hlen Q f) ?_;refine cp hK ?_;refine Zc1 (Zc6 hlen f) ?_;refine cp hS ?_;refine Zc1 (Zc6 hlen f) ?_;refine cp hM ?_;refine Zc0 ?_;refine cp hT ?_;refine Zc1 g1 ?_;exact⟨.inr trivial,rfl⟩
   have g2:(q.n:Int)<=st:=by omega
   unfold XL.s12;refine Zc1 (Zc7 hlen Q f) ?_;refine cp hK ?_;refine Zc1 (Zc6 hlen f) ?_;refine cp hS ?_;refine Zc1 (Zc6 hlen f) ?_;refine cp hM ?_;refine Zc0 ?_;refine cp hT ?_;refine Zc1 (Zc6 g1 g2) ?_;exact⟨.inr trivial,rfl⟩
  have g1:¬st<0:=fun e=>hr (.inl e);have g2:¬(q.n:Int)<=st:=fun e=>hr (.inr e);obtain⟨s,rfl⟩:=ZaZ (show 0<=st by omega);have hsn:s<q.n:=by omega
  have S:=hV s;by_cases h3:(rmD r.rem s).reason=3
  ·obtain⟨x,hx⟩:∃x,remAt r.rem s=some x:=by cases hx:remAt r.rem s with|some x=>exact⟨x,rfl⟩|none=>unfold rmD at h3;rw[hx]at h3;exact absurd h3 (by decide)
   have hD:rmD r.rem s=x:=by unfold rmD;rw[hx];rfl
   rw[hD]at h3 S;rw[hx]at S;have hT:=hTK s hsn x hx h3;obtain⟨xs,k,xr,xe⟩:=x;dsimp only[Option.isSome_some]at h3 hT S;subst h3;have Y:blkTo r.rem k s=true:=by rw[QhD,hD];simp
   obtain⟨I,hI⟩:∃I,I=stkI q r.rem k s:=⟨_,rfl⟩;obtain⟨J,hJ⟩:∃J,J=stkX q r.rem k s:=⟨_,rfl⟩;rw[<-hI,<-hJ]at hT;have b:=Qae I;have d:=Qah J;unfold XL.s12;refine Zc1 (Zc7 hlen Q f) ?_;refine cp hK ?_;refine Zc1 (Zc6 hlen f) ?_;refine cp hS ?_;refine Zc1 (Zc6 hlen f) ?_;refine cp hM ?_;refine Zc0 ?_;refine cp hT ?_;refine Zc1 (Zc6 g1 g2) ?_;refine cp S ?_;simp(disch:=first|omega|exact PairsOK.mk rfl|(simp only[lenW]<;>omega))only[rmV,rmC,Qaa,Qab,Qac,wW,wV,simprocAttr];have hVr:=hV;generalize hsx:s=x at*;refine Qap 160 (fun s:Nat×List Nat=>[(5,.ptr 50 0 0),(7,sliN I),(8,egsN J),(9,.int .i64 0),(10,.ptr 51 0 0),(12,.sl 61 0 0 s.2.length 1),(13,.nilsl),(14,.int .i64 s.1)]) (fun s=>[(50,.cells 0 (wldP c q A B X F r)),(51,.cells 0 (rmC ⟨xs,k,3,xe⟩)),(61,.cells 0 (ints (nz s.2)))]) (fun s=>KOk q r.rem k x s.2/\s.1<=s.2.length/\∀e∈q.es,e.1∈s.2.take s.1->blkTo r.rem k e.2.2=true->e.2.2∈s.2) (fun s=>q.n+1-s.1) (0,[x]) 0 300 (fun W:List Nat=>[(5,.ptr 50 0 0),(7,sliN I),(8,egsN J),(9,.int .i64 0),(10,.ptr 51 0 0),(12,.sl 61 0 0 W.length 1),(13,.nilsl)]) (fun W=>[(50,.cells 0 (wldP c q A B X F r)),(51,.cells 0 (rmC ⟨xs,k,3,xe⟩)),(61,.cells 0 (ints (nz W)))]) (fun W=>KOk q r.rem k x W/\∀e∈q.es,e.1∈W->blkTo r.rem k e.2.2=true->e.2.2∈W) ?_ ⟨KOk.one,Zah _,fun e _ h=>by cases h⟩ ?_ ?_;·exact⟨[(50,.blk 54 0),(51,.blk 86 0),(61,.blk 97 0)],rfl,ZcB,ZcF rfl rfl gg (Zcv a) (ZcF rfl rfl gg (Zcv rfl) (ZcF rfl rfl gg (Zcv rfl) ZcE)),ZcD (Rn.x2 rfl rfl) (ZcD (Zct b) (ZcD (Zct d) (ZcD (Zct rfl) (ZcD (Rn.x2 rfl rfl) (ZcD (Rn.x1 rfl rfl) au29)))))⟩
   ·rintro⟨i,W⟩⟨hW,hiW,Z⟩;dsimp only at hW hiW Z;have hWl:=hW.len hQ hR Y;have hc1:(ints (nz W)).length=W.length:=by simp[ints]
    by_cases m:i<W.length
    ·obtain⟨w,hwi⟩:=Qao m;refine Zc1 (Zc6 m hc1) ?_;refine Qap 320 (fun s:Nat×List Nat=>[(5,.ptr 50 0 0),(7,sliN I),(8,egsN J),(9,.int .i64 0),(10,.ptr 51 0 0),(12,.sl 61 0 0 s.2.length 1),(13,.nilsl),(14,.int .i64 i),(100,egsN q.es),(101,.int .i64 q.es.length),(102,.int .i64 s.1)]) (fun s=>[(50,.cells 0 (wldP c q A B X F r)),(51,.cells 0 (rmC ⟨xs,k,3,xe⟩)),(61,.cells 0 (ints (nz s.2)))]) (fun s=>s.1<=q.es.length/\KOk q r.rem k x s.2/\(∃v,s.2=W++v)/\∀(j:Nat)y,j<s.1->q.es[j]?=some y->y.1=w->blkTo r.rem k y.2.2=true->y.2.2∈s.2) (fun s=>q.es.length-s.1) (0,W) 2 400 (fun W':List Nat=>[(5,.ptr 50 0 0),(7,sliN I),(8,egsN J),(9,.int .i64 0),(10,.ptr 51 0 0),(12,.sl 61 0 0 W'.length 1),(13,.nilsl),(14,.int .i64 i)]) (fun W'=>[(50,.cells 0 (wldP c q A B X F r)),(51,.cells 0 (rmC ⟨xs,k,3,xe⟩)),(61,.cells 0 (ints (nz W')))]) (fun W'=>KOk q r.rem k x W'/\(∃v,W'=W++v)/\∀e∈q.es,e.1=w->blkTo r.rem k e.2.2=true->e.2.2∈W') ?_ ⟨Zah _,hW,⟨[],by simp⟩,fun j y hj=>absurd hj (ZaB _)⟩ ?_ ?_;·exact⟨[(50,.blk 50 0),(51,.blk 51 0),(61,.blk 61 0)],rfl,ZcB,ZcF rfl rfl gg (Zcv a) (ZcF rfl rfl gg (Zcv rfl) (ZcF rfl rfl gg (Zcv (Qad _)) ZcE)),ZcD (Rn.x2 rfl rfl) (ZcD (Zct b) (ZcD (Zct d) (ZcD (Zct rfl) (ZcD (Rn.x2 rfl rfl) (ZcD (Rn.x1 rfl rfl) (ZcD (Zct rfl) (ZcD (Zct rfl) (ZcD (Zct G) au29))))))))⟩
     ·rintro⟨j,V⟩⟨hj,R,⟨v,hv⟩,ho⟩;dsimp only at hj R hv ho;have hVl:=R.len hQ hR Y;have M:(ints (nz V)).length=V.length:=by simp[ints]
      have hwV:(ints (nz V))[i]?=some (.int .i64 (w:Int)):=by
       have:V[i]?=some w:=by rw[hv,ZaH m];exact hwi
       simp[ints,nz,this]
      have hiV:i<V.length:=by rw[hv];simp;omega
      have hwm:w∈V:=by rw[hv];exact Za9 _ (Zac hwi)
      by_cases U:j<q.es.length
      ·obtain⟨y,hy⟩:=Qao U;have hym:=Zac hy;have H:=QaJ hy;have N:3<=((q.es.flatMap edC).drop (j*3)).length:=by rw[H];simp
       have o:(y.1=w->blkTo r.rem k y.2.2=true->y.2.2∈V)->j+1<=q.es.length/\KOk q r.rem k x V/\(∃v,V=W++v)/\∀(j':Nat)z,j'<j+1->q.es[j']?=some z->z.1=w->blkTo r.rem k z.2.2=true->z.2.2∈V:=by
        intro hg;refine⟨by omega,R,⟨v,hv⟩,fun j' z hj' hz=>?_⟩;by_cases e:j'=j;·subst e;rw[hy]at hz;cases hz;exact hg
        exact ho j' z (by omega) hz
       have hbD:=@QhD r.rem k y.2.2;have hbN:(remAt r.rem y.2.2).isSome=false->blkTo r.rem k y.2.2=false:=fun e=>by unfold blkTo;cases ha:remAt r.rem y.2.2 with|none=>rfl|some z=>rw[ha]at e;cases e
       have l:=hVr y.2.2;obtain⟨zs,zk,zr,ze,hz⟩:∃zs zk zr ze,rmD r.rem y.2.2=⟨zs,zk,zr,ze⟩:=⟨_,_,_,_,rfl⟩;rw[hz]at hbD l;dsimp only at hbD;by_cases hyw:y.1=w
       ·have K:(y.1:Int)=(w:Int):=by omega
        cases hb:(remAt r.rem y.2.2).isSome with|false=>rw[hb]at l;refine Zc1 (Zc7 U H N) ?_;refine cp l ?_;simp(disch:=first|omega|exact PairsOK.mk rfl|(simp only[lenW]<;>omega))only[rmV,rmC,hiV,hwV,M,K,Qaa,Qab,Qac,wW,wV,simprocAttr];refine⟨(j+1,V),by dsimp only;omega,o (fun _ e=>by rw[hbN hb]at e;cases e),?_⟩;exact⟨[(50,.blk 50 0),(51,.blk 51 0),(61,.blk 61 0)],rfl,ZcB,ZcF rfl rfl gg (Zcv a) (ZcF rfl rfl gg (Zcv rfl) (ZcF rfl rfl gg (Zcv (Qad _)) ZcE)),ZcD (Rn.x2 rfl rfl) (ZcD (Zct b) (ZcD (Zct d) (ZcD (Zct rfl) (ZcD (Rn.x2 rfl rfl) (ZcD (Rn.x1 rfl rfl) (ZcD (Zct rfl) (ZcD (Zct rfl) (ZcD (Zct G) au29))))))))⟩|true=>
         rw[hb]at l;by_cases g3:zr=3
         ·subst g3;by_cases gk:zk=k
          ·have hbt:blkTo r.rem k y.2.2=true:=by rw[hbD,gk];simp
           have hC:=contains39 V y.2.2 (by omega);refine Zc1 (Zc7 U H N) ?_;refine cp l ?_;simp(disch:=first|omega|exact PairsOK.mk rfl|(simp only[lenW]<;>omega))only[rmV,rmC,hiV,hwV,M,K,gk,Qaa,Qab,Qac,wW,wV,simprocAttr];refine ch (ZcQ (ZcT (FrzTo.all gg (by rw[ZbI];exact M)) (ZcT (Zcz _) ZcS)) hC rfl) ?_;cases hcv:V.contains y.2.2 with|true=>refine Zc0 ?_;refine⟨(j+1,V),by dsimp only;omega,o (fun _ _=>by simpa using hcv),?_⟩;exact⟨[(50,.blk 50 0),(51,.blk 51 0),(61,.blk 61 0)],rfl,ZcB,ZcF rfl rfl gg (Zcv a) (ZcF rfl rfl gg (Zcv rfl) (ZcF rfl rfl gg (Zcv (Qad _)) ZcE)),ZcD (Rn.x2 rfl rfl) (ZcD (Zct b) (ZcD (Zct d) (ZcD (Zct rfl) (ZcD (Rn.x2 rfl rfl) (ZcD (Rn.x1 rfl rfl) (ZcD (Zct rfl) (ZcD (Zct rfl) (ZcD (Zct G) au29))))))))⟩|false=>
            refine Zc1 M ?_;have hcv':y.2.2∉V:=by simpa using hcv
            refine⟨(j+1,V++[y.2.2]),by dsimp only;omega,⟨by dsimp only;omega,R.add hym (by rw[hyw];exact hwm) hcv' hbt,⟨v++[y.2.2],by rw[hv,ZaR]⟩,fun j' z hj' hz h1 h2=>?_⟩,?_⟩
            ·by_cases e:j'=j;·subst e;rw[hy]at hz;cases hz;simp
             exact Za9 _ (ho j' z (by omega) hz h1 h2)
            show Rec _ _ _ _ _;rw[QaD,Qay,Zae];exact⟨[(50,.blk 50 0),(51,.blk 51 0),(61,.blk 61 1)],rfl,ZcB,ZcF rfl rfl gg (Zcv a) (ZcF rfl rfl gg (Zcv rfl) (ZcF rfl rfl gg (Zcv (SU.Qau (Qad _) rfl)) ZcE)),ZcD (Rn.x2 rfl rfl) (ZcD (Zct b) (ZcD (Zct d) (ZcD (Zct rfl) (ZcD (Rn.x2 rfl rfl) (ZcD (Rn.x1 rfl rfl) (ZcD (Zct rfl) (ZcD (Zct rfl) (ZcD (Zct G) au29))))))))⟩
          have hbt:blkTo r.rem k y.2.2=false:=by rw[hbD];simp[gk]
          refine Zc1 (Zc7 U H N) ?_;refine cp l ?_;simp(disch:=first|omega|exact PairsOK.mk rfl|(simp only[lenW]<;>omega))only[rmV,rmC,hiV,hwV,M,K,gk,Qaa,Qab,Qac,wW,wV,simprocAttr];refine⟨(j+1,V),by dsimp only;omega,o (fun _ e=>by rw[hbt]at e;cases e),?_⟩;exact⟨[(50,.blk 50 0),(51,.blk 51 0),(61,.blk 61 0)],rfl,ZcB,ZcF rfl rfl gg (Zcv a) (ZcF rfl rfl gg (Zcv rfl) (ZcF rfl rfl gg (Zcv (Qad _)) ZcE)),ZcD (Rn.x2 rfl rfl) (ZcD (Zct b) (ZcD (Zct d) (ZcD (Zct rfl) (ZcD (Rn.x2 rfl rfl) (ZcD (Rn.x1 rfl rfl) (ZcD (Zct rfl) (ZcD (Zct rfl) (ZcD (Zct G) au29))))))))⟩
         have g3':¬(zr:Int)=3:=by omega
         have hbt:blkTo r.rem k y.2.2=false:=by rw[hbD];simp[g3]
         refine Zc1 (Zc7 U H N) ?_;refine cp l ?_;simp(disch:=first|omega|exact PairsOK.mk rfl|(simp only[lenW]<;>omega))only[rmV,rmC,hiV,hwV,M,K,g3',Qaa,Qab,Qac,wW,wV,simprocAttr];refine⟨(j+1,V),by dsimp only;omega,o (fun _ e=>by rw[hbt]at e;cases e),?_⟩;exact⟨[(50,.blk 50 0),(51,.blk 51 0),(61,.blk 61 0)],rfl,ZcB,ZcF rfl rfl gg (Zcv a) (ZcF rfl rfl gg (Zcv rfl) (ZcF rfl rfl gg (Zcv (Qad _)) ZcE)),ZcD (Rn.x2 rfl rfl) (ZcD (Zct b) (ZcD (Zct d) (ZcD (Zct rfl) (ZcD (Rn.x2 rfl rfl) (ZcD (Rn.x1 rfl rfl) (ZcD (Zct rfl) (ZcD (Zct rfl) (ZcD (Zct G) au29))))))))⟩
       have K:¬(y.1:Int)=(w:Int):=by omega
       refine Zc1 (Zc7 U H N) ?_;refine cp l ?_;simp(disch:=first|omega|exact PairsOK.mk rfl|(simp only[lenW]<;>omega))only[rmV,rmC,hiV,hwV,M,K,Qaa,Qab,Qac,wW,wV,simprocAttr];refine⟨(j+1,V),by dsimp only;omega,o (fun e=>absurd e hyw),?_⟩;exact⟨[(50,.blk 50 0),(51,.blk 51 0),(61,.blk 61 0)],rfl,ZcB,ZcF rfl rfl gg (Zcv a) (ZcF rfl rfl gg (Zcv rfl) (ZcF rfl rfl gg (Zcv (Qad _)) ZcE)),ZcD (Rn.x2 rfl rfl) (ZcD (Zct b) (ZcD (Zct d) (ZcD (Zct rfl) (ZcD (Rn.x2 rfl rfl) (ZcD (Rn.x1 rfl rfl) (ZcD (Zct rfl) (ZcD (Zct rfl) (ZcD (Zct G) au29))))))))⟩
      have e:j=q.es.length:=by omega
      subst e;refine Zc1 U ?_;refine⟨V,?_⟩;refine⟨⟨R,⟨v,hv⟩,fun e he h1 h2=>?_⟩,?_⟩;·obtain⟨j',hj'⟩:=Zbk he;exact ho j' e (Zaf.1 hj').1 hj' h1 h2
      exact⟨[(50,.blk 50 0),(51,.blk 51 0),(61,.blk 61 0)],rfl,ZcB,ZcF rfl rfl gg (Zcv a) (ZcF rfl rfl gg (Zcv rfl) (ZcF rfl rfl gg (Zcv (Qad _)) ZcE)),ZcD (Rn.x2 rfl rfl) (ZcD (Zct b) (ZcD (Zct d) (ZcD (Zct rfl) (ZcD (Rn.x2 rfl rfl) (ZcD (Rn.x1 rfl rfl) (ZcD (Zct rfl) (ZcD (Zct rfl) ZcC)))))))⟩
     rintro V⟨R,⟨v,hv⟩,ho⟩;have hVl:=R.len hQ hR Y;have hiV:i<V.length:=by rw[hv];simp;omega
     refine Zc0 ?_;refine⟨(i+1,V),by dsimp only;omega,⟨R,by dsimp only;omega,fun e he h1 h2=>?_⟩,?_⟩
     ·have hVi:V[i]?=some w:=by rw[hv,ZaH m];exact hwi
      have h1':e.1∈V.take i++[w]:=by rw[<-take_succ' hVi];exact h1
      rcases Zay.1 h1' with h1'|h1';·rw[hv,ZbG (by omega)]at h1';rw[hv];exact Za9 _ (Z e he h1' h2)
      exact ho e he (ZaL.1 h1') h2
     exact⟨[(50,.blk 50 0),(51,.blk 51 0),(61,.blk 61 0)],rfl,ZcB,ZcF rfl rfl gg (Zcv a) (ZcF rfl rfl gg (Zcv rfl) (ZcF rfl rfl gg (Zcv (Qad _)) ZcE)),ZcD (Rn.x2 rfl rfl) (ZcD (Zct b) (ZcD (Zct d) (ZcD (Zct rfl) (ZcD (Rn.x2 rfl rfl) (ZcD (Rn.x1 rfl rfl) au29)))))⟩
    have e:i=W.length:=by omega
    subst e;rw[Zao]at Z;refine Zc1 m ?_;refine⟨W,⟨hW,Z⟩,?_⟩;exact⟨[(50,.blk 50 0),(51,.blk 51 0),(61,.blk 61 0)],rfl,ZcB,ZcF rfl rfl gg (Zcv a) (ZcF rfl rfl gg (Zcv rfl) (ZcF rfl rfl gg (Zcv (Qad _)) ZcE)),ZcD (Rn.x2 rfl rfl) (ZcD (Zct b) (ZcD (Zct d) (ZcD (Zct rfl) (ZcD (Rn.x2 rfl rfl) (ZcD (Rn.x1 rfl rfl) (ZcD (Zct rfl) ZcC))))))⟩
   rintro W⟨hW,Z⟩;have hWl:=hW.len hQ hR Y;obtain⟨L,hL1,hL2,hL3⟩:=QuC W;have hLI:=hW.sorted hQ hR Y Z hL3 hL2;have hLl:L.length=W.length:=hL2.length_eq;have hin:∀t,L.contains t=inB q.es r.rem k x t:=fun t=>by rw[<-hW.all Z t,Zbu,ZaE,ZaE];exact hL2.mem_iff
   refine Zc0 ?_;refine ch (sort183 (nz W) (nz L) W.length (by simp) (by omega) hL1 gg (by omega)) ?_;rw[<-hLl];refine Zc0 ?_;obtain⟨g,hg⟩:∃g:Ed->Bool,g=fun e:Ed=>L.contains e.1&&!L.contains e.2.2:=⟨_,rfl⟩;have eX:J=q.es.filter g:=by rw[hJ,hg];unfold stkX;congr 1;funext e;rw[hin,hin]
   have P:(ints (nz L)).length=L.length:=by simp[ints]
   refine Qap 420 (fun i:Nat=>[(5,.ptr 50 0 0),(7,sliN I),(8,egsN J),(9,.int .i64 0),(10,.ptr 51 0 0),(12,.sl 61 0 0 L.length 1),(13,.sl 62 0 0 ((q.es.take i).filter g).length 3),(153,egsN q.es),(154,.int .i64 q.es.length),(155,.int .i64 i)]) (fun i=>[(50,.cells 0 (wldP c q A B X F r)),(51,.cells 0 (rmC ⟨xs,k,3,xe⟩)),(61,.cells 0 (ints (nz L))),(62,.cells 0 (((q.es.take i).filter g).flatMap edC))]) (fun i=>i<=q.es.length) (fun i=>q.es.length-i) 0 4 500 (fun _:Unit=>[(5,.ptr 50 0 0),(7,sliN I),(8,egsN J),(9,.int .i64 0),(12,sliN L),(13,egsN (q.es.filter g))]) (fun _=>[(50,.cells 0 (wldP c q A B X F r))]) (fun _=>True) ?_ (Zah _) ?_ ?_;·exact⟨[(50,.blk 50 0),(51,.blk 51 0),(61,.blk 61 0),(62,.nil)],rfl,ZcB,ZcF rfl rfl gg (Zcv a) (ZcF rfl rfl gg (Zcv rfl) (ZcF rfl rfl gg (Zcv (Qad _)) (ZcG rfl rfl ZcE))),ZcD (Rn.x2 rfl rfl) (ZcD (Zct b) (ZcD (Zct d) (ZcD (Zct rfl) (ZcD (Rn.x2 rfl rfl) (ZcD (Rn.x1 rfl rfl) (ZcD (Rn.x4 rfl rfl) (ZcD (Zct G) au29)))))))⟩
   ·rintro i hi;by_cases m:i<q.es.length
    ·obtain⟨y,hy⟩:=Qao m;have hym:=Zac hy;have H:=QaJ hy;have N:3<=((q.es.flatMap edC).drop (i*3)).length:=by rw[H];simp
     have hst:(q.es.take (i+1)).filter g=(q.es.take i).filter g++(if g y then[y]else[]):=by rw[take_succ' hy,Za7];cases hki:g y<;>simp only[List.filter,hki]<;>rfl
     have hgl:((q.es.take i).filter g).length<=i:=Zav (ZaG ..) (by simp;omega);have hc1:(((q.es.take i).filter g).flatMap edC).length=((q.es.take i).filter g).length*3:=Qbx _;have hgy:g y=(L.contains y.1&&!L.contains y.2.2):=by rw[hg]
     have hno:g y=false->(q.es.take i).filter g=(q.es.take (i+1)).filter g:=fun e=>by rw[hst,e];simp
     have hC1:=contains39 L y.1 (by omega);have hC2:=contains39 L y.2.2 (by omega);cases ha:L.contains y.1 with|false=>rw[ha]at hC1;generalize(q.es.take i).filter g=E at*;refine Zc1 (Zc7 m H N) ?_;refine ch (ZcQ (ZcT (FrzTo.all gg (by rw[ZbI];exact P)) (ZcT (Zcz _) ZcS)) hC1 rfl) ?_;refine Zc0 ?_;refine⟨i+1,by omega,by omega,?_⟩;rw[<-hno (by rw[hgy,ha];rfl)];exact⟨[(50,.blk 50 0),(51,.blk 51 0),(61,.blk 61 0),(62,.blk 62 0)],rfl,ZcB,ZcF rfl rfl gg (Zcv a) (ZcF rfl rfl gg (Zcv rfl) (ZcF rfl rfl gg (Zcv (Qad _)) (ZcF rfl rfl gg (Zcv (Qaf _)) ZcE))),ZcD (Rn.x2 rfl rfl) (ZcD (Zct b) (ZcD (Zct d) (ZcD (Zct rfl) (ZcD (Rn.x2 rfl rfl) (ZcD (Rn.x1 rfl rfl) (ZcD (Rn.x1 rfl rfl) (ZcD (Zct G) au29)))))))⟩|true=>rw[ha]at hC1;cases hb2:L.contains y.2.2 with|true=>rw[hb2]at hC2;generalize(q.es.take i).filter g=E at*;refine Zc1 (Zc7 m H N) ?_;refine ch (ZcQ (ZcT (FrzTo.all gg (by rw[ZbI];exact P)) (ZcT (Zcz _) ZcS)) hC1 rfl) ?_;refine Zc0 ?_;refine ch (ZcQ (ZcT (FrzTo.all gg (by rw[ZbI];exact P)) (ZcT (Zcz _) ZcS)) hC2 rfl) ?_;refine Zc0 ?_;refine⟨i+1,by omega,by omega,?_⟩;rw[<-hno (by rw[hgy,ha,hb2];rfl)];exact⟨[(50,.blk 50 0),(51,.blk 51 0),(61,.blk 61 0),(62,.blk 62 0)],rfl,ZcB,ZcF rfl rfl gg (Zcv a) (ZcF rfl rfl gg (Zcv rfl) (ZcF rfl rfl gg (Zcv (Qad _)) (ZcF rfl rfl gg (Zcv (Qaf _)) ZcE))),ZcD (Rn.x2 rfl rfl) (ZcD (Zct b) (ZcD (Zct d) (ZcD (Zct rfl) (ZcD (Rn.x2 rfl rfl) (ZcD (Rn.x1 rfl rfl) (ZcD (Rn.x1 rfl rfl) (ZcD (Zct G) au29)))))))⟩|false=>
      rw[hb2]at hC2;obtain⟨z,hz1,hz2⟩:=(QlF hQ hR Y (Qex.1 (by rw[<-hin];exact ha))).2 y hym rfl (fun e=>by have:=Qex.2 e;rw[<-hin,hb2]at this;cases this);have l:=hVr y.2.2;have hzD:rmD r.rem y.2.2=z:=by unfold rmD;rw[hz1];rfl
      rw[hzD,hz1]at l;obtain⟨zs,zk,zr,ze⟩:=z;dsimp only[Option.isSome_some]at hz2 l;have hgk:¬k<=zk:=by omega
      have hgt:g y=true:=by rw[hgy,ha,hb2];rfl
      rw[hgt,if_pos rfl]at hst;generalize(q.es.take i).filter g=E at*;refine Zc1 (Zc7 m H N) ?_;refine ch (ZcQ (ZcT (FrzTo.all gg (by rw[ZbI];exact P)) (ZcT (Zcz _) ZcS)) hC1 rfl) ?_;refine Zc0 ?_;refine ch (ZcQ (ZcT (FrzTo.all gg (by rw[ZbI];exact P)) (ZcT (Zcz _) ZcS)) hC2 rfl) ?_;refine Zc1 hc1 ?_;refine cp l ?_;simp(disch:=first|omega|exact PairsOK.mk rfl|(simp only[lenW]<;>omega))only[rmV,rmC,hgk,Qaa,Qab,Qac,wW,wV,simprocAttr];refine⟨i+1,by omega,by omega,?_⟩;rw[hst,Zar,Zae];exact⟨[(50,.blk 50 0),(51,.blk 51 0),(61,.blk 61 0),(62,.blk 62 1)],rfl,ZcB,ZcF rfl rfl gg (Zcv a) (ZcF rfl rfl gg (Zcv rfl) (ZcF rfl rfl gg (Zcv (Qad _)) (ZcF rfl rfl gg (Zcv (SU.Qau (Qaf _) rfl)) ZcE))),ZcD (Rn.x2 rfl rfl) (ZcD (Zct b) (ZcD (Zct d) (ZcD (Zct rfl) (ZcD (Rn.x2 rfl rfl) (ZcD (Rn.x1 rfl rfl) (ZcD (Rn.x1 rfl rfl) (ZcD (Zct G) au29)))))))⟩
    have e:i=q.es.length:=by omega
    subst e;rw[Zao];refine Zc1 m ?_;refine⟨(),?_⟩;exact⟨[(50,.blk 50 0)],rfl,ZcB,ZcF rfl rfl gg (Zcv a) ZcE,ZcD (Rn.x2 rfl rfl) (ZcD (Zct b) (ZcD (Zct d) (ZcD (Zct rfl) (ZcD (ZcM (b:=61) (g:=0) gg rfl rfl (by simp) (by simp[ints]) (Zcv (Qad _))) (ZcD (ZcM (b:=62) (g:=0) gg rfl rfl (by simp) (Qbx _) (Zcv (Qaf _))) ZcC)))))⟩
   rintro _ _;have hCM:=contains36 (K:=47) (cap:=[.fptr (wldP c q A B X F r)]) (fun t=>q.ms.contains t) L (by omega) (by rw[noRefs,noRef,a];rfl) (fun t _=>marked47 c q A B X F r t (by have:=WfA.nd hQ;have:=QaN q.n q.ms this hQ.msn;omega));have hany:L.any (fun t=>q.ms.contains t)=false:=by
    rw[List.any_eq_false];intro t ht M;have hti:inB q.es r.rem k x t=true:=by rw[<-hin];simpa using ht
    exact(QlF hQ hR Y (Qex.1 hti)).1 (by simpa using M)
   rw[hany]at hCM;have hE1:PSpec Tryz.prog 36 [sliN I,sliN L] (.bool true):=by have:=eq41N I L (by omega);rwa[decide_eq_true (by rw[hI,hLI])]at this
   have hE2:PSpec Tryz.prog 48 [egsN J,egsN (q.es.filter g)] (.bool true):=by have:=eq55 J (q.es.filter g) (by have:=ZaG g q.es;omega);rwa[decide_eq_true eX]at this
   have hnL:=Qae L;have hnG:=Qah (q.es.filter g);refine Zc0 ?_;refine SU.chc (ZcQ (ZcT (Zcz _) (ZcT (FrzTo.fn ZcS (ZcT (ZcP (g:=0) (cs:=wldP c q A B X F r) gg (ZcA _)) ZcS)) ZcS)) hCM rfl) ?_;refine Zc0 ?_;refine cp hE1 ?_;refine Zc0 ?_;refine cp hE2 ?_;refine Zc0 ?_;exact⟨.inr trivial,rfl⟩
  have hT:=hTN s hsn h3;obtain⟨zs,zk,zr,ze,hz⟩:∃zs zk zr ze,rmD r.rem s=⟨zs,zk,zr,ze⟩:=⟨_,_,_,_,rfl⟩;rw[hz]at h3 S;dsimp only at h3;have g3:¬(zr:Int)=3:=by omega
  cases hb:(remAt r.rem s).isSome;all_goals rw[hb]at S;unfold XL.s12;refine Zc1 (Zc7 hlen Q f) ?_;refine cp hK ?_;refine Zc1 (Zc6 hlen f) ?_;refine cp hS ?_;refine Zc1 (Zc6 hlen f) ?_;refine cp hM ?_;refine Zc0 ?_;refine cp hT ?_;refine Zc1 (Zc6 g1 g2) ?_;refine cp S ?_;simp(disch:=first|omega|exact PairsOK.mk rfl|(simp only[lenW]<;>omega))only[rmV,rmC,g3,Qaa,Qab,Qac,wW,wV,simprocAttr];exact⟨.inr trivial,rfl⟩
 rw[decide_eq_false h4]at hS;unfold XL.s12;refine Zc1 (Zc7 hlen Q f) ?_;refine cp hK ?_;refine Zc1 (Zc6 hlen f) ?_;refine cp hS ?_;refine Zc0 ?_;refine cp hK ?_;refine Zc0 ?_;exact⟨.inr trivial,rfl⟩
end Go.AM.SO
namespace Go.AM.SO
open Go.Proofs Go.AM.SD Go.AM.SE
theorem okl12:okFn Tryz.prog 12 XL.s12=true:=XL.ok12
theorem law12_in(d0:tyPln.D)(d1:(Ty.int .i64).D)(c:tyPln.wf d0)(h1:(Ty.int .i64).wf d1):Yes XL.s12 [tyPln.val d0,(Ty.int .i64).val d1]:=by obtain⟨p,hp,a,b⟩:=QeX c;rw[b];exact law12 EM.known19 p hp a d1
end Go.AM.SO
namespace Go.AM.XT
open Go.Proofs
set_option maxHeartbeats 4000000
noncomputable section
end
end Go.AM.XT
namespace Go.AM.SO
open Go.Proofs Go.AM.SD Go.AM.SE
end Go.AM.SO
namespace Go.AM.SO
open Go.Proofs Go.AM.SD Go.AM.SE
end Go.AM.SO
namespace Go.AM.SO
open Go.Proofs Go.AM.SD Go.AM.SE
end Go.AM.SO
