/- A part of the proof of ExplainEventsCardSaid: lemmas on the way (AnEi, AnEj, AmTx, AnEn, AnSx, AnSy, AnSz, AnTb, AnTa, AnTd, AnTf, AnTe, AnTg, AnTh, AnTi, AnTj, AnTk). Conditions: none of ours. -/
import Derived.Shelf.Strings.OnBuilder
import Derived.Test.YtgfnbkngfedlkaaGreatDoorProg
import Derived.KernelRfl
import Derived.Test.YtgfnbkngfedlkaaGreatDoorAmV19
set_option linter.unusedSectionVars false
set_option maxHeartbeats 32000000
set_option maxRecDepth 100000
set_option linter.unusedVariables false
set_option linter.unusedSimpArgs false
namespace Go.Proofs
open Go.Shelf
def Tryz.QlJ:Go.Shelf.Ren:=⟨fun|156=>83|165=>148|166=>108|169=>109|240=>194|241=>222|276=>243|277=>266|n=>n,fun|31=>192|9=>9|3=>3|4=>4|0=>0|20=>20|72=>230|76=>234|70=>228|37=>70|75=>233|127=>323|164=>368|5=>5|80=>236|n=>n,fun|n=>n⟩
theorem Tryz.joinS:Go.Proofs.Lays.n156 Tryz.prog Tryz.QlJ:={
 mixed:=by kernel_rfl
 f156:=Tryz.func83.trans (congrArg some (by kernel_rfl))
 f165:=Tryz.func148.trans (congrArg some (by kernel_rfl))
 f166:=Tryz.func108.trans (congrArg some (by kernel_rfl))
 f169:=Tryz.func109.trans (congrArg some (by kernel_rfl))
 f240:=Tryz.func194.trans (congrArg some (by kernel_rfl))
 f241:=Tryz.func222.trans (congrArg some (by kernel_rfl))
 f276:=Tryz.func243.trans (congrArg some (by kernel_rfl))
 f277:=Tryz.func266.trans (congrArg some (by kernel_rfl))
 t0:=Tryz.underlying0
 a0:=Tryz.isAgg0
 z0:=Tryz.sizeOf0
 v0:=Tryz.zeroValue0
 t3:=Tryz.underlying3
 a3:=Tryz.isAgg3
 z3:=Tryz.sizeOf3
 v3:=Tryz.zeroValue3
 t4:=Tryz.underlying4
 a4:=Tryz.isAgg4
 z4:=Tryz.sizeOf4
 v4:=Tryz.zeroValue4
 t9:=Tryz.underlying9
 a9:=Tryz.isAgg9
 z9:=Tryz.sizeOf9
 v9:=Tryz.zeroValue9
 t20:=Tryz.underlying20
 a20:=Tryz.isAgg20
 z20:=Tryz.sizeOf20
 v20:=Tryz.zeroValue20
 t31:=Tryz.underlying192
 a31:=Tryz.isAgg192
 z31:=Tryz.sizeOf192
 v31:=Tryz.zeroValue192
 t37:=Tryz.underlying70
 a37:=Tryz.isAgg70
 z37:=Tryz.sizeOf70
 v37:=Tryz.zeroValue70
 t70:=Tryz.underlying228
 a70:=Tryz.isAgg228
 z70:=Tryz.sizeOf228
 v70:=Tryz.zeroValue228
 t72:=Tryz.underlying230
 a72:=Tryz.isAgg230
 z72:=Tryz.sizeOf230
 v72:=Tryz.zeroValue230
 t75:=Tryz.underlying233
 a75:=Tryz.isAgg233
 z75:=Tryz.sizeOf233
 v75:=Tryz.zeroValue233
 t76:=Tryz.underlying234
 a76:=Tryz.isAgg234
 z76:=Tryz.sizeOf234
 v76:=Tryz.zeroValue234
 t127:=Tryz.underlying323
 a127:=Tryz.isAgg323
 z127:=Tryz.sizeOf323
 v127:=Tryz.zeroValue323
 t164:=Tryz.underlying368
 a164:=Tryz.isAgg368
 z164:=Tryz.sizeOf368
 v164:=Tryz.zeroValue368}
theorem Tryz.joinX:Builder.Extra Tryz.prog Tryz.QlJ:={
 sizeBuilder:=by kernel_rfl
 liesBuilder:=by kernel_rfl
 t5:=Tryz.underlying5
 a5:=Tryz.isAgg5
 z5:=Tryz.sizeOf5
 v5:=Tryz.zeroValue5
 infoByte:=by kernel_rfl
 cellsByte:=by kernel_rfl
 sizeByte:=by kernel_rfl
 neB5:=by decide}
end Go.Proofs
namespace Go.AM.SO
open Go.Proofs
theorem QiS{ok:Okc}{c:Ctx ok}{w:World}:∀{xs:List (List UInt8)}{vs:List Value},VPre c w (xs.map AV.str) vs->∀(j:Nat)x,xs[j]?=some x->vs[j]?=some (.string ⟨x.toArray⟩)|[],vs,_,j,x,a=>by simp at a|y::xs,vs,h,0,x,a=>by simp only[ZaO,VPre,VRel]at h;obtain⟨v,b,rfl,rfl,_⟩:=h;simp only[Zbn,Zab]at a;subst a;rfl|y::xs,vs,h,j+1,x,a=>by simp only[ZaO,VPre,VRel]at h;obtain⟨v,b,rfl,_,h⟩:=h;simp only[ZbO]at a⊢;exact QiS h j x a
theorem Qbp:∀xs:List (List UInt8),noRefs (xs.map AV.str)=true|[]=>rfl|x::xs=>by rw[ZaO,noRefs,Qbp xs];rfl
theorem call83:Callable Tryz.prog 83:=⟨_,Tryz.func83,by kernel_rfl,by kernel_rfl⟩
theorem join83(xs:List (List UInt8))(sep:List UInt8)(f:xs≠[])(L:xs.length<=1000)(K:(Lib.join xs sep).length<=1000000):PSpec Tryz.prog 83 [.fsl (xs.map AV.str) xs.length 1,.str sep] (.str (Lib.join xs sep)):=by
 refine⟨by rw[noRefs,noRef,Qbp];rfl,rfl,.e,call83,fun c w l H z=>?_⟩;simp only[VRels]at z;obtain⟨v1,A,t,h1,v2,B,rfl,p,rfl⟩:=z;have a:l=#[v1,v2]:=Array.toList_inj.1 (by rw[t]);subst a;simp only[VRel]at h1 p;subst p;rcases h1 with⟨_,h,_⟩|⟨o,off,cap,C,e,N,rfl,u,E,G,v,q⟩;·exact absurd (List.map_eq_nil_iff.1 h) f
 have hblk:=QaT v;have d:(xs.map fun x:List UInt8=>(⟨x.toArray⟩:ByteArray)).map (·.data.toList)=xs:=by
  rw[List.map_map];have:((fun x:ByteArray=>x.data.toList)∘fun x:List UInt8=>(⟨x.toArray⟩:ByteArray))=id:=by funext x;simp
  rw[this,List.map_id]
 have m:∀(j:Nat)x,(xs.map fun x:List UInt8=>(⟨x.toArray⟩:ByteArray))[j]?=some x->w.cell? ⟨o,off+j,none⟩=some (.string x):=by intro j x f;rw[ZaD]at f;cases s:xs[j]? with|none=>rw[s]at f;cases f|some y=>rw[s]at f;simp only[ZbD,Zab]at f;subst f;have:=QiS q j y s;rw[ZbJ]at this;simp only[World.cell?,v];simpa using this
 have g:=Any.strings_Join Tryz.joinS Tryz.joinX o off cap (xs.map fun x:List UInt8=>(⟨x.toArray⟩:ByteArray)) ⟨sep.toArray⟩ w m hblk (by rw[Zaz];omega) (by rw[Zaz];exact u) (by rw[d];simpa using(by omega:(Lib.join xs sep).length<=140737488355328));rw[d,Zaz]at g;refine Calls.mono g ?_;rintro J I⟨rfl,i⟩;refine⟨_,c,rfl,⟨i.os,i.tape,i.output,i.size,fun k C2 M r p=>⟨C2,r,by rw[i.block k (QaT p)];exact p,rfl⟩,fun k hk _=>i.block k hk,fun _ _ _ h=>h,fun _ h=>h,fun _ h=>.inl h,fun _ h=>.inl h,rfl⟩,⟨H.fresh,H.later,fun b x h=>(by cases h),H.inj,H.disj,fun o h=>ZaS (H.inF o h) i.size,fun o h=>ZaS (H.inO o h) i.size⟩,?_⟩;simp[VRel]
end Go.AM.SO
namespace Go.AM
namespace RX
def isTrue:AV->Bool|.bool true=>true|_=>false
theorem Qhd:∀u,isTrue u=true->u=.bool true:=by
 intro u h;unfold isTrue at h;split at h;·rfl
 cases h
def kTrue(t:Nat):KcA Bool:=fun e T _ _=>match e with|.ret=>isTrue (lk T t)|_=>false
theorem Qti{t:Nat}{e:SX}{T:Tmps}{h:Heap}{n:Nat}(hk:kTrue t e T h n=true):e=.ret/\lk T t=.bool true:=by unfold kTrue at hk;cases e<;>simp only[Zap]at hk;exact⟨rfl,Qhd _ hk⟩
def restC:FCode->FCode|.seq _ b=>b|c=>c
def hdC:FCode->FCode|.seq a _=>a|c=>c
variable{P:Program}
mutual def beqA:AV->AV->Bool
 |.int k a,v=>match v with|.int k' b=>decide (k=k')&&decide (a=b)|_=>false
 |.bool a,v=>match v with|.bool b=>a==b|_=>false
 |.str a,v=>match v with|.str b=>decide (a=b)|_=>false
 |.nilsl,v=>match v with|.nilsl=>true|_=>false
 |.agg a,v=>match v with|.agg b=>beqL a b|_=>false
 |.fsl a l s,v=>match v with|.fsl b l' s'=>beqL a b&&Nat.beq l l'&&Nat.beq s s'|_=>false
 |_,_=>false termination_by structural x=>x def beqL:List AV->List AV->Bool
 |[],v=>match v with|[]=>true|_=>false
 |x::xs,v=>match v with|y::ys=>beqA x y&&beqL xs ys|_=>false termination_by structural x=>x end
mutual theorem Quy:∀(x y:AV),beqA x y=true->x=y:=by intro x y h;cases x with|agg a=>cases y<;>simp[beqA]at h;rw[QhC _ _ h]|fsl a l s=>cases y<;>simp[beqA]at h;obtain⟨⟨h1,rfl⟩,rfl⟩:=h;rw[QhC _ _ h1]|int k a=>cases y<;>simp_all[beqA]|bool a=>cases y<;>simp_all[beqA]|str a=>cases y<;>simp_all[beqA]|nilsl=>cases y<;>simp_all[beqA]|_=>simp[beqA]at h theorem QhC:∀(x y:List AV),beqL x y=true->x=y:=by intro x y h;cases x with|nil=>cases y<;>simp_all[beqL]|cons a r=>cases y with|nil=>simp[beqL]at h|cons b s=>simp only[beqL,Zaa]at h;rw[Quy _ _ h.1,QhC _ _ h.2]end
def ansE:Ans Bool:=⟨false,fun x y b=>beqL x y&&b,fun b=>b=true⟩
theorem Quz:ansE.OK:=⟨fun h=>(by cases h),fun x y p h=>by have h:(beqL x y&&p)=true:=h;rw[Zaa]at h;exact⟨QhC _ _ h.1,h.2⟩⟩
theorem Qhr{t:FT2}(g:t.OK P){orc:Orc}(ho:OrcOK P orc){N:NM}{d m:Nat}{c:FCode}{T:Tmps}{h:Heap}{Q:SX->St->Prop}(k:KcA Bool)(a:exR ansE orc t.get d c T h m k=true)(hk:∀e T h n,k e T h n=true->Q e ⟨T,h⟩):W2 P N c.slim Q ⟨T,h⟩:=by obtain⟨e,T',l,p,h1,i,_⟩:=QkQ Quz ho (FT2.ok g) d N.n c T h m k a;exact(W2.of_W i).mono fun o B⟨b,f⟩=>by subst b;subst f;exact hk _ _ _ _ h1
end RX
end Go.AM
namespace Go.AM.EM
open Go.Proofs Go.AM.RX
noncomputable section
def F:FFn:=match ft.get 19 with|some f=>f|none=>⟨0,[],.skip⟩
theorem okF:okFn Tryz.prog 19 F.slim=true:=FT2.ok ft_ok 19 F (by kernel_rfl)
theorem resF:F.res=[.tmp 0]:=by kernel_rfl
def c1:FCode:=hdC F.body
def c2:FCode:=hdC (restC F.body)
def c3:FCode:=hdC (restC (restC F.body))
def c4:FCode:=hdC (restC (restC (restC F.body)))
def cT:FCode:=restC (restC (restC (restC F.body)))
theorem F_is:F.body=.seq c1 (.seq c2 (.seq c3 (.seq c4 cT))):=by kernel_rfl
def w1:List (List UInt8):=[[108,101,97,100,115],[116,111,32,102,105,110,105,115,104,97,44,32,119,104,105,99,104,32,110,101,118,101,114,32,114,101,102,117,115,101,115]]
def w2:List (List UInt8):=[[108,101,97,100,115],[116,111,32,116,104,101,32,101,120,99,108,117,115,105,111,110,32,98,111,116,104]]
def j83(xs:List (List UInt8)):Orc:=fun g=>ifB (Nat.beq g 83) (some ([.fsl (xs.map AV.str) xs.length 1,.str [32]],.str (Lib.join xs [32]))) none
theorem Qr9{xs:List (List UInt8)}(b:xs≠[])(a:xs.length<=1000)(c:(Lib.join xs [32]).length<=1000000):OrcOK Tryz.prog (j83 xs):=by
 intro k d w hk;unfold j83 at hk;simp only[QaF,ZbV]at hk;split at hk;·rename_i e;subst e;cases hk;exact SO.join83 xs [32] b a c
 cases hk
def k4:KcA Bool:=fun e T h k=>match e with|.normal=>exR ansE (j83 w2) ft.get 100000 cT T h k (kTrue 0)|_=>false
def k3:KcA Bool:=fun e T h k=>match e with|.normal=>exR ansE (j83 w2) ft.get 100000 c4 T h k k4|_=>false
def k2:KcA Bool:=fun e T h k=>match e with|.normal=>exR ansE (j83 w1) ft.get 100000 c3 T h k k3|_=>false
def k1:KcA Bool:=fun e T h k=>match e with|.normal=>exR ansE (j83 w1) ft.get 100000 c2 T h k k2|_=>false
theorem run:exR ansE (j83 w1) ft.get 100000 c1 [] .e 64 k1=true:=by kernel_rfl
theorem known19:PSpec Tryz.prog 19 [] (.bool true):=by have b:OrcOK Tryz.prog (j83 w1):=Qr9 (by decide) (by decide) (by decide);have c:OrcOK Tryz.prog (j83 w2):=Qr9 (by decide) (by decide) (by decide);refine PSpec.of_W2 okF (Zah _) rfl rfl ?_;show W2 Tryz.prog ⟨F.n,0⟩ F.body.slim (fun e B=>(e=.normal\/e=.ret)/\∃d,resV B.T B.h F.res=some d/\Rn 0 π0 B.h (.bool true) (resOf d)) ⟨[],.e⟩;rw[resF,F_is];refine W2.seq (Qhr ft_ok b _ run fun e T h k hk=>?_);cases e<;>simp only[k1,Zap]at hk;refine W2.seq (Qhr ft_ok b _ hk fun e T h k hk=>?_);cases e<;>simp only[k2,Zap]at hk;refine W2.seq (Qhr ft_ok b _ hk fun e T h k hk=>?_);cases e<;>simp only[k3,Zap]at hk;refine W2.seq (Qhr ft_ok c _ hk fun e T h k hk=>?_);cases e<;>simp only[k4,Zap]at hk;refine Qhr ft_ok c _ hk fun e T h k hk=>?_;obtain⟨rfl,a⟩:=Qti hk;refine⟨.inr rfl,[.bool true],?_,Zct rfl⟩;show resV T h [.tmp 0]=_;rw[show resV T h [.tmp 0]=some [lk T 0]from rfl,a]
end
end Go.AM.EM
namespace Go.AM.SO
open Go.Proofs Go.AM.SD Go.AM.SE
theorem QnH(d1:(Ty.sl (.int .u8)).D)(h1:(Ty.sl (.int .u8)).wf d1):∃w:List Nat,(∀x∈w,x<256)/\w.length<=9223372036854775807/\(Ty.sl (.int .u8)).val d1=.fsl (u8s w) w.length 1:=by
 obtain⟨f,c⟩:=h1;obtain⟨w,a,b,d⟩:=QbW (.arr (List.length d1) (.int .u8)) rfl d1 ⟨rfl,c⟩;have hlen:w.length=List.length d1:=by rw[a];exact ZbI _
 refine⟨w,b,by omega,?_⟩;show AV.fsl (List.flatMap (Ty.cells (.int .u8)) d1) (List.length d1) 1=_;rw[hlen,<-d];rfl
end Go.AM.SO
namespace Go.AM.SO
open Go.Proofs Go.AM.SD Go.AM.SE
end Go.AM.SO
namespace Go.AM.SO
open Go.Proofs Go.AM.SD Go.AM.SE
end Go.AM.SO
namespace Go.AM.SO
open Go.Proofs Go.AM.SD Go.AM.SE
abbrev Yes(k:SFn)(vs:List AV):Prop:=W2 Tryz.prog ⟨k.n,0⟩ k.body (fun e B=>(e=.normal\/e=.ret)/\resV B.T B.h k.res=some [.bool true]) ⟨argT 0 vs,.e⟩
end Go.AM.SO
namespace Go.AM.SO
open Go.Proofs Go.AM.SD Go.AM.SE
def Now(a:Aut)(u:List Nat)(k s:Nat)(l:List Nat):Prop:=l.Nodup/\∀t∈l,t<a.n/\rchK a u k s t
theorem Now.len{a:Aut}{u:List Nat}{k s:Nat}{l:List Nat}(h:Now a u k s l):l.length<=a.n:=QaN a.n l h.1 fun t b=>(h.2 t b).1
theorem Now.nil{a:Aut}{u:List Nat}{k s:Nat}:Now a u k s []:=⟨List.nodup_nil,fun t b=>by cases b⟩
end Go.AM.SO
namespace Go.AM.SO
open Go.Proofs Go.AM.SD Go.AM.SE
end Go.AM.SO
namespace Go.Proofs
open Go.Shelf
end Go.Proofs
namespace Go.AM.SO
open Go.Proofs Go.AM.SD Go.AM.SE
end Go.AM.SO
namespace Go.AM.SO
open Go.Proofs Go.AM.SD Go.AM.SE
end Go.AM.SO
namespace Go.AM.SO
open Go.Proofs Go.AM.SD Go.AM.SE
end Go.AM.SO
namespace Go.AM.XT
open Go.Proofs
set_option maxHeartbeats 4000000
noncomputable section
def cf:YA.Cf:={most:=.pure,always:=[83].map fun k=>(k,.heap)}
def s9:SFn:=by
 refine(?f:YA.Yt Tryz.prog cf 9 [[0,6],[21,22,23,24,25,26,27,28,29,30,31],[1,2,3,32,33],[6,3,32,35,36,34,37,38],[8,39],[1,2,7,40],[6,1,40,42,43,44,41,45,46,10],[47,48,49,50],[2,9,51,53,54,55,56,57,58,59,60,61,62,63,52,64,65],[67,68,69,70,66,71,72],[11,12,13,14,73,74,75,76,77,78,79,80,81,82,83,84],[7,85],[6,85,2,9,51,86,87,88],[],[92,93,94],[16,96,97,98,99,100,95,101,102],[104,105,106,107,103,108,109],[17,18,19,20,110,111,112,115,116],[7,89,90,91,121,117,120,118,119,114,113,122],[6,122,123],[7,89,90,91,121,117,120,118,119,114,113]] [(12,[(10,14)])]) ?s ?h;case h=>exact YA.rr
 exact fun s _=>s
def s27:SFn:=by
 refine(?f:YA.Yt Tryz.prog cf 27 [[0,1,4,5],[10,11],[12],[2,3,6,13,14],[4,5,6,13,15],[18],[2,3,16,17],[17,20],[2,3,16,19],[16,19,22],[2,3,21,23,24,25,26,27,28,29,30],[4,5,21,31],[32,33,34],[35,36,37,38],[35,39],[],[43,44,45],[9,46,47,48,49,50,51,52,53,54],[55],[2,3,7,40,41,42,56,57,58,59,60,61,62]]) ?s ?h;case h=>exact YA.rr
 exact fun s _=>s
def s42:SFn:=by
 refine(?f:YA.Yt Tryz.prog cf 42 [[0,1,4],[8],[11],[2,3,9,10],[10,13],[2,3,9,12],[9,12,15],[2,3,14,16,17,18,19,20,21,22,23,24],[4,14,25],[26,27,28],[29,30,31,32],[29,33],[],[37,38,39],[7,40,41,42,43,44,45,46,47,48,49],[50],[34,35,36,74,75,76,77],[2,3,73,78,79,80],[73,82,83,84,85],[2,3,81,86,87,88,89,90,91,92,93,94,95,96,97],[81,99,100,101,102],[2,3,98,103,104,105,106,107,108,109,110,111,112,113,114],[2,3,98,51,52,53,54,55,56,57,58,59,60,61,62,63,64,65,66,67,68,69,70,71,72],[5,115,116]]) ?s ?h;case h=>exact YA.rr
 exact fun s _=>s
def s84:SFn:=by
 refine(?f:YA.Yt Tryz.prog cf 84 [[0,1,4],[6,7,8,9],[2,3,5],[5,11,12,13,14],[2,3,10,15,16,17,18,19,20,21,22,23],[10,25,26,27,28],[2,3,24,29,30,31,32,33,34,35,36,37],[2,3,24,38,39,40,41,42,43,44,45,46,47,48,49,50,51,52,53,54,55,56,57]]) ?s ?h;case h=>exact YA.rr
 exact fun s _=>s
theorem ok9:okFn Tryz.prog 9 s9=true:=by kernel_rfl
theorem ok27:okFn Tryz.prog 27 s27=true:=by kernel_rfl
theorem ok42:okFn Tryz.prog 42 s42=true:=by kernel_rfl
theorem ok84:okFn Tryz.prog 84 s84=true:=by kernel_rfl
end
end Go.AM.XT
namespace Go.AM.SO
open Go.Proofs Go.AM.SD Go.AM.SE
theorem join83L(xs:List (List UInt8))(sep:List UInt8)(f:xs≠[])(L:xs.length<=10000000)(K:(Lib.join xs sep).length<=100000000000):PSpec Tryz.prog 83 [.fsl (xs.map AV.str) xs.length 1,.str sep] (.str (Lib.join xs sep)):=by
 refine⟨by rw[noRefs,noRef,Qbp];rfl,rfl,.e,call83,fun c w l H z=>?_⟩;simp only[VRels]at z;obtain⟨v1,A,t,h1,v2,B,rfl,p,rfl⟩:=z;have a:l=#[v1,v2]:=Array.toList_inj.1 (by rw[t]);subst a;simp only[VRel]at h1 p;subst p;rcases h1 with⟨_,h,_⟩|⟨o,off,cap,C,e,N,rfl,u,E,G,v,q⟩;·exact absurd (List.map_eq_nil_iff.1 h) f
 have hblk:=QaT v;have d:(xs.map fun x:List UInt8=>(⟨x.toArray⟩:ByteArray)).map (·.data.toList)=xs:=by
  rw[List.map_map];have:((fun x:ByteArray=>x.data.toList)∘fun x:List UInt8=>(⟨x.toArray⟩:ByteArray))=id:=by funext x;simp
  rw[this,List.map_id]
 have m:∀(j:Nat)x,(xs.map fun x:List UInt8=>(⟨x.toArray⟩:ByteArray))[j]?=some x->w.cell? ⟨o,off+j,none⟩=some (.string x):=by intro j x f;rw[ZaD]at f;cases s:xs[j]? with|none=>rw[s]at f;cases f|some y=>rw[s]at f;simp only[ZbD,Zab]at f;subst f;have:=QiS q j y s;rw[ZbJ]at this;simp only[World.cell?,v];simpa using this
 have g:=Any.strings_Join Tryz.joinS Tryz.joinX o off cap (xs.map fun x:List UInt8=>(⟨x.toArray⟩:ByteArray)) ⟨sep.toArray⟩ w m hblk (by rw[Zaz];omega) (by rw[Zaz];exact u) (by rw[d];simpa using(by omega:(Lib.join xs sep).length<=140737488355328));rw[d,Zaz]at g;refine Calls.mono g ?_;rintro J I⟨rfl,i⟩;refine⟨_,c,rfl,⟨i.os,i.tape,i.output,i.size,fun k C2 M r p=>⟨C2,r,by rw[i.block k (QaT p)];exact p,rfl⟩,fun k hk _=>i.block k hk,fun _ _ _ h=>h,fun _ h=>h,fun _ h=>.inl h,fun _ h=>.inl h,rfl⟩,⟨H.fresh,H.later,fun b x h=>(by cases h),H.inj,H.disj,fun o h=>ZaS (H.inF o h) i.size,fun o h=>ZaS (H.inO o h) i.size⟩,?_⟩;simp[VRel]
theorem QiT{s x:List UInt8}{l:List (List UInt8)}(h:l≠[]):s.intercalate (x::l)=x++s++s.intercalate l:=by cases l with|nil=>exact absurd rfl h|cons y l=>simp[List.intercalate,List.intersperse]
theorem Qpm{s x:List UInt8}:s.intercalate [x]=x:=by simp[List.intercalate]
theorem QnJ{s:List UInt8}{t:List (List UInt8)}(h:t≠[]):∀ws:List (List UInt8),s.intercalate (ws++t)=s.intercalate (ws++[s.intercalate t])|[]=>by rw[ZaU,ZaU,Qpm]|x::ws=>by rw[Za0,Za0,QiT (by simp[h]),QiT (by simp),QnJ h ws]
theorem QhE{s:List UInt8}{k:Nat}:∀{ws:List (List UInt8)},(∀w∈ws,w.length<=k)->(s.intercalate ws).length<=(k+s.length)*ws.length|[],_=>by simp[List.intercalate]|[x],h=>by rw[Qpm];have:=h x (by simp);simp;omega|x::y::ws,h=>by rw[QiT (by simp)];have h1:=h x (by simp);have a:=QhE (s:=s) (ws:=y::ws) fun w hw=>h w (Zby _ hw);simp only[Zae,ZaI]at*;rw[Nat.mul_add];omega
def nmEv(e:Nat):List UInt8:=[UInt8.ofNat (97+e)]
def RsOk(c:Cel)(rs:Nat×Int×Int×Int):Prop:=(rs.2.1=1/\∃i:Nat,rs.2.2.1=(i:Int)/\i<c.xs.length)\/(rs.2.1=2/\∃i:Nat,rs.2.2.1=(i:Int)/\i<c.ks.length)\/(rs.2.1≠1/\rs.2.1≠2/\(∃i:Nat,rs.2.2.1=(i:Int)/\i<c.rs.length)/\∃e:Nat,rs.2.2.2=(e:Int)/\e<5)
theorem QbM{ch:UInt8}{l:List (Nat×Aut)}{i:Nat}{x:Nat×Aut}(h:l[i]?=some x):(l.flatMap (itC ch)).drop (i*5)=itC ch x++(l.drop (i+1)).flatMap (itC ch):=Qa6 (f:=itC ch) (k:=5) (fun _=>rfl) h
def GW(c:Cel)(x:Exp)(ws:List (List UInt8)):Prop:=(x.rm.reason=3/\ws=[[116,111,32,97,32,98,108,111,99,107,101,100,32,115,116,97,116,101]])\/(x.rm.reason≠3/\x.rs.2.1=1/\∃(i:Nat)(y:Nat×List (Nat×Nat)),x.rs.2.2.1=(i:Int)/\c.xs[i]?=some y/\ws=[[116,111,32,116,104,101,32,101,120,99,108,117,115,105,111,110],[101,UInt8.ofNat (48+y.1)]])\/(x.rm.reason≠3/\x.rs.2.1=2/\∃(i:Nat)(y:List (Nat×Int)×Int),x.rs.2.2.1=(i:Int)/\c.ks[i]?=some y/\ws=[[116,111,32,116,104,101,32,99,111,110,115,116,114,97,105,110,116],[107]])\/(x.rm.reason≠3/\x.rs.2.1≠1/\x.rs.2.1≠2/\∃(i:Nat)(y:Nat×Aut)(e:Nat),x.rs.2.2.1=(i:Int)/\c.rs[i]?=some y/\x.rs.2.2.2=(e:Int)/\e<5/\ws=[[116,111],[UInt8.ofNat (97+e),44],[119,104,105,99,104],[114,UInt8.ofNat (48+y.1)],[114,101,102,117,115,101,115]])
theorem goal84(c:Cel)(x:Exp)(h:x.rm.reason=3\/RsOk c x.rs):∃ws:List (List UInt8),GW c x ws/\ws≠[]/\ws.length<=5/\(∀w∈ws,w.length<=20)/\PSpec Tryz.prog 84 [celV c,expV x] (.str ([32].intercalate ws)):=by
 obtain⟨k,st,B,z,E,v,⟨t,A,o,C⟩,⟨s1,s2,s,u⟩⟩:=x;dsimp only at h;have b:=SU.QaK c;have d:=QaR ⟨k,st,B,z,E,v,⟨t,A,o,C⟩,⟨s1,s2,s,u⟩⟩;by_cases m:o=3;·subst m;refine⟨[[116,111,32,97,32,98,108,111,99,107,101,100,32,115,116,97,116,101]],.inl ⟨rfl,rfl⟩,by simp,by simp,by simp,Zcy 64 XT.ok84 rfl (by rw[noRefs,noRefs,b,d];rfl) rfl ?_⟩;unfold XT.s84;refine Zc0 ?_;exact⟨.inr trivial,_,rfl,rfl⟩
 have g:¬(o:Int)=3:=by omega
 rcases h with h|⟨rfl,i,rfl,hi⟩|⟨rfl,i,rfl,hi⟩|⟨r,p,⟨i,rfl,hi⟩,e,rfl,he⟩;·exact absurd h m
 ·obtain⟨y,f⟩:=Qao hi;have a:=QfB f;refine⟨[[116,111,32,116,104,101,32,101,120,99,108,117,115,105,111,110],[101,UInt8.ofNat (48+y.1)]],.inr (.inl ⟨m,rfl,i,y,rfl,f,rfl⟩),by simp,by simp,by simp,Zcy 64 XT.ok84 rfl (by rw[noRefs,noRefs,b,d];rfl) rfl ?_⟩;simp(disch:=first|omega|exact PairsOK.mk rfl|(simp only[lenW]<;>omega))only[XT.s84,g,hi,a,Qaa,Qab,Qac,wW,wV,simprocAttr];exact⟨.inr trivial,_,rfl,rfl⟩
 ·obtain⟨y,f⟩:=Qao hi;have a:=QfC f;refine⟨[[116,111,32,116,104,101,32,99,111,110,115,116,114,97,105,110,116],[107]],.inr (.inr (.inl ⟨m,rfl,i,y,rfl,f,rfl⟩)),by simp,by simp,by simp,Zcy 64 XT.ok84 rfl (by rw[noRefs,noRefs,b,d];rfl) rfl ?_⟩;simp(disch:=first|omega|exact PairsOK.mk rfl|(simp only[lenW]<;>omega))only[XT.s84,g,hi,a,Qaa,Qab,Qac,wW,wV,simprocAttr];exact⟨.inr trivial,_,rfl,rfl⟩
 obtain⟨y,f⟩:=Qao hi;have a:=QbM (ch:=114) f;rw[itC]at a;have l:=@QbX c.ev e he;rw[evC]at l;have q:¬(5:Int)<=(e:Int):=by omega
 refine⟨[[116,111],[UInt8.ofNat (97+e),44],[119,104,105,99,104],[114,UInt8.ofNat (48+y.1)],[114,101,102,117,115,101,115]],.inr (.inr (.inr ⟨m,r,p,i,y,e,rfl,f,rfl,he,rfl⟩)),by simp,by simp,by simp,Zcy 64 XT.ok84 rfl (by rw[noRefs,noRefs,b,d];rfl) rfl ?_⟩;simp(disch:=first|omega|exact PairsOK.mk rfl|(simp only[lenW]<;>omega))only[XT.s84,g,r,p,hi,a,he,l,Qb0,Qaa,Qab,Qac,wW,wV,simprocAttr];exact⟨.inr trivial,_,rfl,rfl⟩
structure LdOk(c:Cel)(x:Exp):Prop where
 k:x.kind=4
 run:∀e∈x.run,e<5
 len:x.run.length<=1000000
 rs:x.rm.reason=3\/RsOk c x.rs
def hdW(r:List Nat):List (List UInt8):=if r=[]then[[108,101,97,100,115]]else[[108,101,97,100,115],[98,121]]
abbrev strs(w:List (List UInt8)):List AV:=w.map AV.str
theorem text27L(c:Cel)(h:WfCel c)(x:Exp)(P:LdOk c x):∃ws:List (List UInt8),GW c x ws/\ws≠[]/\ws.length<=5/\(∀w∈ws,w.length<=20)/\PSpec Tryz.prog 27 [celV c,expV x] (.tup [.str ([32].intercalate (hdW x.run++x.run.map nmEv++ws)),.int .i64 0]):=by
 obtain⟨ws,Q,w1,w2,L,M⟩:=goal84 c x P.rs;refine⟨ws,Q,w1,w2,L,?_⟩;have q:=SU.QaK c;have R:=QaR x;obtain⟨k,st,A,y,d,z,rm,rs⟩:=x;obtain⟨hk,hrn,G,_⟩:=P;dsimp only at hk hrn G M;subst hk;have H:=QaR ⟨4,st,A,y,d,z,rm,rs⟩;have I:=check21 c h;refine Zcy 64 XT.ok27 rfl (by rw[noRefs,noRefs,q,H];rfl) rfl ?_;have o:=Qae d;have f:noRefs [evsV c.ev,its 99 c.cs,its 114 c.rs,exs c.xs,cos c.ks]=true:=by rw[noRef]at q;exact q
 have i:noRefs (expC ⟨4,st,A,y,d,z,rm,rs⟩)=true:=Qa7 _;obtain⟨W,l⟩:∃W:Nat->List (List UInt8),∀j,W j=hdW d++(d.take j).map nmEv:=⟨_,fun _=>rfl⟩;have J:∀j,(W j).length<=1000010:=fun j=>by
  rw[l];have:(hdW d).length<=2:=by unfold hdW;split<;>simp
  simp;omega
 have v:((0:Int)<d.length/\hdW d=[[108,101,97,100,115],[98,121]])\/(¬(0:Int)<d.length/\hdW d=[[108,101,97,100,115]]):=by cases d with|nil=>exact .inr ⟨by simp,rfl⟩|cons a b=>exact .inl ⟨by simp,by simp[hdW]⟩
 rcases v with⟨hp,K⟩|⟨hp,K⟩;all_goals
  unfold XT.s27;refine Zc0 ?_;refine cp I ?_;simp(disch:=first|omega|exact PairsOK.mk rfl|(simp only[lenW]<;>omega))only[hp,Qaa,Qab,Qac,wW,wV,simprocAttr];refine Qap 120 (fun j:Nat=>[(2,.ptr 50 0 0),(3,.ptr 51 0 0),(7,.sl 60 0 0 (W j).length 1),(40,sliN d),(41,.int .i64 d.length),(42,.int .i64 j)]) (fun j=>[(50,.cells 0 [evsV c.ev,its 99 c.cs,its 114 c.rs,exs c.xs,cos c.ks]),(51,.cells 0 (expC ⟨4,st,A,y,d,z,rm,rs⟩)),(60,.cells 0 (strs (W j)))]) (fun j=>j<=d.length) (fun j=>d.length-j) 0 1 200 (fun _:Unit=>[(2,.ptr 50 0 0),(3,.ptr 51 0 0),(7,.sl 60 0 0 (W d.length).length 1)]) (fun _=>[(50,.cells 0 [evsV c.ev,its 99 c.cs,its 114 c.rs,exs c.xs,cos c.ks]),(51,.cells 0 (expC ⟨4,st,A,y,d,z,rm,rs⟩)),(60,.cells 0 (strs (W d.length)))]) (fun _=>True) ?_ (Zah _) ?_ ?_;·rw[l,Zch,List.map_nil,Zaq,K];first|exact⟨[(50,.blk 64 0),(51,.blk 65 0),(60,.blk 81 0)],rfl,ZcB,ZcF rfl rfl gg (Zcv f) (ZcF rfl rfl gg (Zcv i) (ZcF rfl rfl gg (Zcv (Qbp _)) ZcE)),ZcD (Rn.x2 rfl rfl) (ZcD (Rn.x2 rfl rfl) (ZcD (Rn.x1 rfl rfl) (ZcD (Zct o) au29)))⟩|exact⟨[(50,.blk 64 0),(51,.blk 65 0),(60,.blk 81 1)],rfl,ZcB,ZcF rfl rfl gg (Zcv f) (ZcF rfl rfl gg (Zcv i) (ZcF rfl rfl gg (Zcv (Qbp _)) ZcE)),ZcD (Rn.x2 rfl rfl) (ZcD (Rn.x2 rfl rfl) (ZcD (Rn.x1 rfl rfl) (ZcD (Zct o) au29)))⟩
  ·rintro j U;have E:=J j;by_cases r:j<d.length
   ·obtain⟨e,he⟩:=Qao r;have s:=hrn e (Zac he);have t:=@QbX c.ev e s;rw[evC]at t;have N:¬(5:Int)<=(e:Int):=by omega
    have C:W (j+1)=W j++[nmEv e]:=by rw[l,l,take_succ' he,ZaJ,ZaR];rfl
    have m:(strs (W j)).length=(W j).length:=by simp
    refine Zc1 (Zda r (Qaz he) s t @Qb0 m) ?_;refine⟨j+1,by omega,by omega,?_⟩;rw[C,show strs (W j++[nmEv e])=strs (W j)++[.str (nmEv e)]from ZaJ,Zae];exact⟨[(50,.blk 50 0),(51,.blk 51 0),(60,.blk 60 1)],rfl,ZcB,ZcF rfl rfl gg (Zcv f) (ZcF rfl rfl gg (Zcv i) (ZcF rfl rfl gg (Zcv (SU.Qau (Qbp _) rfl)) ZcE)),ZcD (Rn.x2 rfl rfl) (ZcD (Rn.x2 rfl rfl) (ZcD (Rn.x1 rfl rfl) (ZcD (Zct o) au29)))⟩
   have e:j=d.length:=by omega
   subst e;refine Zc1 r ?_;exact⟨(),[(50,.blk 50 0),(51,.blk 51 0),(60,.blk 60 0)],rfl,ZcB,ZcF rfl rfl gg (Zcv f) (ZcF rfl rfl gg (Zcv i) (ZcF rfl rfl gg (Zcv (Qbp _)) ZcE)),ZcD (Rn.x2 rfl rfl) (ZcD (Rn.x2 rfl rfl) (ZcD (Rn.x1 rfl rfl) ZcC))⟩
  rintro _ _;have E:=J d.length;have p:=l d.length;rw[Zao]at p;rw[<-p];have u:∀w∈W d.length,w.length<=1000:=fun w hw=>by
   rw[p]at hw;rcases Zay.1 hw with hw|hw
   ·unfold hdW at hw;split at hw<;>simp at hw;·subst hw;simp
    rcases hw with rfl|rfl<;>simp
   obtain⟨e,_,rfl⟩:=Zan.1 hw;simp[nmEv]
  rw[QnJ w1];have B:([32].intercalate ws:List UInt8).length<=1000:=by have:=QhE (s:=[32]) (k:=20) L;simp only[ZaI,Za8]at this;have:(20+(0+1))*ws.length<=21*5:=Zci (by omega) w2;omega
  generalize W d.length=W at*;generalize([32].intercalate ws:List UInt8)=g at*;have m:(strs W).length=W.length:=by simp
  have T:PSpec Tryz.prog 83 [.fsl (strs W++[.str g]) (W.length+1) 1,.str [32]] (.str ([32].intercalate (W++[g]))):=by have:=join83L (W++[g]) [32] (by simp) (by simp;omega) (by
   have h1:=QhE (s:=[32]) (k:=1000) (ws:=W++[g]) fun w hw=>by
    rcases Zay.1 hw with hw|hw;·exact u w hw
    obtain rfl:=ZaL.1 hw;exact B
   have S:(1000+[(32:UInt8)].length)*(W++[g]).length<=1001*1000011:=Zci (by simp) (by simp;omega);exact Zav h1 (Zav S (by omega)));rwa[ZaJ,Zae]at this
  refine Zc0 ?_;refine cp M ?_;refine Zc1 m ?_;refine ch (ZcQ (ZcT (FrzTo.all gg (by simp)) (ZcT (Zcz _) ZcS)) T rfl) ?_;refine Zc0 ?_;exact⟨.inr trivial,_,rfl,rfl⟩
theorem text42L{c:Cel}{q:Aut}{TA TB:List (List Nat)}{X:List Nat}{F:List (Nat×Int×Int×Int)}{r:Res}(x:Exp)(hx:LdOk c x){ws:List (List UInt8)}(w0:GW c x ws)(w1:ws≠[])(w2:ws.length<=5)(w3:∀w∈ws,w.length<=20):PSpec Tryz.prog 42 [.agg (wldP c q TA TB X F r),expV x] (.str ([32].intercalate (hdW x.run++x.run.map nmEv++ws))):=by
 have p:=@nrW c q TA TB X F r;have hnx:=QaR x;obtain⟨k,st,N,E,d,M,⟨K,G,v,H⟩,⟨s1,s2,I,J⟩⟩:=x;obtain⟨hk,hrn,S,_⟩:=hx;dsimp only[GW]at hk hrn S w0⊢;subst hk;have Q:=QaR ⟨4,st,N,E,d,M,⟨K,G,v,H⟩,⟨s1,s2,I,J⟩⟩;refine Zcy 64 XT.ok42 rfl (by rw[noRefs,noRefs,noRef,p,Q];rfl) rfl ?_;have z:=Qae d;have f:noRefs (expC ⟨4,st,N,E,d,M,⟨K,G,v,H⟩,⟨s1,s2,I,J⟩⟩)=true:=Qa7 _;obtain⟨W,s⟩:∃W:Nat->List (List UInt8),∀j,W j=hdW d++(d.take j).map nmEv:=⟨_,fun _=>rfl⟩;have Y:∀j,(W j).length<=1000010:=fun j=>by
  rw[s];have:(hdW d).length<=2:=by unfold hdW;split<;>simp
  simp;omega
 have C:((0:Int)<d.length/\hdW d=[[108,101,97,100,115],[98,121]])\/(¬(0:Int)<d.length/\hdW d=[[108,101,97,100,115]]):=by cases d with|nil=>exact .inr ⟨by simp,rfl⟩|cons a b=>exact .inl ⟨by simp,by simp[hdW]⟩
 rcases C with⟨hp,V⟩|⟨hp,V⟩;all_goals
  simp(disch:=first|omega|exact PairsOK.mk rfl|(simp only[lenW]<;>omega))only[XT.s42,hp,Qaa,Qab,Qac,wW,wV,simprocAttr];refine Qap 120 (fun j:Nat=>[(2,.ptr 50 0 0),(3,.ptr 51 0 0),(5,.sl 60 0 0 (W j).length 1),(34,sliN d),(35,.int .i64 d.length),(36,.int .i64 j)]) (fun j=>[(50,.cells 0 (wldP c q TA TB X F r)),(51,.cells 0 (expC ⟨4,st,N,E,d,M,⟨K,G,v,H⟩,⟨s1,s2,I,J⟩⟩)),(60,.cells 0 (strs (W j)))]) (fun j=>j<=d.length) (fun j=>d.length-j) 0 1 200 (fun _:Unit=>[(2,.ptr 50 0 0),(3,.ptr 51 0 0),(5,.sl 60 0 0 (W d.length).length 1)]) (fun _=>[(50,.cells 0 (wldP c q TA TB X F r)),(51,.cells 0 (expC ⟨4,st,N,E,d,M,⟨K,G,v,H⟩,⟨s1,s2,I,J⟩⟩)),(60,.cells 0 (strs (W d.length)))]) (fun _=>True) ?_ (Zah _) ?_ ?_;·rw[s,Zch,List.map_nil,Zaq,V];first|exact⟨[(50,.blk 64 0),(51,.blk 65 0),(60,.blk 75 0)],rfl,ZcB,ZcF rfl rfl gg (Zcv p) (ZcF rfl rfl gg (Zcv f) (ZcF rfl rfl gg (Zcv (Qbp _)) ZcE)),ZcD (Rn.x2 rfl rfl) (ZcD (Rn.x2 rfl rfl) (ZcD (Rn.x1 rfl rfl) (ZcD (Zct z) au29)))⟩|exact⟨[(50,.blk 64 0),(51,.blk 65 0),(60,.blk 75 1)],rfl,ZcB,ZcF rfl rfl gg (Zcv p) (ZcF rfl rfl gg (Zcv f) (ZcF rfl rfl gg (Zcv (Qbp _)) ZcE)),ZcD (Rn.x2 rfl rfl) (ZcD (Rn.x2 rfl rfl) (ZcD (Rn.x1 rfl rfl) (ZcD (Zct z) au29)))⟩
  ·rintro j hj;have T:=Y j;by_cases u:j<d.length
   ·obtain⟨e,he⟩:=Qao u;have o:=hrn e (Zac he);have l:=@QbX c.ev e o;rw[evC]at l;have Z:¬(5:Int)<=(e:Int):=by omega
    have P:W (j+1)=W j++[nmEv e]:=by rw[s,s,take_succ' he,ZaJ,ZaR];rfl
    have g:(strs (W j)).length=(W j).length:=by simp
    refine Zc1 (Zda u (Qaz he) o l @Qb0 g) ?_;refine⟨j+1,by omega,by omega,?_⟩;rw[P,show strs (W j++[nmEv e])=strs (W j)++[.str (nmEv e)]from ZaJ,Zae];exact⟨[(50,.blk 50 0),(51,.blk 51 0),(60,.blk 60 1)],rfl,ZcB,ZcF rfl rfl gg (Zcv p) (ZcF rfl rfl gg (Zcv f) (ZcF rfl rfl gg (Zcv (SU.Qau (Qbp _) rfl)) ZcE)),ZcD (Rn.x2 rfl rfl) (ZcD (Rn.x2 rfl rfl) (ZcD (Rn.x1 rfl rfl) (ZcD (Zct z) au29)))⟩
   have e:j=d.length:=by omega
   subst e;refine Zc1 u ?_;exact⟨(),[(50,.blk 50 0),(51,.blk 51 0),(60,.blk 60 0)],rfl,ZcB,ZcF rfl rfl gg (Zcv p) (ZcF rfl rfl gg (Zcv f) (ZcF rfl rfl gg (Zcv (Qbp _)) ZcE)),ZcD (Rn.x2 rfl rfl) (ZcD (Rn.x2 rfl rfl) (ZcD (Rn.x1 rfl rfl) ZcC))⟩
  rintro _ _;have T:=Y d.length;have A:=s d.length;rw[Zao]at A;rw[<-A];have B:∀w∈W d.length,w.length<=1000:=fun w hw=>by
   rw[A]at hw;rcases Zay.1 hw with hw|hw
   ·unfold hdW at hw;split at hw<;>simp at hw;·subst hw;simp
    rcases hw with rfl|rfl<;>simp
   obtain⟨e,_,rfl⟩:=Zan.1 hw;simp[nmEv]
  generalize W d.length=W at*;have g:(strs W).length=W.length:=by simp
  have L:PSpec Tryz.prog 83 [.fsl (strs W++strs ws) (W.length+ws.length) 1,.str [32]] (.str ([32].intercalate (W++ws))):=by have:=join83L (W++ws) [32] (by simp[w1]) (by simp;omega) (by
   have h1:=QhE (s:=[32]) (k:=1000) (ws:=W++ws) fun w hw=>by
    rcases Zay.1 hw with hw|hw;·exact B w hw
    have:=w3 w hw;omega
   have h2:(1000+[(32:UInt8)].length)*(W++ws).length<=1001*1000015:=Zci (by simp) (by simp;omega);exact Zav h1 (Zav h2 (by omega)));rwa[ZaJ,Zae]at this
  rcases w0 with⟨rfl,rfl⟩|⟨U,rfl,i,y,rfl,t,rfl⟩|⟨U,rfl,i,y,rfl,t,rfl⟩|⟨U,n1,n2,i,y,e,rfl,t,rfl,o,rfl⟩;·refine Zc1 g ?_;refine ch (ZcQ (ZcT (FrzTo.all gg (by simp)) (ZcT (Zcz _) ZcS)) L rfl) ?_;refine Zc0 ?_;exact⟨.inr trivial,_,rfl,rfl⟩
  ·have m:¬(v:Int)=3:=by omega
   have hi:=(Zaf.1 t).1;have h:=QfB t;simp(disch:=first|omega|exact PairsOK.mk rfl|(simp only[lenW]<;>omega))only[g,m,hi,h,Qaa,Qab,Qac,wW,wV,simprocAttr];refine ch (ZcQ (ZcT (FrzTo.all gg (by simp)) (ZcT (Zcz _) ZcS)) L rfl) ?_;refine Zc0 ?_;exact⟨.inr trivial,_,rfl,rfl⟩
  ·have m:¬(v:Int)=3:=by omega
   have hi:=(Zaf.1 t).1;have h:=QfC t;simp(disch:=first|omega|exact PairsOK.mk rfl|(simp only[lenW]<;>omega))only[g,m,hi,h,Qaa,Qab,Qac,wW,wV,simprocAttr];refine ch (ZcQ (ZcT (FrzTo.all gg (by simp)) (ZcT (Zcz _) ZcS)) L rfl) ?_;refine Zc0 ?_;exact⟨.inr trivial,_,rfl,rfl⟩
  ·have m:¬(v:Int)=3:=by omega
   have hi:=(Zaf.1 t).1;have h:=QbM (ch:=114) t;rw[itC]at h;have l:=@QbX c.ev e o;rw[evC]at l;have R:¬(5:Int)<=(e:Int):=by omega
   simp(disch:=first|omega|exact PairsOK.mk rfl|(simp only[lenW]<;>omega))only[g,m,n1,n2,hi,h,o,l,Qb0,Qaa,Qab,Qac,wW,wV,simprocAttr];refine ch (ZcQ (ZcT (FrzTo.all gg (by simp)) (ZcT (Zcz _) ZcS)) L rfl) ?_;refine Zc0 ?_;exact⟨.inr trivial,_,rfl,rfl⟩
end Go.AM.SO
namespace Go.AM.SO
open Go.Proofs Go.AM.SD Go.AM.SE
def SayOk(c:Cel)(x:Exp):Prop:=x.kind=1\/x.kind=2\/(x.kind=3/\∃i:Nat,x.req=(i:Int)/\i<c.rs.length)\/LdOk c x
theorem texts(c:Cel)(h:WfCel c)(x:Exp)(p:SayOk c x):∃s:List UInt8,PSpec Tryz.prog 27 [celV c,expV x] (.tup [.str s,.int .i64 0])/\∀(q:Aut)(TA TB:List (List Nat))(X:List Nat)(F:List (Nat×Int×Int×Int))(r:Res),PSpec Tryz.prog 42 [.agg (wldP c q TA TB X F r),expV x] (.str s):=by
 by_cases o:LdOk c x;·obtain⟨ws,t,w1,w2,u,h1⟩:=text27L c h x o;exact⟨_,h1,fun q TA TB X F r=>text42L x o t w1 w2 u⟩
 have m:x.kind=1\/x.kind=2\/(x.kind=3/\∃i:Nat,x.req=(i:Int)/\i<c.rs.length):=by
  rcases p with a|a|a|a;·exact .inl a
  ·exact .inr (.inl a)
  ·exact .inr (.inr a)
  exact absurd a o
 clear p o;have l:=SU.QaK c;have b:=QaR x;have f:=check21 c h;obtain⟨k,st,B,w,z,A,rm,rs⟩:=x;dsimp only at m;rcases m with rfl|rfl|⟨rfl,i,rfl,hi⟩
 ·refine⟨[112,101,114,109,105,116,116,101,100],?_,fun q TA TB X F r=>?_⟩;·refine Zcy 64 XT.ok27 rfl (by rw[noRefs,noRefs,l,b];rfl) rfl ?_;unfold XT.s27;refine Zc0 ?_;refine cp f ?_;refine Zc0 ?_;exact⟨.inr trivial,_,rfl,rfl⟩
  have d:=@nrW c q TA TB X F r;refine Zcy 64 XT.ok42 rfl (by rw[noRefs,noRefs,noRef,d,b];rfl) rfl ?_;unfold XT.s42;refine Zc0 ?_;exact⟨.inr trivial,_,rfl,rfl⟩
 ·refine⟨[105,109,112,111,115,115,105,98,108,101],?_,fun q TA TB X F r=>?_⟩;·refine Zcy 64 XT.ok27 rfl (by rw[noRefs,noRefs,l,b];rfl) rfl ?_;unfold XT.s27;refine Zc0 ?_;refine cp f ?_;refine Zc0 ?_;exact⟨.inr trivial,_,rfl,rfl⟩
  have d:=@nrW c q TA TB X F r;refine Zcy 64 XT.ok42 rfl (by rw[noRefs,noRefs,noRef,d,b];rfl) rfl ?_;unfold XT.s42;refine Zc0 ?_;exact⟨.inr trivial,_,rfl,rfl⟩
 obtain⟨y,v⟩:=Qao hi;have g:=QbM (ch:=114) v;rw[itC]at g;refine⟨[114,101,102,117,115,101,100,32,98,121,32]++[114,UInt8.ofNat (48+y.1)],?_,fun q TA TB X F r=>?_⟩;·refine Zcy 64 XT.ok27 rfl (by rw[noRefs,noRefs,l,b];rfl) rfl ?_;unfold XT.s27;refine Zc0 ?_;refine cp f ?_;simp(disch:=first|omega|exact PairsOK.mk rfl|(simp only[lenW]<;>omega))only[hi,g,Qaa,Qab,Qac,wW,wV,simprocAttr];exact⟨.inr trivial,_,rfl,rfl⟩
 have d:=@nrW c q TA TB X F r;refine Zcy 64 XT.ok42 rfl (by rw[noRefs,noRefs,noRef,d,b];rfl) rfl ?_;simp(disch:=first|omega|exact PairsOK.mk rfl|(simp only[lenW]<;>omega))only[XT.s42,hi,g,Qaa,Qab,Qac,wW,wV,simprocAttr];exact⟨.inr trivial,_,rfl,rfl⟩
end Go.AM.SO
namespace Go.AM.SO
open Go.Proofs Go.AM.SD Go.AM.SE
theorem QuD{t:List Nat}{xs:List (Nat×List (Nat×Nat))}{ks:List (List (Nat×Int)×Int)}(h:(vioV t xs ks).2.2=true):((vioV t xs ks).1=1/\∃i:Nat,(vioV t xs ks).2.1=(i:Int)/\i<xs.length)\/((vioV t xs ks).1=2/\∃i:Nat,(vioV t xs ks).2.1=(i:Int)/\i<ks.length):=by
 have a:=(@QcN _ (cdQ t) (cdA xs ks)).2;have c:(cdA xs ks).length=xs.length+ks.length:=by simp[cdA]
 unfold vioV at h⊢;split at h;·cases h
 rename_i b;have h1:=a (by omega);rw[if_neg b];split;·rename_i d;exact .inl ⟨rfl,(idxQ (cdQ t) (cdA xs ks)).toNat,by dsimp only;omega,by omega⟩
 rename_i d;exact .inr ⟨rfl,(idxQ (cdQ t) (cdA xs ks)-xs.length).toNat,by dsimp only;omega,by omega⟩
theorem Qsb{c:Cel}{r:List Nat}{e:Nat}(h:0<=rfI c r e):∃i:Nat,rfI c r e=(i:Int)/\i<c.rs.length:=by have h1:=(@QcN _ (rfQ c r e) (List.range c.rs.length)).2 h;rw[ZbS]at h1;exact⟨(rfI c r e).toNat,by omega,by have:rfI c r e<c.rs.length:=h1;omega⟩
theorem QvM{c:Cel}(h:WfCel c){i:Nat}{t:List Nat}{z:Nat×Int×Int×Int}(f:rsn c i t=some z):RsOk c z:=by
 unfold rsn at f;split at f
 ·rename_i m;cases f;rcases QuD m with⟨a,b⟩|⟨a,b⟩;·exact .inl ⟨a,b⟩
  exact .inr (.inl ⟨a,b⟩)
 obtain⟨y,k,rfl⟩:=Option.map_eq_some_iff.1 f;have hm:=Za3 k;have g:=QjH h hm;unfold yls at hm;obtain⟨e,he,d⟩:=Zbs.1 hm;unfold ylE at d;split at d;·rename_i l;cases d;exact .inr (.inr ⟨by simp,by simp,Qsb l,e,rfl,g⟩)
 cases d
theorem QuE{c:Cel}(h:WfCel c){n:Nat}{z:Nat×Int×Int×Int}(b:z∈forb c n):RsOk c z:=by unfold forb at b;obtain⟨i,hi,a⟩:=ZbF.1 b;unfold rsnO at a;exact QvM h (Option.mem_toList.1 a)
theorem QlK(c:Cel)(h:WfCel c)(s:Nat){n:Nat}{x:Rm}(p:remAt (resC c).rem n=some x):LdOk c (leadsX c s n):=by
 have hw:=wfA_c c h;have a:=Qct c h;obtain⟨h1,rfl⟩:=QbF p;obtain⟨f,t,b⟩:=Qfa hw a h1;obtain⟨⟨z,k,z2,z3⟩,v,m,A⟩:=QlE hw a h1 b;have g:=Qfb (F:=forbC c) (s:=s) (u:=uncL c.ev 5) (R:=(resC c).rem) hw (a.st x h1).1;have e:leadsX c s x.st=ldx (resC c).rem (forbC c) s x.st f t:=by unfold leadsX leadsG;rw[b]
 have q:leadsG (syncA (allA c)) (uncL c.ev 5) (resC c).rem (forbC c) s x.st=ldx (resC c).rem (forbC c) s x.st f t:=by unfold leadsG;rw[b]
 rw[q]at g;rw[e];have r:rmD (resC c).rem t=z:=by unfold rmD;rw[<-z2,Qcp a.nd k];rfl
 refine⟨rfl,fun e he=>?_,g,?_⟩;·obtain⟨i,hi⟩:=Zbk (show e∈f from he);obtain⟨y,w,_,_,l,_,o,_⟩:=m i (Zaf.1 hi).1;rw[hi]at l;cases l;exact spQ_5 c h e o
 unfold ldx;rw[r];rcases z3 with z3|z3;·right;rw[if_pos z3];have hf:=Qr1 hw z k z3;obtain⟨y,u,_,d⟩:=Qpi (F:=forbC c) (t:=t) (by rw[<-z2];exact hf);unfold rsnAt;rw[d];exact QuE h u
 exact .inl z3
theorem Qsc(c:Cel)(h:WfCel c)(v e:Nat):SayOk c (eventX c v e):=by
 unfold eventX eventG;split
 ·split;·rename_i d;exact .inr (.inr (.inl ⟨rfl,Qsb d⟩))
  split;·rename_i a;obtain⟨x,b⟩:=Za6.1 a;exact .inr (.inr (.inr (QlK c h v b)))
  exact .inl rfl
 exact .inr (.inl rfl)
end Go.AM.SO
