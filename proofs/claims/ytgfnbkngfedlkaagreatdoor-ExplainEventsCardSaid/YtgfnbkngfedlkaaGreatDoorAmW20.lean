/- Lemmas on the way to ExplainEventsCardSaid. Conditions: none of ours. -/
import Derived.Shelf.Strings.OnBuilder
import Derived.Test.YtgfnbkngfedlkaaGreatDoorProg
import Derived.KernelRfl
import Derived.Test.YtgfnbkngfedlkaaGreatDoorAmW19
set_option linter.unusedSectionVars false
set_option maxHeartbeats 32000000
set_option maxRecDepth 100000
set_option linter.unusedVariables false
set_option linter.unusedSimpArgs false
namespace Go.Proofs
open Go.Shelf
def Tryz.Qlt:Go.Shelf.Ren:=⟨fun|156=>83|165=>148|166=>108|169=>109|240=>194|241=>222|276=>243|277=>266|n=>n,fun|31=>192|9=>9|3=>3|4=>4|0=>0|20=>20|72=>230|76=>234|70=>228|37=>70|75=>233|127=>323|164=>368|5=>5|80=>236|n=>n,fun|n=>n⟩
theorem Tryz.joinS:Go.Proofs.Lays.n156 Tryz.prog Tryz.Qlt:={
 mixed:=by kernel_rfl
 f156:=Tryz.func83.trans (congrArg some (by kernel_rfl))
 f165:=Tryz.func148.trans (congrArg some (by kernel_rfl))
 f166:=Tryz.func108.trans (congrArg some (by kernel_rfl))
 f169:=Tryz.func109.trans (congrArg some (by kernel_rfl))
 f240:=Tryz.func194.trans (congrArg some (by kernel_rfl))
 f241:=Tryz.func222.trans (congrArg some (by kernel_rfl))
 f276:=Tryz.func243.trans (congrArg some (by kernel_rfl))
 f277:=Tryz.func266.trans (congrArg some (by kernel_rfl))
 t0:=Tryz.underlying0
 a0:=Tryz.isAgg0
 z0:=Tryz.sizeOf0
 v0:=Tryz.zeroValue0
 t3:=Tryz.underlying3
 a3:=Tryz.isAgg3
 z3:=Tryz.sizeOf3
 v3:=Tryz.zeroValue3
 t4:=Tryz.underlying4
 a4:=Tryz.isAgg4
 z4:=Tryz.sizeOf4
 v4:=Tryz.zeroValue4
 t9:=Tryz.underlying9
 a9:=Tryz.isAgg9
 z9:=Tryz.sizeOf9
 v9:=Tryz.zeroValue9
 t20:=Tryz.underlying20
 a20:=Tryz.isAgg20
 z20:=Tryz.sizeOf20
 v20:=Tryz.zeroValue20
 t31:=Tryz.underlying192
 a31:=Tryz.isAgg192
 z31:=Tryz.sizeOf192
 v31:=Tryz.zeroValue192
 t37:=Tryz.underlying70
 a37:=Tryz.isAgg70
 z37:=Tryz.sizeOf70
 v37:=Tryz.zeroValue70
 t70:=Tryz.underlying228
 a70:=Tryz.isAgg228
 z70:=Tryz.sizeOf228
 v70:=Tryz.zeroValue228
 t72:=Tryz.underlying230
 a72:=Tryz.isAgg230
 z72:=Tryz.sizeOf230
 v72:=Tryz.zeroValue230
 t75:=Tryz.underlying233
 a75:=Tryz.isAgg233
 z75:=Tryz.sizeOf233
 v75:=Tryz.zeroValue233
 t76:=Tryz.underlying234
 a76:=Tryz.isAgg234
 z76:=Tryz.sizeOf234
 v76:=Tryz.zeroValue234
 t127:=Tryz.underlying323
 a127:=Tryz.isAgg323
 z127:=Tryz.sizeOf323
 v127:=Tryz.zeroValue323
 t164:=Tryz.underlying368
 a164:=Tryz.isAgg368
 z164:=Tryz.sizeOf368
 v164:=Tryz.zeroValue368}
theorem Tryz.joinX:Builder.Extra Tryz.prog Tryz.Qlt:={
 sizeBuilder:=by kernel_rfl
 liesBuilder:=by kernel_rfl
 t5:=Tryz.underlying5
 a5:=Tryz.isAgg5
 z5:=Tryz.sizeOf5
 v5:=Tryz.zeroValue5
 infoByte:=by kernel_rfl
 cellsByte:=by kernel_rfl
 sizeByte:=by kernel_rfl
 neB5:=by decide}
end Go.Proofs
namespace Go.AM.SO
open Go.Proofs
theorem Qnq{ok:Okc}{c:Ctx ok}{w:World}:∀{xs:List (List UInt8)}{vs:List Value},VPre c w (xs.map AV.str) vs->∀(j:Nat)x,xs[j]?=some x->vs[j]?=some (.string ⟨x.toArray⟩)|[],vs,_,j,x,a=>by simp at a|y::xs,vs,h,0,x,a=>by simp only[ZaJ,VPre,VRel]at h;obtain⟨v,b,rfl,rfl,_⟩:=h;simp only[Zbl,Zab]at a;subst a;rfl|y::xs,vs,h,j+1,x,a=>by simp only[ZaJ,VPre,VRel]at h;obtain⟨v,b,rfl,_,h⟩:=h;simp only[ZbJ]at a⊢;exact Qnq h j x a
theorem Qh4:∀xs:List (List UInt8),noRefs (xs.map AV.str)=true|[]=>rfl|x::xs=>by rw[ZaJ,noRefs,Qh4 xs];rfl
theorem call83:Callable Tryz.prog 83:=⟨_,Tryz.func83,by kernel_rfl,by kernel_rfl⟩
theorem join83(xs:List (List UInt8))(sep:List UInt8)(f:xs≠[])(L:xs.length<=1000)(K:(Lib.join xs sep).length<=1000000):Pq 83 [.fsl (xs.map AV.str) xs.length 1,.str sep] (.str (Lib.join xs sep)):=by
 refine⟨by rw[noRefs,noRef,Qh4];rfl,rfl,.e,call83,fun c w l H z=>?_⟩;simp only[VRels]at z;obtain⟨v1,A,t,h1,v2,B,rfl,p,rfl⟩:=z;have a:l=#[v1,v2]:=Array.toList_inj.1 (by rw[t]);subst a;simp only[VRel]at h1 p;subst p;rcases h1 with⟨_,h,_⟩|⟨o,off,cap,C,e,N,rfl,u,E,G,v,q⟩;·exact absurd (List.map_eq_nil_iff.1 h) f
 have hblk:=QaY v;have d:(xs.map fun x:List UInt8=>(⟨x.toArray⟩:ByteArray)).map (·.data.toList)=xs:=by
  rw[List.map_map];have:((fun x:ByteArray=>x.data.toList)∘fun x:List UInt8=>(⟨x.toArray⟩:ByteArray))=id:=by funext x;simp
  rw[this,List.map_id]
 have m:∀(j:Nat)x,(xs.map fun x:List UInt8=>(⟨x.toArray⟩:ByteArray))[j]?=some x->w.cell? ⟨o,off+j,none⟩=some (.string x):=by intro j x f;rw[ZaB]at f;cases s:xs[j]? with|none=>rw[s]at f;cases f|some y=>rw[s]at f;simp only[ZbC,Zab]at f;subst f;have:=Qnq q j y s;rw[ZbH]at this;simp only[World.cell?,v];simpa using this
 have g:=Any.strings_Join Tryz.joinS Tryz.joinX o off cap (xs.map fun x:List UInt8=>(⟨x.toArray⟩:ByteArray)) ⟨sep.toArray⟩ w m hblk (by rw[Zaz];omega) (by rw[Zaz];exact u) (by rw[d];simpa using(by omega:(Lib.join xs sep).length<=140737488355328));rw[d,Zaz]at g;refine Calls.mono g ?_;rintro J I⟨rfl,i⟩;refine⟨_,c,rfl,⟨i.os,i.tape,i.output,i.size,fun k C2 M r p=>⟨C2,r,by rw[i.block k (QaY p)];exact p,rfl⟩,fun k hk _=>i.block k hk,fun _ _ _ h=>h,fun _ h=>h,fun _ h=>.inl h,fun _ h=>.inl h,rfl⟩,⟨H.fresh,H.later,fun b x h=>(by cases h),H.inj,H.disj,fun o h=>ZaU (H.inF o h) i.size,fun o h=>ZaU (H.inO o h) i.size⟩,?_⟩;simp[VRel]
end Go.AM.SO
namespace Go.AM
namespace RX
def isTrue:AV->Bool|.bool true=>true|_=>false
theorem QgY:∀u,isTrue u=true->u=.bool true:=by
 intro u h;unfold isTrue at h;split at h;·rfl
 cases h
def kTrue(t:Nat):KcA Bool:=fun e T _ _=>match e with|.ret=>isTrue (lk T t)|_=>false
theorem QsU{t:Nat}{e:SX}{T:Tmps}{h:Heap}{n:Nat}(hk:kTrue t e T h n=true):e=.ret/\lk T t=.bool true:=by unfold kTrue at hk;cases e<;>simp only[Zao]at hk;exact⟨rfl,QgY _ hk⟩
def restC:FCode->FCode|.seq _ b=>b|c=>c
def hdC:FCode->FCode|.seq a _=>a|c=>c
variable{P:Program}
mutual def beqA:AV->AV->Bool
 |.int k a,v=>match v with|.int k' b=>decide (k=k')&&decide (a=b)|_=>false
 |.bool a,v=>match v with|.bool b=>a==b|_=>false
 |.str a,v=>match v with|.str b=>decide (a=b)|_=>false
 |.nilsl,v=>match v with|.nilsl=>true|_=>false
 |.agg a,v=>match v with|.agg b=>beqL a b|_=>false
 |.fsl a l s,v=>match v with|.fsl b l' s'=>beqL a b&&Nat.beq l l'&&Nat.beq s s'|_=>false
 |_,_=>false termination_by structural x=>x def beqL:List AV->List AV->Bool
 |[],v=>match v with|[]=>true|_=>false
 |x::xs,v=>match v with|y::ys=>beqA x y&&beqL xs ys|_=>false termination_by structural x=>x end
mutual theorem Qua:∀(x y:AV),beqA x y=true->x=y:=by intro x y h;cases x with|agg a=>cases y<;>simp[beqA]at h;rw[Qhq _ _ h]|fsl a l s=>cases y<;>simp[beqA]at h;obtain⟨⟨h1,rfl⟩,rfl⟩:=h;rw[Qhq _ _ h1]|int k a=>cases y<;>simp_all[beqA]|bool a=>cases y<;>simp_all[beqA]|str a=>cases y<;>simp_all[beqA]|nilsl=>cases y<;>simp_all[beqA]|_=>simp[beqA]at h theorem Qhq:∀(x y:List AV),beqL x y=true->x=y:=by intro x y h;cases x with|nil=>cases y<;>simp_all[beqL]|cons a r=>cases y with|nil=>simp[beqL]at h|cons b s=>simp only[beqL,Zaa]at h;rw[Qua _ _ h.1,Qhq _ _ h.2]end
def ansE:Ans Bool:=⟨false,fun x y b=>beqL x y&&b,fun b=>b=true⟩
theorem Qub:ansE.OK:=⟨fun h=>(by cases h),fun x y p h=>by have h:(beqL x y&&p)=true:=h;rw[Zaa]at h;exact⟨Qhq _ _ h.1,h.2⟩⟩
theorem Qhe{t:FT2}(g:t.OK P){orc:Orc}(ho:OrcOK P orc){N:NM}{d m:Nat}{c:FCode}{T:Tmps}{h:Heap}{Q:SX->St->Prop}(k:KcA Bool)(a:exR ansE orc t.get d c T h m k=true)(hk:∀e T h n,k e T h n=true->Q e ⟨T,h⟩):W2 P N c.slim Q ⟨T,h⟩:=by obtain⟨e,T',l,p,h1,i,_⟩:=QkB Qub ho (FT2.ok g) d N.n c T h m k a;exact(W2.of_W i).mono fun o B⟨b,f⟩=>by subst b;subst f;exact hk _ _ _ _ h1
end RX
end Go.AM
namespace Go.AM.EM
open Go.Proofs Go.AM.RX
noncomputable section
def F:FFn:=match ft.get 19 with|some f=>f|none=>⟨0,[],.skip⟩
theorem okF:Kq 19 F.slim=true:=FT2.ok ft_ok 19 F (by kernel_rfl)
theorem resF:F.res=[.tmp 0]:=by kernel_rfl
def c1:FCode:=hdC F.body
def c2:FCode:=hdC (restC F.body)
def c3:FCode:=hdC (restC (restC F.body))
def c4:FCode:=hdC (restC (restC (restC F.body)))
def cT:FCode:=restC (restC (restC (restC F.body)))
theorem F_is:F.body=.seq c1 (.seq c2 (.seq c3 (.seq c4 cT))):=by kernel_rfl
def w1:List (List UInt8):=[[108,101,97,100,115],[116,111,32,102,105,110,105,115,104,97,44,32,119,104,105,99,104,32,110,101,118,101,114,32,114,101,102,117,115,101,115]]
def w2:List (List UInt8):=[[108,101,97,100,115],[116,111,32,116,104,101,32,101,120,99,108,117,115,105,111,110,32,98,111,116,104]]
def j83(xs:List (List UInt8)):Orc:=fun g=>ifB (Nat.beq g 83) (some ([.fsl (xs.map AV.str) xs.length 1,.str [32]],.str (Lib.join xs [32]))) none
theorem QrM{xs:List (List UInt8)}(b:xs≠[])(a:xs.length<=1000)(c:(Lib.join xs [32]).length<=1000000):OrcOK Tryz.prog (j83 xs):=by
 intro k d w hk;unfold j83 at hk;simp only[QaE,ZbO]at hk;split at hk;·rename_i e;subst e;cases hk;exact SO.join83 xs [32] b a c
 cases hk
def k4:KcA Bool:=fun e T h k=>match e with|.normal=>exR ansE (j83 w2) ft.get 100000 cT T h k (kTrue 0)|_=>false
def k3:KcA Bool:=fun e T h k=>match e with|.normal=>exR ansE (j83 w2) ft.get 100000 c4 T h k k4|_=>false
def k2:KcA Bool:=fun e T h k=>match e with|.normal=>exR ansE (j83 w1) ft.get 100000 c3 T h k k3|_=>false
def k1:KcA Bool:=fun e T h k=>match e with|.normal=>exR ansE (j83 w1) ft.get 100000 c2 T h k k2|_=>false
theorem run:exR ansE (j83 w1) ft.get 100000 c1 [] .e 64 k1=true:=by kernel_rfl
theorem known19:Pq 19 [] (.bool true):=by have b:OrcOK Tryz.prog (j83 w1):=QrM (by decide) (by decide) (by decide);have c:OrcOK Tryz.prog (j83 w2):=QrM (by decide) (by decide) (by decide);refine PSpec.of_W2 okF (Zah _) rfl rfl ?_;show W2 Tryz.prog ⟨F.n,0⟩ F.body.slim (fun e B=>(e=.normal\/e=.ret)/\∃d,resV B.T B.h F.res=some d/\Rn 0 π0 B.h (.bool true) (resOf d)) ⟨[],.e⟩;rw[resF,F_is];refine W2.seq (Qhe ft_ok b _ run fun e T h k hk=>?_);cases e<;>simp only[k1,Zao]at hk;refine W2.seq (Qhe ft_ok b _ hk fun e T h k hk=>?_);cases e<;>simp only[k2,Zao]at hk;refine W2.seq (Qhe ft_ok b _ hk fun e T h k hk=>?_);cases e<;>simp only[k3,Zao]at hk;refine W2.seq (Qhe ft_ok c _ hk fun e T h k hk=>?_);cases e<;>simp only[k4,Zao]at hk;refine Qhe ft_ok c _ hk fun e T h k hk=>?_;obtain⟨rfl,a⟩:=QsU hk;refine⟨.inr rfl,[.bool true],?_,Zcq rfl⟩;show resV T h [.tmp 0]=_;rw[show resV T h [.tmp 0]=some [lk T 0]from rfl,a]
end
end Go.AM.EM
namespace Go.AM.SO
open Go.Proofs Go.AM.SD Go.AM.SE
theorem okl6:Kq 6 XL.s6=true:=XL.ok6
theorem QrN(d1:(Ty.sl (.int .u8)).D)(h1:(Ty.sl (.int .u8)).wf d1):∃w:List Nat,(∀x∈w,x<256)/\w.length<=9223372036854775807/\(Ty.sl (.int .u8)).val d1=.fsl (u8s w) w.length 1:=by
 obtain⟨f,c⟩:=h1;obtain⟨w,a,b,d⟩:=QbW (.arr (List.length d1) (.int .u8)) rfl d1 ⟨rfl,c⟩;have hlen:w.length=List.length d1:=by rw[a];exact Zcj _
 refine⟨w,b,by omega,?_⟩;show AV.fsl (List.flatMap (Ty.cells (.int .u8)) d1) (List.length d1) 1=_;rw[hlen,<-d];rfl
theorem law6_in(d0:tyPln.D)(d1:(Ty.sl (.int .u8)).D)(d2:(Ty.int .i64).D)(g:tyPln.wf d0)(h1:(Ty.sl (.int .u8)).wf d1)(h:(Ty.int .i64).wf d2):W2 Tryz.prog ⟨XL.s6.n,0⟩ XL.s6.body (fun e B=>(e=.normal\/e=.ret)/\resV B.T B.h XL.s6.res=some [.bool true]) ⟨argT 0 [tyPln.val d0,(Ty.sl (.int .u8)).val d1,(Ty.int .i64).val d2],.e⟩:=by obtain⟨p,hp,d,c⟩:=Qjp g;obtain⟨w,b,a,f⟩:=QrN d1 h1;rw[c,f];exact law6 EM.known19 p hp d w b a d2
end Go.AM.SO
