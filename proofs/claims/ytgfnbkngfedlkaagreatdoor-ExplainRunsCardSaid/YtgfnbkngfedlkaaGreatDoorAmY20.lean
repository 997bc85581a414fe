/- A part of the proof of ExplainEventsCardSaid: lemmas on the way (AnEi, AnEj, AmTx, AnEn, AnSx, AnSy, AnSz, AnTb, AnTa, AnTd, AnTf, AnTe, AnTg, AnTh, AnTi, AnTj, AnTk). Conditions: none of ours. -/
import Derived.Shelf.Strings.OnBuilder
import Derived.Test.YtgfnbkngfedlkaaGreatDoorProg
import Derived.KernelRfl
import Derived.Test.YtgfnbkngfedlkaaGreatDoorAmY19
set_option linter.unusedSectionVars false
set_option maxHeartbeats 32000000
set_option maxRecDepth 100000
set_option linter.unusedVariables false
set_option linter.unusedSimpArgs false
namespace Go.Proofs
open Go.Shelf
def Tryz.QlJ:Go.Shelf.Ren:=⟨fun|156=>83|165=>148|166=>108|169=>109|240=>194|241=>222|276=>243|277=>266|n=>n,fun|31=>192|9=>9|3=>3|4=>4|0=>0|20=>20|72=>230|76=>234|70=>228|37=>70|75=>233|127=>323|164=>368|5=>5|80=>236|n=>n,fun|n=>n⟩
theorem Tryz.joinS:Go.Proofs.Lays.n156 Tryz.prog Tryz.QlJ:={
 mixed:=by kernel_rfl
 f156:=Tryz.func83.trans (congrArg some (by kernel_rfl))
 f165:=Tryz.func148.trans (congrArg some (by kernel_rfl))
 f166:=Tryz.func108.trans (congrArg some (by kernel_rfl))
 f169:=Tryz.func109.trans (congrArg some (by kernel_rfl))
 f240:=Tryz.func194.trans (congrArg some (by kernel_rfl))
 f241:=Tryz.func222.trans (congrArg some (by kernel_rfl))
 f276:=Tryz.func243.trans (congrArg some (by kernel_rfl))
 f277:=Tryz.func266.trans (congrArg some (by kernel_rfl))
 t0:=Tryz.underlying0
 a0:=Tryz.isAgg0
 z0:=Tryz.sizeOf0
 v0:=Tryz.zeroValue0
 t3:=Tryz.underlying3
 a3:=Tryz.isAgg3
 z3:=Tryz.sizeOf3
 v3:=Tryz.zeroValue3
 t4:=Tryz.underlying4
 a4:=Tryz.isAgg4
 z4:=Tryz.sizeOf4
 v4:=Tryz.zeroValue4
 t9:=Tryz.underlying9
 a9:=Tryz.isAgg9
 z9:=Tryz.sizeOf9
 v9:=Tryz.zeroValue9
 t20:=Tryz.underlying20
 a20:=Tryz.isAgg20
 z20:=Tryz.sizeOf20
 v20:=Tryz.zeroValue20
 t31:=Tryz.underlying192
 a31:=Tryz.isAgg192
 z31:=Tryz.sizeOf192
 v31:=Tryz.zeroValue192
 t37:=Tryz.underlying70
 a37:=Tryz.isAgg70
 z37:=Tryz.sizeOf70
 v37:=Tryz.zeroValue70
 t70:=Tryz.underlying228
 a70:=Tryz.isAgg228
 z70:=Tryz.sizeOf228
 v70:=Tryz.zeroValue228
 t72:=Tryz.underlying230
 a72:=Tryz.isAgg230
 z72:=Tryz.sizeOf230
 v72:=Tryz.zeroValue230
 t75:=Tryz.underlying233
 a75:=Tryz.isAgg233
 z75:=Tryz.sizeOf233
 v75:=Tryz.zeroValue233
 t76:=Tryz.underlying234
 a76:=Tryz.isAgg234
 z76:=Tryz.sizeOf234
 v76:=Tryz.zeroValue234
 t127:=Tryz.underlying323
 a127:=Tryz.isAgg323
 z127:=Tryz.sizeOf323
 v127:=Tryz.zeroValue323
 t164:=Tryz.underlying368
 a164:=Tryz.isAgg368
 z164:=Tryz.sizeOf368
 v164:=Tryz.zeroValue368}
theorem Tryz.joinX:Builder.Extra Tryz.prog Tryz.QlJ:={
 sizeBuilder:=by kernel_rfl
 liesBuilder:=by kernel_rfl
 t5:=Tryz.underlying5
 a5:=Tryz.isAgg5
 z5:=Tryz.sizeOf5
 v5:=Tryz.zeroValue5
 infoByte:=by kernel_rfl
 cellsByte:=by kernel_rfl
 sizeByte:=by kernel_rfl
 neB5:=by decide}
end Go.Proofs
namespace Go.AM.SO
open Go.Proofs
theorem QiS{ok:Okc}{c:Ctx ok}{w:World}:∀{xs:List (List UInt8)}{vs:List Value},VPre c w (xs.map AV.str) vs->∀(j:Nat)x,xs[j]?=some x->vs[j]?=some (.string ⟨x.toArray⟩)|[],vs,_,j,x,a=>by simp at a|y::xs,vs,h,0,x,a=>by simp only[ZaO,VPre,VRel]at h;obtain⟨v,b,rfl,rfl,_⟩:=h;simp only[Zbn,Zab]at a;subst a;rfl|y::xs,vs,h,j+1,x,a=>by simp only[ZaO,VPre,VRel]at h;obtain⟨v,b,rfl,_,h⟩:=h;simp only[ZbO]at a⊢;exact QiS h j x a
theorem Qbp:∀xs:List (List UInt8),noRefs (xs.map AV.str)=true|[]=>rfl|x::xs=>by rw[ZaO,noRefs,Qbp xs];rfl
theorem call83:Callable Tryz.prog 83:=⟨_,Tryz.func83,by kernel_rfl,by kernel_rfl⟩
theorem join83(xs:List (List UInt8))(sep:List UInt8)(f:xs≠[])(L:xs.length<=1000)(K:(Lib.join xs sep).length<=1000000):PSpec Tryz.prog 83 [.fsl (xs.map AV.str) xs.length 1,.str sep] (.str (Lib.join xs sep)):=by
 refine⟨by rw[noRefs,noRef,Qbp];rfl,rfl,.e,call83,fun c w l H z=>?_⟩;simp only[VRels]at z;obtain⟨v1,A,t,h1,v2,B,rfl,p,rfl⟩:=z;have a:l=#[v1,v2]:=Array.toList_inj.1 (by rw[t]);subst a;simp only[VRel]at h1 p;subst p;rcases h1 with⟨_,h,_⟩|⟨o,off,cap,C,e,N,rfl,u,E,G,v,q⟩;·exact absurd (List.map_eq_nil_iff.1 h) f
 have hblk:=QaT v;have d:(xs.map fun x:List UInt8=>(⟨x.toArray⟩:ByteArray)).map (·.data.toList)=xs:=by
  rw[List.map_map];have:((fun x:ByteArray=>x.data.toList)∘fun x:List UInt8=>(⟨x.toArray⟩:ByteArray))=id:=by funext x;simp
  rw[this,List.map_id]
 have m:∀(j:Nat)x,(xs.map fun x:List UInt8=>(⟨x.toArray⟩:ByteArray))[j]?=some x->w.cell? ⟨o,off+j,none⟩=some (.string x):=by intro j x f;rw[ZaD]at f;cases s:xs[j]? with|none=>rw[s]at f;cases f|some y=>rw[s]at f;simp only[ZbD,Zab]at f;subst f;have:=QiS q j y s;rw[ZbJ]at this;simp only[World.cell?,v];simpa using this
 have g:=Any.strings_Join Tryz.joinS Tryz.joinX o off cap (xs.map fun x:List UInt8=>(⟨x.toArray⟩:ByteArray)) ⟨sep.toArray⟩ w m hblk (by rw[Zaz];omega) (by rw[Zaz];exact u) (by rw[d];simpa using(by omega:(Lib.join xs sep).length<=140737488355328));rw[d,Zaz]at g;refine Calls.mono g ?_;rintro J I⟨rfl,i⟩;refine⟨_,c,rfl,⟨i.os,i.tape,i.output,i.size,fun k C2 M r p=>⟨C2,r,by rw[i.block k (QaT p)];exact p,rfl⟩,fun k hk _=>i.block k hk,fun _ _ _ h=>h,fun _ h=>h,fun _ h=>.inl h,fun _ h=>.inl h,rfl⟩,⟨H.fresh,H.later,fun b x h=>(by cases h),H.inj,H.disj,fun o h=>ZaS (H.inF o h) i.size,fun o h=>ZaS (H.inO o h) i.size⟩,?_⟩;simp[VRel]
end Go.AM.SO
namespace Go.AM
namespace RX
def isTrue:AV->Bool|.bool true=>true|_=>false
theorem Qhd:∀u,isTrue u=true->u=.bool true:=by
 intro u h;unfold isTrue at h;split at h;·rfl
 cases h
def kTrue(t:Nat):KcA Bool:=fun e T _ _=>match e with|.ret=>isTrue (lk T t)|_=>false
theorem Qti{t:Nat}{e:SX}{T:Tmps}{h:Heap}{n:Nat}(hk:kTrue t e T h n=true):e=.ret/\lk T t=.bool true:=by unfold kTrue at hk;cases e<;>simp only[Zap]at hk;exact⟨rfl,Qhd _ hk⟩
def restC:FCode->FCode|.seq _ b=>b|c=>c
def hdC:FCode->FCode|.seq a _=>a|c=>c
variable{P:Program}
mutual def beqA:AV->AV->Bool
 |.int k a,v=>match v with|.int k' b=>decide (k=k')&&decide (a=b)|_=>false
 |.bool a,v=>match v with|.bool b=>a==b|_=>false
 |.str a,v=>match v with|.str b=>decide (a=b)|_=>false
 |.nilsl,v=>match v with|.nilsl=>true|_=>false
 |.agg a,v=>match v with|.agg b=>beqL a b|_=>false
 |.fsl a l s,v=>match v with|.fsl b l' s'=>beqL a b&&Nat.beq l l'&&Nat.beq s s'|_=>false
 |_,_=>false termination_by structural x=>x def beqL:List AV->List AV->Bool
 |[],v=>match v with|[]=>true|_=>false
 |x::xs,v=>match v with|y::ys=>beqA x y&&beqL xs ys|_=>false termination_by structural x=>x end
mutual theorem Quy:∀(x y:AV),beqA x y=true->x=y:=by intro x y h;cases x with|agg a=>cases y<;>simp[beqA]at h;rw[QhC _ _ h]|fsl a l s=>cases y<;>simp[beqA]at h;obtain⟨⟨h1,rfl⟩,rfl⟩:=h;rw[QhC _ _ h1]|int k a=>cases y<;>simp_all[beqA]|bool a=>cases y<;>simp_all[beqA]|str a=>cases y<;>simp_all[beqA]|nilsl=>cases y<;>simp_all[beqA]|_=>simp[beqA]at h theorem QhC:∀(x y:List AV),beqL x y=true->x=y:=by intro x y h;cases x with|nil=>cases y<;>simp_all[beqL]|cons a r=>cases y with|nil=>simp[beqL]at h|cons b s=>simp only[beqL,Zaa]at h;rw[Quy _ _ h.1,QhC _ _ h.2]end
def ansE:Ans Bool:=⟨false,fun x y b=>beqL x y&&b,fun b=>b=true⟩
theorem Quz:ansE.OK:=⟨fun h=>(by cases h),fun x y p h=>by have h:(beqL x y&&p)=true:=h;rw[Zaa]at h;exact⟨QhC _ _ h.1,h.2⟩⟩
theorem Qhr{t:FT2}(g:t.OK P){orc:Orc}(ho:OrcOK P orc){N:NM}{d m:Nat}{c:FCode}{T:Tmps}{h:Heap}{Q:SX->St->Prop}(k:KcA Bool)(a:exR ansE orc t.get d c T h m k=true)(hk:∀e T h n,k e T h n=true->Q e ⟨T,h⟩):W2 P N c.slim Q ⟨T,h⟩:=by obtain⟨e,T',l,p,h1,i,_⟩:=QkQ Quz ho (FT2.ok g) d N.n c T h m k a;exact(W2.of_W i).mono fun o B⟨b,f⟩=>by subst b;subst f;exact hk _ _ _ _ h1
end RX
end Go.AM
namespace Go.AM.EM
open Go.Proofs Go.AM.RX
noncomputable section
def F:FFn:=match ft.get 19 with|some f=>f|none=>⟨0,[],.skip⟩
theorem okF:okFn Tryz.prog 19 F.slim=true:=FT2.ok ft_ok 19 F (by kernel_rfl)
theorem resF:F.res=[.tmp 0]:=by kernel_rfl
def c1:FCode:=hdC F.body
def c2:FCode:=hdC (restC F.body)
def c3:FCode:=hdC (restC (restC F.body))
def c4:FCode:=hdC (restC (restC (restC F.body)))
def cT:FCode:=restC (restC (restC (restC F.body)))
theorem F_is:F.body=.seq c1 (.seq c2 (.seq c3 (.seq c4 cT))):=by kernel_rfl
def w1:List (List UInt8):=[[108,101,97,100,115],[116,111,32,102,105,110,105,115,104,97,44,32,119,104,105,99,104,32,110,101,118,101,114,32,114,101,102,117,115,101,115]]
def w2:List (List UInt8):=[[108,101,97,100,115],[116,111,32,116,104,101,32,101,120,99,108,117,115,105,111,110,32,98,111,116,104]]
def j83(xs:List (List UInt8)):Orc:=fun g=>ifB (Nat.beq g 83) (some ([.fsl (xs.map AV.str) xs.length 1,.str [32]],.str (Lib.join xs [32]))) none
theorem Qr9{xs:List (List UInt8)}(b:xs≠[])(a:xs.length<=1000)(c:(Lib.join xs [32]).length<=1000000):OrcOK Tryz.prog (j83 xs):=by
 intro k d w hk;unfold j83 at hk;simp only[QaF,ZbV]at hk;split at hk;·rename_i e;subst e;cases hk;exact SO.join83 xs [32] b a c
 cases hk
def k4:KcA Bool:=fun e T h k=>match e with|.normal=>exR ansE (j83 w2) ft.get 100000 cT T h k (kTrue 0)|_=>false
def k3:KcA Bool:=fun e T h k=>match e with|.normal=>exR ansE (j83 w2) ft.get 100000 c4 T h k k4|_=>false
def k2:KcA Bool:=fun e T h k=>match e with|.normal=>exR ansE (j83 w1) ft.get 100000 c3 T h k k3|_=>false
def k1:KcA Bool:=fun e T h k=>match e with|.normal=>exR ansE (j83 w1) ft.get 100000 c2 T h k k2|_=>false
theorem run:exR ansE (j83 w1) ft.get 100000 c1 [] .e 64 k1=true:=by kernel_rfl
theorem known19:PSpec Tryz.prog 19 [] (.bool true):=by have b:OrcOK Tryz.prog (j83 w1):=Qr9 (by decide) (by decide) (by decide);have c:OrcOK Tryz.prog (j83 w2):=Qr9 (by decide) (by decide) (by decide);refine PSpec.of_W2 okF (Zah _) rfl rfl ?_;show W2 Tryz.prog ⟨F.n,0⟩ F.body.slim (fun e B=>(e=.normal\/e=.ret)/\∃d,resV B.T B.h F.res=some d/\Rn 0 π0 B.h (.bool true) (resOf d)) ⟨[],.e⟩;rw[resF,F_is];refine W2.seq (Qhr ft_ok b _ run fun e T h k hk=>?_);cases e<;>simp only[k1,Zap]at hk;refine W2.seq (Qhr ft_ok b _ hk fun e T h k hk=>?_);cases e<;>simp only[k2,Zap]at hk;refine W2.seq (Qhr ft_ok b _ hk fun e T h k hk=>?_);cases e<;>simp only[k3,Zap]at hk;refine W2.seq (Qhr ft_ok c _ hk fun e T h k hk=>?_);cases e<;>simp only[k4,Zap]at hk;refine Qhr ft_ok c _ hk fun e T h k hk=>?_;obtain⟨rfl,a⟩:=Qti hk;refine⟨.inr rfl,[.bool true],?_,Zct rfl⟩;show resV T h [.tmp 0]=_;rw[show resV T h [.tmp 0]=some [lk T 0]from rfl,a]
end
end Go.AM.EM
namespace Go.AM.SO
open Go.Proofs Go.AM.SD Go.AM.SE
end Go.AM.SO
namespace Go.AM.SO
open Go.Proofs Go.AM.SD Go.AM.SE
end Go.AM.SO
namespace Go.AM.SO
open Go.Proofs Go.AM.SD Go.AM.SE
end Go.AM.SO
namespace Go.AM.SO
open Go.Proofs Go.AM.SD Go.AM.SE
abbrev Yes(k:SFn)(vs:List AV):Prop:=W2 Tryz.prog ⟨k.n,0⟩ k.body (fun e B=>(e=.normal\/e=.ret)/\resV B.T B.h k.res=some [.bool true]) ⟨argT 0 vs,.e⟩
end Go.AM.SO
namespace Go.AM.SO
open Go.Proofs Go.AM.SD Go.AM.SE
structure RunOk(q:Aut)(u:List Nat)(R:List Rm)(s:Nat)(rn:List Nat)(t:Nat):Prop where
 len:rn.length<=1000000
 fin:runE q s rn=t
 path:∀i,i<rn.length->∃y e,remAt R (runE q s (rn.take i))=some y/\y.reason=2/\rn[i]?=some e/\e∈u/\e∈q.al/\stepA q.es (runE q s (rn.take i)) e=some (runE q s (rn.take (i+1)))sh:∀k,k<rn.length->∀t',rchK q u k s t'->badS R t'=false
theorem QuA(c:Cel)(h:WfCel c){y:Rm}(g:y∈(resC c).rem):∃(a:List Nat)(t:Nat)(z:Rm)(rs:Nat×Int×Int×Int),PSpec Tryz.prog 23 [celV c,.int .i64 (y.st:Int)] (.tup [expV ⟨4,y.st,y.st,-1,a,t,z,rs⟩,.int .i64 0])/\(z.reason=1\/z.reason=3)/\RunOk (spQ c) (uncL c.ev 5) (resC c).rem y.st a t:=by
 have hw:=wfA_c c h;have f:=Qct c h;have d:=(f.st y g).1;have hm:=Qcp f.nd g;have b:=state23K c h d;rw[hm]at b;dsimp only at b;obtain⟨a,t,i⟩:=Qfa hw f g;obtain⟨⟨z,p,z2,z3⟩,m,q,r⟩:=QlE hw f g i;have k:=Qfb (F:=forbC c) (s:=y.st) (u:=uncL c.ev 5) (R:=(resC c).rem) hw d;have e:leadsX c y.st y.st=ldx (resC c).rem (forbC c) y.st y.st a t:=by unfold leadsX leadsG;rw[i]
 have l:leadsG (syncA (allA c)) (uncL c.ev 5) (resC c).rem (forbC c) y.st y.st=ldx (resC c).rem (forbC c) y.st y.st a t:=by unfold leadsG;rw[i]
 rw[l]at k;rw[e]at b;have o:rmD (resC c).rem t=z:=by unfold rmD;rw[<-z2,Qcp f.nd p];rfl
 unfold ldx at b;rw[o]at b;exact⟨a,t,z,_,b,z3,⟨k,m,q,r⟩⟩
theorem Qtj{a:Aut}{u:List Nat}{k s t:Nat}(h:WfA a)(hk:rchK a u k s t){x:Ed}(c:x∈a.es)(h1:x.1=t)(hu:x.2.1∈u):rchK a u (k+1) s x.2.2:=by have b:=QdL h.es c;rw[h1]at b;exact⟨t,hk,x.2.1,ZaM.2 ⟨h.ev x c,by simp[b,hu]⟩,by unfold toA;rw[b];rfl⟩
def Now(a:Aut)(u:List Nat)(k s:Nat)(l:List Nat):Prop:=l.Nodup/\∀t∈l,t<a.n/\rchK a u k s t
theorem Now.len{a:Aut}{u:List Nat}{k s:Nat}{l:List Nat}(h:Now a u k s l):l.length<=a.n:=QaN a.n l h.1 fun t b=>(h.2 t b).1
theorem Now.nil{a:Aut}{u:List Nat}{k s:Nat}:Now a u k s []:=⟨List.nodup_nil,fun t b=>by cases b⟩
theorem Now.one{a:Aut}{u:List Nat}{s:Nat}(h:s<a.n):Now a u 0 s [s]:=⟨by simp,fun t b=>by obtain rfl:=ZaL.1 b;exact⟨h,rfl⟩⟩
theorem Now.add{a:Aut}{u:List Nat}{k s t:Nat}{l:List Nat}(h:Now a u k s l)(h1:t<a.n)(d:rchK a u k s t)(g:l.contains t=false):Now a u k s (l++[t]):=by
 have c:t∉l:=by simpa using g
 refine⟨ZbR.2 ⟨h.1,by simp,fun x b y f=>by obtain rfl:=ZaL.1 f;exact fun e=>c (e▸b)⟩,fun x b=>?_⟩;rcases Zay.1 b with b|b;·exact h.2 x b
 obtain rfl:=ZaL.1 b;exact⟨h1,d⟩
theorem law10(hK:PSpec Tryz.prog 19 [] (.bool true))(p:Pln)(h:POk p)(hxn:p.xn<=9223372036854775807):W2 Tryz.prog ⟨XL.s10.n,0⟩ XL.s10.body (fun e B=>(e=.normal\/e=.ret)/\resV B.T B.h XL.s10.res=some [.bool true]) ⟨argT 0 [plnV p],.e⟩:=by
 refine(Zcw (n:=40) (Q:=fun e T h _=>(e=.normal\/e=.ret)/\resV T h XL.s10.res=some [.bool true]) (show wS Tryz.prog ⟨XL.s10.n,0⟩ XL.s10.body [] 40 _ _ _ from ?_)).mono fun e B⟨_,h⟩=>h;have hlen:=SU.QcA h;have R:=SU.QcB h;have hS:PSpec Tryz.prog 32 [.agg (plnC p)] (.bool (decide (p.xn<=4))):=short25 p h hxn;have hM:PSpec Tryz.prog 33 [.agg (plnC p)] (.tup [.agg (wldC (mkC p)),.bool true]):=begin33 p h;have hw:=@Qd6 p;have K:(plnC p).take 152=plnC p:=by rw[<-hlen,Zao]
 show wS _ _ _ _ _ (argT 0 [.agg (plnC p)]) _ _;generalize plnC p=C at*;generalize mkC p=c at*;by_cases h4:p.xn<=4
 ·rw[decide_eq_true h4]at hS;have hQ:WfA (spQ c):=wfA_c c hw;have hq5:=spQ_5 c hw;have hR:RemOk (spQ c) (uncL c.ev 5) (leftC c) (resC c).rem:=Qct c hw;have hrl:=(QeZ c hw).rl;have hX:=fun y(hy:y∈(resC c).rem)=>QuA c hw hy;have hV:=fun s=>removalW c hw s;have hun:∀e,e<5->(e∈uncL c.ev 5↔(c.ev e).c=false):=fun e he=>by
   unfold uncL;rw[ZaM,Zat];constructor;·rintro⟨_,h2⟩;simpa using h2
   intro h2;exact⟨he,by simp[h2]⟩
  rw[QcT]at hM hV;generalize leftC c=left at*;generalize uncL c.ev 5=u at*;generalize resC c=r at*;generalize spQ c=q at*;generalize spA c (sync0 (allA c)).1=A at*;generalize spB c (sync0 (allA c)).1=B at*;generalize spP c (sync0 (auL c.cs)).1 (sync0 (allA c)).1=X at*;generalize forb c (sync0 (allA c)).1.length=F at*;have a:=@nrW c q A B X F r;have hel:=WfA.el1 hQ;have hn5:=hQ.n5;have b:=Qk3 r.rem;have I:=Qah q.es;have hSt:=fun(v e:Nat)=>step38 q v e (by omega);unfold XL.s10;refine Zc1 (Zc7 hlen R K) ?_;refine cp hK ?_;refine Zc1 (Zc6 hlen K) ?_;refine cp hS ?_;refine Zc1 (Zc6 hlen K) ?_;refine cp hM ?_;refine Zc0 ?_;refine Qap 160 (fun i:Nat=>[(3,.ptr 50 0 0),(40,rms r.rem),(41,.int .i64 r.rem.length),(42,.int .i64 i)]) (fun _=>[(50,.cells 0 (wldP c q A B X F r))]) (fun i=>i<=r.rem.length) (fun i=>r.rem.length-i) 0 0 300 (fun _:Unit=>[]) (fun _=>[]) (fun _=>True) ?_ (Zah _) ?_ ?_;·exact⟨[(50,.blk 54 0)],rfl,ZcB,ZcF rfl rfl gg (Zcv a) ZcE,ZcD (Rn.x2 rfl rfl) (ZcD (Zct b) au29)⟩
  ·rintro i hi;by_cases Y:i<r.rem.length
   ·obtain⟨y,hy⟩:=Qao Y;have L:=QfI hy;have M:4<=((r.rem.flatMap rmC).drop (i*4)).length:=by rw[L];simp
    obtain⟨d,t,z,rs,hE,hz,hO⟩:=hX y (Zac hy);have hyn:=(hR.st y (Zac hy)).1;refine Zc1 (Zc7 Y L M) ?_;refine cp hE ?_;refine Zc0 ?_;have hl6:=hO.len;have hrn:=Qae d;refine Qap 200 (fun j:Nat=>[(3,.ptr 50 0 0),(40,rms r.rem),(41,.int .i64 r.rem.length),(42,.int .i64 i),(6,.ptr 51 0 0),(7,.ptr 52 0 0),(9,.int .i64 (runE q y.st (d.take j):Int)),(59,sliN d),(60,.int .i64 d.length),(61,.int .i64 j)]) (fun _=>[(50,.cells 0 (wldP c q A B X F r)),(51,.cells 0 (rmC y)),(52,.cells 0 (expC ⟨4,y.st,y.st,-1,d,t,z,rs⟩))]) (fun j=>j<=d.length) (fun j=>d.length-j) 0 2 250 (fun _:Unit=>[(3,.ptr 50 0 0),(40,rms r.rem),(41,.int .i64 r.rem.length),(42,.int .i64 i),(6,.ptr 51 0 0),(7,.ptr 52 0 0),(9,.int .i64 (t:Int))]) (fun _=>[(50,.cells 0 (wldP c q A B X F r)),(51,.cells 0 (rmC y)),(52,.cells 0 (expC ⟨4,y.st,y.st,-1,d,t,z,rs⟩))]) (fun _=>True) ?_ (Zah _) ?_ ?_;·exact⟨[(50,.blk 50 0),(51,.blk 163 0),(52,.blk 173 0)],rfl,ZcB,ZcF rfl rfl gg (Zcv a) (ZcF rfl rfl gg (Zcv rfl) (ZcF rfl rfl gg (Zcv (Qa7 _)) ZcE)),ZcD (Rn.x2 rfl rfl) (ZcD (Zct b) (ZcD (Zct rfl) (ZcD (Zct rfl) (ZcD (Rn.x2 rfl rfl) (ZcD (Rn.x2 rfl rfl) (ZcD (Zct rfl) (ZcD (Zct hrn) au29)))))))⟩
    ·rintro j hj;by_cases G:j<d.length
     ·obtain⟨z',e,p1,p2,p3,p4,p5,p6⟩:=hO.path j G;have hde:=Qaz p3;have g:=hq5 e p5;have hec:=(hun e g).1 p4;have o:=hV (runE q y.st (d.take j));have hS1:=hSt (runE q y.st (d.take j)) e;rw[Qey,p6]at hS1;unfold rmD at o;rw[p1]at o;dsimp only[Option.getD,Option.isSome]at o hS1;generalize runE q y.st (d.take j)=m at*;generalize hm':runE q y.st (d.take (j+1))=m' at*;obtain⟨zs,zk,zr,ze⟩:=z';dsimp only at p2;subst p2;have he5':(e:Int)<5:=by omega
      have L:=@QbX c.ev e g;rw[evC]at L;refine Zc1 (Zc6 G hde) ?_;refine cp o ?_;have S:¬(5:Int)<=(e:Int):=by omega
      have hne0:¬(e:Int)<0:=by omega
      simp(disch:=first|omega|exact PairsOK.mk rfl|(simp only[lenW]<;>omega))only[rmV,rmC,S,hne0,g,Qb0,L,hec,Qaa,Qab,Qac,wW,wV,simprocAttr];refine cp hS1 ?_;have hm0:¬(m':Int)<0:=by omega
      refine Zc1 hm0 ?_;refine⟨j+1,by omega,by omega,?_⟩;rw[hm'];exact⟨[(50,.blk 50 0),(51,.blk 51 0),(52,.blk 52 0)],rfl,ZcB,ZcF rfl rfl gg (Zcv a) (ZcF rfl rfl gg (Zcv rfl) (ZcF rfl rfl gg (Zcv (Qa7 _)) ZcE)),ZcD (Rn.x2 rfl rfl) (ZcD (Zct b) (ZcD (Zct rfl) (ZcD (Zct rfl) (ZcD (Rn.x2 rfl rfl) (ZcD (Rn.x2 rfl rfl) (ZcD (Zct rfl) (ZcD (Zct hrn) au29)))))))⟩
     have e:j=d.length:=by omega
     subst e;rw[Zao,hO.fin];refine Zc0 ?_;refine⟨(),?_⟩;exact⟨[(50,.blk 50 0),(51,.blk 51 0),(52,.blk 52 0)],rfl,ZcB,ZcF rfl rfl gg (Zcv a) (ZcF rfl rfl gg (Zcv rfl) (ZcF rfl rfl gg (Zcv (Qa7 _)) ZcE)),ZcD (Rn.x2 rfl rfl) (ZcD (Zct b) (ZcD (Zct rfl) (ZcD (Zct rfl) (ZcD (Rn.x2 rfl rfl) (ZcD (Rn.x2 rfl rfl) (ZcD (Zct rfl) ZcC))))))⟩
    rintro _ _;obtain⟨z0,z1,z2,z3⟩:=z;dsimp only at hz;rcases hz with rfl|rfl;all_goals
     simp(disch:=first|omega|exact PairsOK.mk rfl|(simp only[lenW]<;>omega))only[rmC,Qaa,Qab,Qac,wW,wV,simprocAttr];refine Qap 400 (fun s:Nat×List Nat=>[(3,.ptr 50 0 0),(40,rms r.rem),(41,.int .i64 r.rem.length),(42,.int .i64 i),(14,.sl 61 0 0 s.2.length 1),(129,.int .i64 d.length),(130,.int .i64 s.1)]) (fun s=>[(50,.cells 0 (wldP c q A B X F r)),(61,.cells 0 (ints (nz s.2)))]) (fun s=>s.1<=d.length/\Now q u s.1 y.st s.2) (fun s=>d.length-s.1) (0,[y.st]) 4 450 (fun _:Unit=>[(3,.ptr 50 0 0),(40,rms r.rem),(41,.int .i64 r.rem.length),(42,.int .i64 i)]) (fun _=>[(50,.cells 0 (wldP c q A B X F r))]) (fun _=>True) ?_ ⟨Zah _,Now.one hyn⟩ ?_ ?_;·exact⟨[(50,.blk 50 0),(61,.blk 268 0)],rfl,ZcB,ZcF rfl rfl gg (Zcv a) (ZcF rfl rfl gg (Zcv rfl) ZcE),ZcD (Rn.x2 rfl rfl) (ZcD (Zct b) (ZcD (Zct rfl) (ZcD (Zct rfl) (ZcD (Rn.x1 rfl rfl) au29))))⟩
     ·rintro⟨k,l⟩⟨hk,hN⟩;simp only at hk hN;have hll:=hN.len;have hc1:(ints (nz l)).length=l.length:=by simp[ints]
      by_cases U:k<d.length
      ·refine Zc1 (Zc6 U hc1) ?_;refine Qap 500 (fun s:Nat×List Nat=>[(3,.ptr 50 0 0),(40,rms r.rem),(41,.int .i64 r.rem.length),(42,.int .i64 i),(129,.int .i64 d.length),(130,.int .i64 k),(15,.sl 62 0 0 s.2.length 1),(132,.sl 61 0 0 l.length 1),(133,.int .i64 l.length),(134,.int .i64 s.1)]) (fun s=>[(50,.cells 0 (wldP c q A B X F r)),(61,.cells 0 (ints (nz l))),(62,.cells 0 (ints (nz s.2)))]) (fun s=>s.1<=l.length/\Now q u (k+1) y.st s.2) (fun s=>l.length-s.1) (0,[]) 6 550 (fun m:List Nat=>[(3,.ptr 50 0 0),(40,rms r.rem),(41,.int .i64 r.rem.length),(42,.int .i64 i),(129,.int .i64 d.length),(130,.int .i64 k),(15,.sl 62 0 0 m.length 1)]) (fun m=>[(50,.cells 0 (wldP c q A B X F r)),(62,.cells 0 (ints (nz m)))]) (fun m=>Now q u (k+1) y.st m) ?_ ⟨Zah _,Now.nil⟩ ?_ ?_;·exact⟨[(50,.blk 50 0),(61,.blk 61 0),(62,.nil)],rfl,ZcB,ZcF rfl rfl gg (Zcv a) (ZcF rfl rfl gg (Zcv (Qad _)) (ZcG rfl rfl ZcE)),ZcD (Rn.x2 rfl rfl) (ZcD (Zct b) (ZcD (Zct rfl) (ZcD (Zct rfl) (ZcD (Zct rfl) (ZcD (Zct rfl) (ZcD (Rn.x4 rfl rfl) (ZcD (Rn.x1 rfl rfl) au29)))))))⟩
       ·rintro⟨j,m⟩⟨hj,w⟩;simp only at hj w;have hml:=w.len;have V:(ints (nz m)).length=m.length:=by simp[ints]
        by_cases G:j<l.length
        ·obtain⟨E,ht'⟩:=Qao G;have hdt:(ints (nz l))[j]?=some (.int .i64 (E:Int)):=by simp[ints,nz,ht']
         obtain⟨htn,Q⟩:=hN.2 E (Zac ht');have hsh:=hO.sh k U E Q;have o:=hV E;have hbs:(remAt r.rem E).isSome=false\/((remAt r.rem E).isSome=true/\(rmD r.rem E).reason=2):=by unfold badS at hsh;unfold rmD;cases hra:remAt r.rem E with|none=>exact .inl rfl|some x=>rw[hra]at hsh;exact .inr ⟨rfl,by simpa using hsh⟩
         obtain⟨zs,zk,zr,ze,hzz⟩:∃zs zk zr ze,rmD r.rem E=⟨zs,zk,zr,ze⟩:=⟨_,_,_,_,rfl⟩;rw[hzz]at o hbs;dsimp only at hbs;refine Zc1 (Zc7 G hdt hc1) ?_;refine cp o ?_;rcases hbs with hb|⟨hb,rfl⟩;all_goals
          simp(disch:=first|omega|exact PairsOK.mk rfl|(simp only[lenW]<;>omega))only[hb,rmV,rmC,Qaa,Qab,Qac,wW,wV,simprocAttr];refine Qap 600 (fun s:Nat×List Nat=>[(3,.ptr 50 0 0),(40,rms r.rem),(41,.int .i64 r.rem.length),(42,.int .i64 i),(129,.int .i64 d.length),(130,.int .i64 k),(15,.sl 62 0 0 s.2.length 1),(132,.sl 61 0 0 l.length 1),(133,.int .i64 l.length),(134,.int .i64 j),(17,.int .i64 E),(153,egsN q.es),(154,.int .i64 q.es.length),(155,.int .i64 s.1)]) (fun s=>[(50,.cells 0 (wldP c q A B X F r)),(61,.cells 0 (ints (nz l))),(62,.cells 0 (ints (nz s.2)))]) (fun s=>s.1<=q.es.length/\Now q u (k+1) y.st s.2) (fun s=>q.es.length-s.1) (0,m) 8 650 (fun m:List Nat=>[(3,.ptr 50 0 0),(40,rms r.rem),(41,.int .i64 r.rem.length),(42,.int .i64 i),(129,.int .i64 d.length),(130,.int .i64 k),(15,.sl 62 0 0 m.length 1),(132,.sl 61 0 0 l.length 1),(133,.int .i64 l.length),(134,.int .i64 j)]) (fun m=>[(50,.cells 0 (wldP c q A B X F r)),(61,.cells 0 (ints (nz l))),(62,.cells 0 (ints (nz m)))]) (fun m=>Now q u (k+1) y.st m) ?_ ⟨Zah _,w⟩ ?_ ?_;·exact⟨[(50,.blk 50 0),(61,.blk 61 0),(62,.blk 62 0)],rfl,ZcB,ZcF rfl rfl gg (Zcv a) (ZcF rfl rfl gg (Zcv (Qad _)) (ZcF rfl rfl gg (Zcv (Qad _)) ZcE)),ZcD (Rn.x2 rfl rfl) (ZcD (Zct b) (ZcD (Zct rfl) (ZcD (Zct rfl) (ZcD (Zct rfl) (ZcD (Zct rfl) (ZcD (Rn.x1 rfl rfl) (ZcD (Rn.x1 rfl rfl) (ZcD (Zct rfl) (ZcD (Zct rfl) (ZcD (Zct rfl) (ZcD (Zct I) au29)))))))))))⟩
          ·rintro⟨i2,m⟩⟨hi2,f⟩;simp only at hi2 f;have hml:=f.len;have V:(ints (nz m)).length=m.length:=by simp[ints]
           by_cases H:i2<q.es.length
           ·obtain⟨x,hx⟩:=Qao H;have N:=QaJ hx;have Z:=Zac hx;have M:3<=((q.es.flatMap edC).drop (i2*3)).length:=by rw[N];simp
            have g:=hq5 _ (hQ.ev x Z);have S:¬(5:Int)<=(x.2.1:Int):=by omega
            have J:=@QbX c.ev x.2.1 g;rw[evC]at J;by_cases hxt:x.1=E
            ·have P:(x.1:Int)=(E:Int):=by omega
             cases hcc:(c.ev x.2.1).c with|true=>refine Zc1 (Zdc H N M P g @Qb0 J hcc) ?_;refine⟨(i2+1,m),by simp;omega,⟨by simp;omega,f⟩,?_⟩;exact⟨[(50,.blk 50 0),(61,.blk 61 0),(62,.blk 62 0)],rfl,ZcB,ZcF rfl rfl gg (Zcv a) (ZcF rfl rfl gg (Zcv (Qad _)) (ZcF rfl rfl gg (Zcv (Qad _)) ZcE)),ZcD (Rn.x2 rfl rfl) (ZcD (Zct b) (ZcD (Zct rfl) (ZcD (Zct rfl) (ZcD (Zct rfl) (ZcD (Zct rfl) (ZcD (Rn.x1 rfl rfl) (ZcD (Rn.x1 rfl rfl) (ZcD (Zct rfl) (ZcD (Zct rfl) (ZcD (Zct rfl) (ZcD (Zct I) au29)))))))))))⟩|false=>have hC:=contains39 m x.2.2 (by have:=hQ.n5;omega);refine Zc1 (Zdc H N M P g @Qb0 J hcc) ?_;refine ch (ZcQ (ZcT (FrzTo.all gg (by rw[ZbI];exact V)) (ZcT (Zcz _) ZcS)) hC rfl) ?_;cases hmc:m.contains x.2.2 with|true=>refine Zc0 ?_;refine⟨(i2+1,m),by simp;omega,⟨by simp;omega,f⟩,?_⟩;exact⟨[(50,.blk 50 0),(61,.blk 61 0),(62,.blk 62 0)],rfl,ZcB,ZcF rfl rfl gg (Zcv a) (ZcF rfl rfl gg (Zcv (Qad _)) (ZcF rfl rfl gg (Zcv (Qad _)) ZcE)),ZcD (Rn.x2 rfl rfl) (ZcD (Zct b) (ZcD (Zct rfl) (ZcD (Zct rfl) (ZcD (Zct rfl) (ZcD (Zct rfl) (ZcD (Rn.x1 rfl rfl) (ZcD (Rn.x1 rfl rfl) (ZcD (Zct rfl) (ZcD (Zct rfl) (ZcD (Zct rfl) (ZcD (Zct I) au29)))))))))))⟩|false=>refine Zc1 V ?_;refine⟨(i2+1,m++[x.2.2]),by simp;omega,⟨by simp;omega,f.add (hQ.esn x Z).2 (Qtj hQ Q Z hxt ((hun _ g).2 hcc)) hmc⟩,?_⟩;show Rec _ _ _ _ _;rw[QaD,Qay,Zae];exact⟨[(50,.blk 50 0),(61,.blk 61 0),(62,.blk 62 1)],rfl,ZcB,ZcF rfl rfl gg (Zcv a) (ZcF rfl rfl gg (Zcv (Qad _)) (ZcF rfl rfl gg (Zcv (SU.Qau (Qad _) rfl)) ZcE)),ZcD (Rn.x2 rfl rfl) (ZcD (Zct b) (ZcD (Zct rfl) (ZcD (Zct rfl) (ZcD (Zct rfl) (ZcD (Zct rfl) (ZcD (Rn.x1 rfl rfl) (ZcD (Rn.x1 rfl rfl) (ZcD (Zct rfl) (ZcD (Zct rfl) (ZcD (Zct rfl) (ZcD (Zct I) au29)))))))))))⟩
            have P:¬(x.1:Int)=(E:Int):=by omega
            refine Zc1 (Zc8 H N M P) ?_;refine⟨(i2+1,m),by simp;omega,⟨by simp;omega,f⟩,?_⟩;exact⟨[(50,.blk 50 0),(61,.blk 61 0),(62,.blk 62 0)],rfl,ZcB,ZcF rfl rfl gg (Zcv a) (ZcF rfl rfl gg (Zcv (Qad _)) (ZcF rfl rfl gg (Zcv (Qad _)) ZcE)),ZcD (Rn.x2 rfl rfl) (ZcD (Zct b) (ZcD (Zct rfl) (ZcD (Zct rfl) (ZcD (Zct rfl) (ZcD (Zct rfl) (ZcD (Rn.x1 rfl rfl) (ZcD (Rn.x1 rfl rfl) (ZcD (Zct rfl) (ZcD (Zct rfl) (ZcD (Zct rfl) (ZcD (Zct I) au29)))))))))))⟩
           refine Zc1 H ?_;refine⟨m,?_⟩;exact⟨f,[(50,.blk 50 0),(61,.blk 61 0),(62,.blk 62 0)],rfl,ZcB,ZcF rfl rfl gg (Zcv a) (ZcF rfl rfl gg (Zcv (Qad _)) (ZcF rfl rfl gg (Zcv (Qad _)) ZcE)),ZcD (Rn.x2 rfl rfl) (ZcD (Zct b) (ZcD (Zct rfl) (ZcD (Zct rfl) (ZcD (Zct rfl) (ZcD (Zct rfl) (ZcD (Rn.x1 rfl rfl) (ZcD (Rn.x1 rfl rfl) (ZcD (Zct rfl) (ZcD (Zct rfl) ZcC)))))))))⟩
          rintro m f;have hml:=f.len;refine Zc0 ?_;refine⟨(j+1,m),by simp;omega,⟨by simp;omega,f⟩,?_⟩;exact⟨[(50,.blk 50 0),(61,.blk 61 0),(62,.blk 62 0)],rfl,ZcB,ZcF rfl rfl gg (Zcv a) (ZcF rfl rfl gg (Zcv (Qad _)) (ZcF rfl rfl gg (Zcv (Qad _)) ZcE)),ZcD (Rn.x2 rfl rfl) (ZcD (Zct b) (ZcD (Zct rfl) (ZcD (Zct rfl) (ZcD (Zct rfl) (ZcD (Zct rfl) (ZcD (Rn.x1 rfl rfl) (ZcD (Rn.x1 rfl rfl) au29)))))))⟩
        refine Zc1 G ?_;refine⟨m,?_⟩;exact⟨w,[(50,.blk 50 0),(62,.blk 62 0)],rfl,ZcB,ZcF rfl rfl gg (Zcv a) (ZcF rfl rfl gg (Zcv (Qad _)) ZcE),ZcD (Rn.x2 rfl rfl) (ZcD (Zct b) (ZcD (Zct rfl) (ZcD (Zct rfl) (ZcD (Zct rfl) (ZcD (Zct rfl) (ZcD (Rn.x1 rfl rfl) ZcC))))))⟩
       rintro m w;have hml:=w.len;refine Zc0 ?_;refine⟨(k+1,m),by simp;omega,⟨by simp;omega,w⟩,?_⟩;exact⟨[(50,.blk 50 0),(61,.blk 62 0)],rfl,ZcB,ZcF rfl rfl gg (Zcv a) (ZcF rfl rfl gg (Zcv (Qad _)) ZcE),ZcD (Rn.x2 rfl rfl) (ZcD (Zct b) (ZcD (Zct rfl) (ZcD (Zct rfl) (ZcD (Rn.x1 rfl rfl) au29))))⟩
      refine Zc1 U ?_;refine⟨(),?_⟩;exact⟨[(50,.blk 50 0)],rfl,ZcB,ZcF rfl rfl gg (Zcv a) ZcE,ZcD (Rn.x2 rfl rfl) (ZcD (Zct b) (ZcD (Zct rfl) (ZcD (Zct rfl) ZcC)))⟩
     rintro _ _;refine Zc0 ?_;refine⟨i+1,by omega,by omega,?_⟩;exact⟨[(50,.blk 50 0)],rfl,ZcB,ZcF rfl rfl gg (Zcv a) ZcE,ZcD (Rn.x2 rfl rfl) (ZcD (Zct b) (ZcD (Zct rfl) (ZcD (Zct rfl) au29)))⟩
   refine Zc1 Y ?_;exact⟨(),[],rfl,ZcB,ZcE,ZcC⟩
  rintro _ _;refine Zc0 ?_;exact⟨.inr trivial,rfl⟩
 rw[decide_eq_false h4]at hS;unfold XL.s10;refine Zc1 (Zc7 hlen R K) ?_;refine cp hK ?_;refine Zc1 (Zc6 hlen K) ?_;refine cp hS ?_;refine Zc0 ?_;refine cp hK ?_;refine Zc0 ?_;exact⟨.inr trivial,rfl⟩
end Go.AM.SO
namespace Go.AM.SO
open Go.Proofs Go.AM.SD Go.AM.SE
end Go.AM.SO
namespace Go.Proofs
open Go.Shelf
end Go.Proofs
namespace Go.AM.SO
open Go.Proofs Go.AM.SD Go.AM.SE
end Go.AM.SO
namespace Go.AM.SO
open Go.Proofs Go.AM.SD Go.AM.SE
end Go.AM.SO
namespace Go.AM.SO
open Go.Proofs Go.AM.SD Go.AM.SE
theorem okl10:okFn Tryz.prog 10 XL.s10=true:=XL.ok10
theorem law10_in(d0:tyPln.D)(c:tyPln.wf d0):Yes XL.s10 [tyPln.val d0]:=by obtain⟨p,hp,a,b⟩:=QeX c;rw[b];exact law10 EM.known19 p hp a
end Go.AM.SO
namespace Go.AM.XT
open Go.Proofs
set_option maxHeartbeats 4000000
noncomputable section
end
end Go.AM.XT
namespace Go.AM.SO
open Go.Proofs Go.AM.SD Go.AM.SE
end Go.AM.SO
namespace Go.AM.SO
open Go.Proofs Go.AM.SD Go.AM.SE
end Go.AM.SO
namespace Go.AM.SO
open Go.Proofs Go.AM.SD Go.AM.SE
end Go.AM.SO
