/- A part of the proof of GuardsOfCardSaid: lemmas on the way (AnQg, AnWm, AnWn). Conditions: none of ours. -/
import Derived.KernelRfl
import Derived.Test.YtikknocmfjfohaaGreatDoorAmO17
import Derived.Test.YtikknocmfjfohaaGreatDoorAmO19
set_option linter.unusedSectionVars false
set_option maxHeartbeats 32000000
set_option maxRecDepth 100000
set_option linter.unusedVariables false
set_option linter.unusedSimpArgs false
namespace Go.AM.SO
open Go.Proofs Go.AM.SD Go.AM.SE
theorem sameBxR124(a)(g:a.length<=1000000)(hS:∀x∈a,x.lo.length<=1000000/\x.hi.length<=1000000):Ps 124 [bxsV a,bxsV a] (.bool true):=by
 refine Zcn 64 (Ok UK.s124) rfl (by simp only[noRefs,noRef,Qau];rfl) rfl ?_;unfold UK.s124;refine ZcY ?_;refine QaC 100 (fun i:Nat=>[(0,bxsV a),(1,bxsV a),(5,.int .i64 i)]) (fun _=>[]) (fun i=>i<=a.length) (fun i=>a.length-i) 0 ⟨[],rfl,au0,au42,au41⟩ (Zai _) ?_;rintro i hi;by_cases b:i<a.length
 ·obtain⟨x,f⟩:=Qak b;have c:=Qfl f;have d:2<=((a.flatMap bxC).drop (i*2)).length:=by rw[c];simp
  have hm:=hS x (Zac f);have q1:=sameInts x.lo x.lo (by omega);have q2:=sameInts x.hi x.hi (by omega);rw[decide_eq_true rfl]at q1 q2;refine ZcZ (Zc3 b c d) ?_;refine cp q1 ?_;refine ZcZ (Zc3 b c d) ?_;refine cp q2 ?_;refine ZcY ?_;exact⟨i+1,by omega,by omega,⟨[],rfl,au0,au42,au41⟩⟩
 refine ZcZ b ?_;exact⟨.inr trivial,_,rfl,rfl⟩
theorem sameBxR54(a)(b:a.length<=1000000)(hS:∀x∈a,x.lo.length<=1000000/\x.hi.length<=1000000):Ps 54 [bxsV a,bxsV a] (.bool true):=by have h1:=sameBxR124 a b hS;refine Zcn 64 (Ok UK.s54) rfl (by simp only[noRefs,noRef,Qau];rfl) rfl ?_;unfold UK.s54;refine ZcY ?_;refine cp h1 ?_;refine ZcY ?_;exact⟨.inr trivial,_,rfl,rfl⟩
theorem sameR16(a)(h:a.length<=1000000)(hS:∀g∈a,g.bs.length<=1000000/\∀x∈g.bs,x.lo.length<=1000000/\x.hi.length<=1000000):Ps 16 [gdsV a,gdsV a] (.bool true):=by
 refine Zcn 64 (Ok UK.s16) rfl (by simp only[noRefs,noRef,QaO];rfl) rfl ?_;unfold UK.s16;refine ZcY ?_;refine QaC 100 (fun i:Nat=>[(0,gdsV a),(1,gdsV a),(5,.int .i64 i)]) (fun _=>[]) (fun i=>i<=a.length) (fun i=>a.length-i) 0 ⟨[],rfl,au0,au42,au41⟩ (Zai _) ?_;rintro i hi;by_cases b:i<a.length
 ·obtain⟨x,f⟩:=Qak b;have c:=QtU f;have d:2<=((a.flatMap gdC).drop (i*2)).length:=by rw[c];simp
  have hm:=hS x (Zac f);have q1:=sameBxR54 x.bs hm.1 hm.2;refine ZcZ (Zc3 b c d) ?_;refine cp q1 ?_;refine ZcY ?_;exact⟨i+1,by omega,by omega,⟨[],rfl,au0,au42,au41⟩⟩
 refine ZcZ b ?_;exact⟨.inr trivial,_,rfl,rfl⟩
theorem vars11(c)(h:WfCel c):Ps 11 [celV c] (.tup [vrsV (vrsL c),.int .i64 0]):=by have b:=first44 c h;have a:=Qbv c;refine Zcm 64 (Ok WA.s11) rfl (by rw[noRefs,SU.Qa0];rfl) (by simp only[noRef,noRefs,Qay];rfl) ?_;unfold WA.s11;refine ZcY ?_;refine cp b ?_;refine ZcY ?_;exact⟨.inr trivial,_,rfl,Zck (by simp only[noRef,noRefs,Qay];rfl)⟩
theorem law3(p)(h:POk p)(J:p.xn<=9223372036854775807):W2 Tryz.prog ⟨WA.s3.n,0⟩ WA.s3.body (fun e B=>(e=.normal\/e=.ret)/\resV B.T B.h WA.s3.res=some [.bool true]) ⟨argT 0 [plnV p],.e⟩:=by
 refine(wpC.toW (n:=40) (Q:=fun e T h _=>(e=.normal\/e=.ret)/\resV T h WA.s3.res=some [.bool true]) (show wS Tryz.prog ⟨WA.s3.n,0⟩ WA.s3.body [] 40 _ _ _ from ?_)).mono fun e B⟨_,h⟩=>h;have m:=GJ.known29;have hlen:=SU.QjV h;have b:=SU.QjW h;have F:=@SU.Qec p;have K:=short25 p h J;have M:=SU.Make26 p h;have hw:=@Qvg p;have a:(plnC p).take 152=plnC p:=by rw[<-hlen,Zan]
 show wS _ _ _ _ _ (argT 0 [.agg (plnC p)]) _ _;have d:Ps 9 [.agg (plnC p)] (.bool (decide (p.xn<=4))):=K;have z:Ps 42 [.agg (plnC p)] (celV (mkC p)):=M;clear K M;generalize plnC p=C at*;generalize mkC p=c at*;have H:=small10 c hw C hlen b F z;by_cases L:p.xn<=4
 ·rw[decide_eq_true L]at d;have hO:=open15 c hw;have A:=cell22 c hw;rw[spC,spG]at A;have P:=Qp5 c hw;have f:=Qbv c;have t:=vars11 c hw;have q:=vars12 c hw;have O:(vrsL c).length<=5:=Qfs hw;have n:=QvS hw;have k:=sameR16 (expC c) (by have:=n.len;omega) fun g o=>⟨by have:=n.bl g o;omega,fun x E=>by obtain⟨Q,b2,_⟩:=n.bx g o x E;omega⟩;have G:=guards13 c hw;have I:=guards13N c hw;generalize expC c=X at*;generalize N:vrsL c=v at*;unfold WA.s3;refine ZcZ (Zc3 hlen b a) ?_;refine cp m ?_;refine ZcZ (Zc2 hlen a) ?_;refine cp d ?_;refine ZcZ (Zc2 hlen a) ?_;refine cp H ?_;refine ZcY ?_;refine cp t ?_;refine ZcY ?_;refine cp q ?_;refine ZcY ?_;refine QaC 120 (fun i:Nat=>[(3,.ptr 50 0 0),(5,vrsV v),(7,vrsV v),(8,.int .i64 i)]) (fun _=>[(50,.cells 0 (ceCl c))]) (fun i=>i<=v.length) (fun i=>v.length-i) 0 ?_ (Zai _) ?_;·refine⟨[(50,.blk 54 0)],rfl,au0,?_,au41⟩;exact Zcw rfl rfl gg (Zcl f) Zcv
  rintro i hi;by_cases l:i<v.length
  ·obtain⟨x,E⟩:=Qak l;have r:=Qb0 E;have s:4<=((v.flatMap vrC).drop (i*4)).length:=by rw[r];simp
   have w:aEq (.flat true [.s,.i,.i,.i]) true (.agg [.str x.1,.int .i64 0,.int .i64 x.2,.int .i64 0]) (.agg [.str x.1,.int .i64 0,.int .i64 x.2,.int .i64 0])=some (.bool false):=by simp[aEq,eqCells,eqCell]
   refine ZcZ (Zc4 l r s w) ?_;refine⟨i+1,by omega,by omega,?_⟩;refine⟨[(50,.blk 50 0)],rfl,au0,?_,au41⟩;exact Zcw rfl rfl gg (Zcl f) Zcv
  refine ZcZ l ?_;by_cases u:(resC c).sup.n=0
  ·have y:((resC c).sup.n:Int)=0:=by omega
   have o:=I u;refine cp o ?_;refine ZcY ?_;refine cp A ?_;refine ZcY ?_;refine cp hO ?_;refine ZcZ (Zc2 u y) ?_;exact⟨.inr trivial,rfl⟩
  have y:¬((resC c).sup.n:Int)=0:=by omega
  have o:=G u;refine cp o ?_;refine ZcY ?_;refine cp A ?_;refine ZcY ?_;refine cp hO ?_;refine ZcZ (Zc2 u y) ?_;refine cp P ?_;refine ZcY ?_;refine cp k ?_;refine ZcY ?_;exact⟨.inr trivial,rfl⟩
 rw[decide_eq_false L]at d;unfold WA.s3;refine ZcZ (Zc3 hlen b a) ?_;refine cp m ?_;refine ZcZ (Zc2 hlen a) ?_;refine cp d ?_;refine ZcY ?_;refine cp m ?_;refine ZcY ?_;exact⟨.inr trivial,rfl⟩
theorem okg3:okFn Tryz.prog 3 WA.s3=true:=(Ok WA.s3)
theorem glaw3_in(d0)(c:tyPln.wf d0):W2 Tryz.prog ⟨WA.s3.n,0⟩ WA.s3.body (fun e B=>(e=.normal\/e=.ret)/\resV B.T B.h WA.s3.res=some [.bool true]) ⟨argT 0 [tyPln.val d0],.e⟩:=by obtain⟨p,hp,a,b⟩:=QvI c;rw[b];exact law3 p hp a
end Go.AM.SO
