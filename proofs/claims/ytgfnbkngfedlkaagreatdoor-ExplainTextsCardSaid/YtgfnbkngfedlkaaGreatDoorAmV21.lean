/- A part of the proof of ExplainEventsCardSaid: lemmas on the way (AnTl, AnTo). Conditions: none of ours. -/
import Derived.Test.YtgfnbkngfedlkaaGreatDoorAmV20
set_option linter.unusedSectionVars false
set_option maxHeartbeats 32000000
set_option maxRecDepth 100000
set_option linter.unusedVariables false
set_option linter.unusedSimpArgs false
namespace Go.AM.SO
open Go.Proofs Go.AM.SD Go.AM.SE
theorem Qki(s:List UInt8):aBin .neq (.str s) (.str s)=some (.bool false):=by simp[aBin]
theorem Qp3(c:Cel)(h:WfCel c){y:Rm}(d:y∈(resC c).rem):∃(x:Exp)(s:List UInt8),PSpec Tryz.prog 23 [celV c,.int .i64 (y.st:Int)] (.tup [expV x,.int .i64 0])/\PSpec Tryz.prog 27 [celV c,expV x] (.tup [.str s,.int .i64 0])/\∀(q:Aut)(TA TB:List (List Nat))(X:List Nat)(F:List (Nat×Int×Int×Int))(r:Res),PSpec Tryz.prog 42 [.agg (wldP c q TA TB X F r),expV x] (.str s):=by have b:=Qct c h;have hm:=Qcp b.nd d;have a:=state23K c h (b.st y d).1;rw[hm]at a;dsimp only at a;obtain⟨s,h1,f⟩:=texts c h (leadsX c y.st y.st) (.inr (.inr (.inr (QlK c h y.st hm))));exact⟨_,s,a,h1,f⟩
theorem law9(I:PSpec Tryz.prog 19 [] (.bool true))(p:Pln)(h:POk p)(hxn:p.xn<=9223372036854775807)(w:List Nat)(U:∀x∈w,x<256)(hwl:w.length<=9223372036854775807)(ev:Nat)(hev:ev<256):W2 Tryz.prog ⟨XT.s9.n,0⟩ XT.s9.body (fun e B=>(e=.normal\/e=.ret)/\resV B.T B.h XT.s9.res=some [.bool true]) ⟨argT 0 [plnV p,.fsl (u8s w) w.length 1,.int .u8 (ev:Int)],.e⟩:=by
 refine(Zcw (n:=40) (Q:=fun e T h _=>(e=.normal\/e=.ret)/\resV T h XT.s9.res=some [.bool true]) (show wS Tryz.prog ⟨XT.s9.n,0⟩ XT.s9.body [] 40 _ _ _ from ?_)).mono fun e B⟨_,h⟩=>h;have hlen:=SU.QcA h;have f:=SU.QcB h;have J:PSpec Tryz.prog 32 [.agg (plnC p)] (.bool (decide (p.xn<=4))):=short25 p h hxn;have hM:PSpec Tryz.prog 33 [.agg (plnC p)] (.tup [.agg (wldC (mkC p)),.bool true]):=begin33 p h;have hw:=@Qd6 p;have a:(plnC p).take 152=plnC p:=by rw[<-hlen,Zao]
 have hnw:=QaG w;show wS _ _ _ _ _ (argT 0 [.agg (plnC p),.fsl (u8s w) w.length 1,.int .u8 (ev:Int)]) _ _;generalize plnC p=C at*;generalize mkC p=c at*;by_cases h4:p.xn<=4
 ·rw[decide_eq_true h4]at J;by_cases Y:(8:Int)<w.length;·unfold XT.s9;refine Zc1 (Zc7 hlen f a) ?_;refine cp I ?_;refine Zc1 (Zc6 hlen a) ?_;refine cp J ?_;refine Zc1 Y ?_;refine cp I ?_;refine Zc0 ?_;exact⟨.inr trivial,rfl⟩
  have g:=walkW c hw w U (by omega);have hX:=fun y(E:y∈(resC c).rem)=>Qp3 c hw E;have hrl:=(QeZ c hw).rl;rw[QcT]at hM g;have u:=Qk3 (resC c).rem;by_cases S:(resC c).sup.n=0
  ·have V:wkO (resC c) w=([],0):=by unfold wkO;rw[if_pos S]
   rw[V]at g;have G:¬(0:Int)<((resC c).sup.n:Int):=by omega
   generalize resC c=r at*;generalize spQ c=q at*;generalize spA c (sync0 (allA c)).1=A at*;generalize spB c (sync0 (allA c)).1=B at*;generalize spP c (sync0 (auL c.cs)).1 (sync0 (allA c)).1=X at*;generalize forb c (sync0 (allA c)).1.length=F at*;have d:=@nrW c q A B X F r;unfold XT.s9;refine Zc1 (Zc7 hlen f a) ?_;refine cp I ?_;refine Zc1 (Zc6 hlen a) ?_;refine cp J ?_;refine Zc1 (Zc7 Y hlen a) ?_;refine cp hM ?_;refine Zc0 ?_;refine cp g ?_;refine Zc1 G ?_;refine Qap 300 (fun i:Nat=>[(7,.ptr 50 0 0),(89,rms r.rem),(90,.int .i64 r.rem.length),(91,.int .i64 i)]) (fun _=>[(50,.cells 0 (wldP c q A B X F r))]) (fun i=>i<=r.rem.length) (fun i=>r.rem.length-i) 0 0 500 (fun _:Unit=>[(7,.ptr 50 0 0)]) (fun _=>[(50,.cells 0 (wldP c q A B X F r))]) (fun _=>True) ?_ (Zah _) ?_ ?_;·exact⟨[(50,.blk 59 0)],rfl,ZcB,ZcF rfl rfl gg (Zcv d) ZcE,ZcD (Rn.x2 rfl rfl) (ZcD (Zct u) au29)⟩
   ·rintro i hi;by_cases b:i<r.rem.length
    ·obtain⟨y,E⟩:=Qao b;have l:=QfI E;have H:4<=((r.rem.flatMap rmC).drop (i*4)).length:=by rw[l];simp
     obtain⟨x,s,Q,P,K⟩:=hX y (Zac E);have m:=K q A B X F r;have L:=Qa7 x;refine Zc1 (Zc7 b l H) ?_;refine cp Q ?_;refine Zc0 ?_;refine cp P ?_;refine Zc0 ?_;refine cp m ?_;refine Zc5 (Zc8 @Qki @Qaa @Qab @Qac) ?_;refine⟨i+1,by omega,by omega,?_⟩;exact⟨[(50,.blk 50 0)],rfl,ZcB,ZcF rfl rfl gg (Zcv d) ZcE,ZcD (Rn.x2 rfl rfl) (ZcD (Zct u) au29)⟩
    refine Zc1 b ?_;refine⟨(),?_⟩;exact⟨[(50,.blk 50 0)],rfl,ZcB,ZcF rfl rfl gg (Zcv d) ZcE,ZcD (Rn.x2 rfl rfl) ZcC⟩
   rintro _ _;refine Zc0 ?_;exact⟨.inr trivial,rfl⟩
  obtain⟨t,z,o,R⟩:=wk_ok c hw w S;obtain⟨W1,v,M⟩:∃W1 v,wkO (resC c) w=(W1,v):=⟨_,_,rfl⟩;rw[M]at g z o R;dsimp only at g z o R;have Z:ev%5<5:=Zce _ (by decide);have N:aBin .rem (.int .i64 (ev:Int)) (.int .i64 5)=some (.int .i64 ((ev%5:Nat):Int)):=Qhc (y:=5) (by decide);have Q:=event22K c hw W1 (by omega) z S o Z;obtain⟨s,P,K⟩:=texts c hw (eventX c v (ev%5)) (Qsc c hw v (ev%5));have G:(0:Int)<((resC c).sup.n:Int):=by omega
  clear z o M S;generalize ev%5=k at*;generalize eventX c v k=x at*;generalize resC c=r at*;generalize spQ c=q at*;generalize spA c (sync0 (allA c)).1=A at*;generalize spB c (sync0 (allA c)).1=B at*;generalize spP c (sync0 (auL c.cs)).1 (sync0 (allA c)).1=X at*;generalize forb c (sync0 (allA c)).1.length=F at*;have d:=@nrW c q A B X F r;have m:=K q A B X F r;have L:=Qa7 x;unfold XT.s9;refine Zc1 (Zc7 hlen f a) ?_;refine cp I ?_;refine Zc1 (Zc6 hlen a) ?_;refine cp J ?_;refine Zc1 (Zc7 Y hlen a) ?_;refine cp hM ?_;refine Zc0 ?_;refine cp g ?_;refine Zc1 G ?_;refine Qbj [] rfl rfl ?_;refine Zc1 N ?_;refine cp Q ?_;refine Zc0 ?_;refine⟨trivial,?_⟩;refine cp P ?_;refine Zc0 ?_;refine cp m ?_;refine Zc5 (Zc8 @Qki @Qaa @Qab @Qac) ?_;refine Qap 300 (fun i:Nat=>[(7,.ptr 50 0 0),(89,rms r.rem),(90,.int .i64 r.rem.length),(91,.int .i64 i)]) (fun _=>[(50,.cells 0 (wldP c q A B X F r))]) (fun i=>i<=r.rem.length) (fun i=>r.rem.length-i) 0 0 500 (fun _:Unit=>[(7,.ptr 50 0 0)]) (fun _=>[(50,.cells 0 (wldP c q A B X F r))]) (fun _=>True) ?_ (Zah _) ?_ ?_;·exact⟨[(50,.blk 59 0)],rfl,ZcB,ZcF rfl rfl gg (Zcv d) ZcE,ZcD (Rn.x2 rfl rfl) (ZcD (Zct u) au29)⟩
  ·rintro i hi;by_cases b:i<r.rem.length
   ·obtain⟨y,E⟩:=Qao b;have l:=QfI E;have H:4<=((r.rem.flatMap rmC).drop (i*4)).length:=by rw[l];simp
    obtain⟨x,s,Q,P,K⟩:=hX y (Zac E);have m:=K q A B X F r;have L:=Qa7 x;refine Zc1 (Zc7 b l H) ?_;refine cp Q ?_;refine Zc0 ?_;refine cp P ?_;refine Zc0 ?_;refine cp m ?_;refine Zc5 (Zc8 @Qki @Qaa @Qab @Qac) ?_;refine⟨i+1,by omega,by omega,?_⟩;exact⟨[(50,.blk 50 0)],rfl,ZcB,ZcF rfl rfl gg (Zcv d) ZcE,ZcD (Rn.x2 rfl rfl) (ZcD (Zct u) au29)⟩
   refine Zc1 b ?_;refine⟨(),?_⟩;exact⟨[(50,.blk 50 0)],rfl,ZcB,ZcF rfl rfl gg (Zcv d) ZcE,ZcD (Rn.x2 rfl rfl) ZcC⟩
  rintro _ _;refine Zc0 ?_;exact⟨.inr trivial,rfl⟩
 rw[decide_eq_false h4]at J;unfold XT.s9;refine Zc1 (Zc7 hlen f a) ?_;refine cp I ?_;refine Zc1 (Zc6 hlen a) ?_;refine cp J ?_;refine Zc0 ?_;refine cp I ?_;refine Zc0 ?_;exact⟨.inr trivial,rfl⟩
end Go.AM.SO
namespace Go.AM.SO
open Go.Proofs Go.AM.SD Go.AM.SE
theorem okl9:okFn Tryz.prog 9 XT.s9=true:=XT.ok9
theorem u8_in(d2:(Ty.int .u8).D)(c:(Ty.int .u8).wf d2):∃x:Nat,x<256/\(Ty.int .u8).val d2=.int .u8 (x:Int):=by obtain⟨l,a,b,c1⟩:=QbW (.int .u8) rfl _ c;obtain⟨x,rfl⟩:∃x,l=[x]:=List.length_eq_one_iff.mp a;have:[(Ty.int .u8).val d2]=[.int .u8 (x:Int)]:=c1;exact⟨x,b x (by simp),List.head_eq_of_cons_eq this⟩
theorem law9_in(d0:tyPln.D)(d1:(Ty.sl (.int .u8)).D)(d2:(Ty.int .u8).D)(k:tyPln.wf d0)(h1:(Ty.sl (.int .u8)).wf d1)(c:(Ty.int .u8).wf d2):Yes XT.s9 [tyPln.val d0,(Ty.sl (.int .u8)).val d1,(Ty.int .u8).val d2]:=by obtain⟨p,hp,d,f⟩:=QeX k;obtain⟨w,b,a,i⟩:=QnH d1 h1;obtain⟨x,g,h⟩:=u8_in d2 c;rw[f,i,h];exact law9 EM.known19 p hp d w b a x g
end Go.AM.SO
