/- A part of the proof of ExplainEventsCardSaid: lemmas on the way (AnGr, AnGt, AnGu, AnSc, AnOe, AnCzg, AnOf, AnGv, AnGw, AmTp, AnHc, AnHd, AnRy, AnOg, AnSd, AnSe, AnHg, AnHj, AnHm, AnOi, AnSf). Conditions: none of ours. -/
import Derived.Test.YtgfnbkngfedlkaaGreatDoorProg
import Derived.KernelRfl
import Derived.Test.YtgfnbkngfedlkaaGreatDoorAmX15
set_option linter.unusedSectionVars false
set_option maxHeartbeats 32000000
set_option maxRecDepth 100000
set_option linter.unusedVariables false
set_option linter.unusedSimpArgs false
namespace Go.AM.SO
open Go.Proofs Go.AM.SD Go.AM.SE
theorem auto69H{ch:UInt8}(l:List (Nat×Aut))(k:l.length<=1000):HSpec Tryz.prog 59 [its ch l] .e (.sl 60 0 0 l.length 4) (hp [(60,.cells 0 ((auL l).flatMap auC))]):=by
 refine HSpec.Qb9 100 TP.ok59 rfl ?_;have h:=@SU.QaC ch l;unfold TP.s59;refine Zc0 ?_;refine Qap 100 (fun i:Nat=>[(3,.sl 60 0 0 i 4),(6,its ch l),(7,.int .i64 l.length),(8,.int .i64 i)]) (fun i=>[(60,.cells 0 ((auL (l.take i)).flatMap auC))]) (fun i=>i<=l.length) (fun i=>l.length-i) 0 0 160 (fun _:Unit=>[(3,.sl 60 0 0 l.length 4)]) (fun _=>[(60,.cells 0 ((auL l).flatMap auC))]) (fun _=>True) ?_ (Zah _) ?_ ?_;·refine⟨[(60,.nil)],rfl,au0,?_,au23⟩;exact ZcG rfl rfl ZcE
 ·rintro i hi;by_cases a:i<l.length
  ·obtain⟨x,g⟩:=Qao a;have b:=SU.QbM (ch:=ch) g;have c:5<=((l.flatMap (itC ch)).drop (i*5)).length:=by rw[b];simp
   have d:(auL (l.take i)).length=i:=by rw[Qa1,Zaw];omega
   have f:((auL (l.take i)).flatMap auC).length=i*4:=by rw[Qhi,d]
   refine Zc5 (Zdd a b c f @Qae @Qah @Qaa @Qab @Qac) ?_;refine⟨i+1,by omega,by omega,?_⟩;rw[take_succ' g];show Rec _ _ [(60,.cells 0 ((List.map (fun x:Nat×Aut=>x.2) (l.take i++[x])).flatMap auC))] _ _;rw[ZaJ,Zar,QrI];refine⟨[(60,.blk 60 1)],rfl,au0,?_,au23⟩;exact ZcF rfl rfl gg (Zcv (SU.Qau (QaV _) (QaV [x.2]))) ZcE
  have e:i=l.length:=by omega
  subst e;refine Zc3 a ?_;refine⟨(),?_⟩;refine⟨[(60,.blk 60 0)],rfl,au0,?_,au23⟩;exact ZcF rfl rfl gg (Zcv (QaV _)) ZcE
 rintro _ _;refine Zc0 ?_;refine⟨.inr trivial,_,rfl,?_⟩;refine⟨[(60,.blk 60 0)],rfl,au0,?_,au23⟩;exact ZcF rfl rfl gg (Zcv (QaV _)) ZcE
theorem Qs5(c:Cel)(h:WfCel c):PSpec Tryz.prog 58 [auts (allA c)] (.tup [aV (syncA (allA c)),tuV (sync0 (allA c)).1,.int .i64 0]):=by have d:=h.c0;have b:=h.c3;have a:=h.r2;exact sync28 (allA c) (Qcd h) (by rw[Qb8];omega) (by rw[Qb8];omega) (Qui h)
abbrev stG(c:Cel)(p q:Aut)(P T:List (List Nat)):List AV:=[evsV c.ev,its 99 c.cs,its 114 c.rs,exs c.xs,cos c.ks,sliN p.al,.int .i64 (p.n:Int),sliN p.ms,egsN p.es,tuV P,sliN q.al,.int .i64 (q.n:Int),sliN q.ms,egsN q.es,tuV T,sliN (szs c),exs c.xs,cos c.ks,fmapG keyC (ixV P) P]
def stC(c:Cel):List AV:=stG c (syncA (auL c.cs)) (syncA (allA c)) (sync0 (auL c.cs)).1 (sync0 (allA c)).1
abbrev stP(c:Cel)(p q:Aut)(P T:List (List Nat)):List AV:=[evsV c.ev,its 99 c.cs,its 114 c.rs,exs c.xs,cos c.ks,sliN p.al,.int .i64 (p.n:Int),sliN p.ms,egsN p.es,tuV P,sliN q.al,.int .i64 (q.n:Int),sliN q.ms,egsN q.es,tuV T,sliN (szs c),exs c.xs,cos c.ks]
theorem Qgj(c:Cel)(p q:Aut)(P T:List (List Nat)):noRefs (stP c p q P T)=true:=by have h1:=SU.QaK c;rw[celV,noRef]at h1;simp only[noRefs,Zaa,Zad]at h1;obtain⟨a,a2,a3,a4,a5⟩:=h1;simp only[noRefs,a,a2,a3,a4,a5,Qae,Qah,Qa9];rfl
theorem Qe9(c:Cel)(p q:Aut)(P T:List (List Nat)):noRefs (stG c p q P T)=true:=by have h1:=SU.QaK c;rw[celV,noRef]at h1;simp only[noRefs,Zaa,Zad]at h1;obtain⟨a,a2,a3,a4,a5⟩:=h1;simp only[noRefs,a,a2,a3,a4,a5,Qae,Qah,Qa9];rw[show noRef (fmapG keyC (ixV P) P)=true by rw[fmapG,noRef,Qaw (fun _=>rfl),Qaw (fun _=>rfl)];rfl];rfl
theorem open70(c:Cel)(h:WfCel c):PSpec Tryz.prog 60 [celV c] (.tup [.fptr (stC c),.int .i64 0]):=by
 have C:=QaY c;have v:noRef (.tup [.fptr (stC c),.int .i64 0])=true:=by rw[noRef,noRefs,noRef,stC,Qe9];rfl
 refine Zcx 64 TR.ok60 rfl (by rw[noRefs,SU.QaK];rfl) v ?_;have L:=h.c3;have A:=h.r2;have K:=plant17 c h;have hA:=auto69H (ch:=99) c.cs (by omega);have I:=automata59 (ch:=114) c.rs (by omega);have z:=Qs5 c h;have H:=conds85 c h;have b:=Qfz (fun a m=>(Qa5 h a m).pos) fun a m=>(Qa5 h a m).wf.esn;have E:=QiM (Qa5 h) (by rw[Qa1];omega);have k:=Qa9 (sync0 (auL c.cs)).1;have o:((auL c.cs).flatMap auC).length=c.cs.length*4:=by rw[Qhi,Qa1]
 have r:((auL c.rs).flatMap auC).length=c.rs.length*4:=by rw[Qhi,Qa1]
 have w:(auL c.rs).length=c.rs.length:=Qa1;have g:((auL c.rs).flatMap auC).all AV.one=true:=Qgf (fun _=>rfl) _;have u:PSpec Tryz.prog 58 [.fsl ((auL c.cs).flatMap auC++(auL c.rs).flatMap auC) (c.cs.length+c.rs.length) 4] (.tup [aV (syncA (allA c)),tuV (sync0 (allA c)).1,.int .i64 0]):=by rw[<-Zar,<-Qb8];exact z
 clear z;rw[stC];generalize syncA (auL c.cs)=p at*;generalize syncA (allA c)=q at*;generalize(sync0 (auL c.cs))=G at*;generalize(sync0 (allA c)).1=T at*;obtain⟨P,es⟩:=G;dsimp only at*;unfold TR.s60;refine Zc0 ?_;refine cp K ?_;refine Zc0 ?_;refine Qgh [] 4 (x:=.f 59) (ag:=[.t 30]) (d:=some 31) rfl rfl rfl ?_;refine Zc0 ?_;refine⟨59,(auL c.cs).flatMap auC,c.cs.length,4,rfl,⟨hA.1,by show noRefs [its 99 c.cs]=true;rw[noRefs,SU.QaC];rfl,60,0,0,_,_,rfl,Zah _,gg,hA⟩,QaV _,by decide,gg,?_⟩;refine Zc0 ?_;refine ch (PSpec.toH I _) ?_;refine Zc1 (Zc8 o r w g) ?_;refine ch (HSpec.give1 (g:=1) u gg (SU.Qau (QaV _) (QaV _)) (by rw[Zae,o,r];omega) rfl) ?_;refine Zc0 ?_;refine⟨trivial,?_⟩;refine cp H ?_;refine Zc0 ?_;refine Qap 200 (fun i:Nat=>[(4,.ptr 52 0 0),(59,tuV P),(60,.int .i64 P.length),(61,.int .i64 i)]) (fun i=>[(52,.cells 0 [evsV c.ev,its 99 c.cs,its 114 c.rs,exs c.xs,cos c.ks,sliN p.al,.int .i64 (p.n:Int),sliN p.ms,egsN p.es,tuV P,sliN q.al,.int .i64 (q.n:Int),sliN q.ms,egsN q.es,tuV T,sliN (szs c),exs c.xs,cos c.ks,.map 53 0]),(53,.map 0 (mapG keyC (ixV P) (P.take i)))]) (fun i=>i<=P.length) (fun i=>P.length-i) 0 0 260 (fun _:Unit=>[(4,.ptr 52 0 0)]) (fun _=>[(52,.cells 0 [evsV c.ev,its 99 c.cs,its 114 c.rs,exs c.xs,cos c.ks,sliN p.al,.int .i64 (p.n:Int),sliN p.ms,egsN p.es,tuV P,sliN q.al,.int .i64 (q.n:Int),sliN q.ms,egsN q.es,tuV T,sliN (szs c),exs c.xs,cos c.ks,fmapG keyC (ixV P) P])]) (fun _=>True) ?_ (Zah _) ?_ ?_;·refine⟨[(52,.blk 69 0),(53,.blk 116 0)],rfl,RO.set rfl (RO.set rfl ZcB),?_,ZcD (Rn.x2 rfl rfl) (ZcD (Zct k) au23)⟩;exact ZcF rfl rfl gg (RnL.append (xs:=stP c p q P T) (ys:=stP c p q P T) (Zcv (Qgj c p q P T)) (RnL.one (Rn.x3 rfl rfl))) (ZcH rfl rfl gg (ZcV fun _ _=>⟨rfl,rfl⟩) ZcE)
 ·rintro i hi;by_cases d:i<P.length
  ·obtain⟨t,l⟩:=Qao d;have f:=b.inT t (Zac l);have hk:=key72 h f;have s:t∉P.take i:=fun hm=>by have A:ixT (P.take i) t=i:=(Qhy (List.take_prefix i P) hm).trans (QrH b.nd l);have B:=Qhj hm;rw[A,Zaw]at B;omega
   have y:updG (ixV P) t (.int .i64 ((i:Nat):Int))=ixV P:=by
    funext x;unfold updG;split;·rename_i e;subst e;unfold ixV;rw[QrH b.nd l]
    rfl
   refine Zc1 (Zc6 d (QfF l)) ?_;refine cp hk ?_;refine Zc0 ?_;refine Qbf (c:=keyC) (f:=ixV P) (x:=t) (l:=P.take i) (g:=0) gg (Qhl (fun a m=>(Qa5 h a m).j) f fun x J=>b.inT x (ZaV J)) s (by omega) ?_;rw[y];refine Zc0 ?_;refine⟨i+1,by omega,by omega,?_⟩;rw[take_succ' l];refine⟨[(52,.blk 52 0),(53,.blk 53 0)],rfl,ZcB,?_,ZcD (Rn.x2 rfl rfl) (ZcD (Zct k) au23)⟩;exact ZcF rfl rfl gg (RnL.append (xs:=stP c p q P T) (ys:=stP c p q P T) (Zcv (Qgj c p q P T)) (RnL.one (Rn.x3 rfl rfl))) (ZcH rfl rfl gg (ZcV fun _ _=>⟨rfl,rfl⟩) ZcE)
  have e:i=P.length:=by omega
  subst e;refine Zc3 d ?_;refine⟨(),[(52,.blk 52 0)],rfl,ZcB,?_,ZcD (Rn.x2 rfl rfl) ZcC⟩;exact ZcF rfl rfl gg (RnL.append (xs:=stP c p q P T) (ys:=stP c p q P T) (Zcv (Qgj c p q P T)) (RnL.one (Rn.fzM (b:=53) (g:=0) gg rfl rfl fun _ _=>⟨rfl,rfl⟩))) ZcE
 rintro _ _;refine Zc0 ?_;refine⟨.inr trivial,_,rfl,?_⟩;refine Rn.tup (ZcL ?_ (Zcv rfl));exact Rn.frzp (b:=52) (g:=0) rfl (Zah _) (fun M N _ e=>by simp[π0]at e) (by simp) (Zcv (Qe9 c p q P T))
end Go.AM.SO
namespace Go.AM.SO
open Go.Proofs Go.AM.SD Go.AM.SE
structure WfB(a:Aut):Prop extends WfA a where
 a5:∀x∈a.al,x<5
 nb:a.n<=243
theorem WfB.el{a:Aut}(h:WfB a):a.es.length<=1220:=by have:=WfA.elK h.toWfA h.a5;have:=h.nb;omega
theorem check112B(a:Aut)(h:WfA a):PSpec Tryz.prog 91 [aV a] (.int .i64 0):=check112 a h (by have:=WfA.el1 h;omega)
theorem Qev{l:List Aut}{ev:List Nat}{T:List (List Nat)}{j:Nat}{t:List Nat}{x:Ed}(h:x∈rowE l ev T j t):x.1=j/\x.2.1∈ev/\∃n,stepT l t x.2.1=some n/\x.2.2=ixT T n:=by unfold rowE at h;obtain⟨e,he,a⟩:=Zbs.1 h;cases b:stepT l t e with|none=>rw[b]at a;cases a|some n=>rw[b]at a;simp only[ZbD,Zab]at a;subst a;exact⟨rfl,he,n,b,rfl⟩
theorem Qie{l:List Aut}{T:List (List Nat)}{j:Nat}{t:List Nat}:∀{ev:List Nat},ev.Pairwise (·<·)->(rowE l ev T j t).Pairwise fun x y=>x.1<y.1\/(x.1=y.1/\x.2.1<y.2.1)|[],_=>by simp[rowE]|e::ev,h=>by rw[Zax]at h;have a:=Qie (l:=l) (T:=T) (j:=j) (t:=t) h.2;unfold rowE at a⊢;rw[ZbA];cases d:stepT l t e with|none=>exact a|some n=>simp only[ZbD];rw[Zax];refine⟨fun y c=>?_,a⟩;obtain⟨h1,b,_⟩:=Qev (l:=l) (T:=T) (j:=j) (t:=t) (ev:=ev) (by unfold rowE;exact c);exact .inr ⟨h1.symm,h.1 _ b⟩
theorem Qif{f:Nat->List Ed}(hf:∀j,(f j).Pairwise (fun x y=>x.1<y.1\/(x.1=y.1/\x.2.1<y.2.1))/\∀x∈f j,x.1=j):∀i,((List.range i).flatMap f).Pairwise fun x y=>x.1<y.1\/(x.1=y.1/\x.2.1<y.2.1)|0=>by simp|i+1=>by rw[ZaQ,Zar,ZaA,Zb7,Zaq,Zbl];refine⟨Qif hf i,(hf i).1,fun x a y c=>?_⟩;obtain⟨j,b,a⟩:=ZbF.1 a;have:=Zat.1 b;rw[(hf j).2 x a,(hf i).2 y c];exact .inl this
theorem QdM{l:List Aut}(h:∀a∈l,WfI a)(w:l.length<=5):WfB (syncA l):=by
 have hw:∀a∈l,∀e∈a.es,e.1<a.n/\e.2.2<a.n:=fun a d=>(h a d).wf.esn;have g:∀a∈l,0<a.n:=fun a d=>(h a d).pos;have o:=Qhk g hw;obtain⟨ho,b,_⟩:=QiM h w;have f:∀e∈(sync0 l).2,e.2.1∈evA l/\e.1<(sync0 l).1.length/\e.2.2<(sync0 l).1.length:=fun e he=>by rw[o.ed]at he;obtain⟨j,k,he⟩:=ZbF.1 he;have k:=Zat.1 k;obtain⟨h1,q,n,s,v⟩:=Qev he;obtain⟨t,u⟩:=Qao k;rw[Zak,u]at s;have hm:=o.cl j t k u _ q n s;exact⟨q,by omega,by rw[v];exact Qhj hm⟩
 have r:∀x∈evA l,x<5:=fun x c=>by
  have i:x∈uUp (l.map fun a=>(0,a)):=by rw[<-QfD];exact c
  rw[Qhw fun y p=>by obtain⟨a,d,rfl⟩:=Zan.1 p;exact h a d]at i;obtain⟨y,p,m⟩:=i;obtain⟨a,d,rfl⟩:=Zan.1 p;exact(h a d).a5 x m
 refine⟨⟨Qej h,fun x c=>by have:=r x c;omega,Zav b (by decide),?_,fun x c=>?_,?_,fun e he=>⟨(f e he).2.1,(f e he).2.2⟩,fun e he=>(f e he).1⟩,r,b⟩;·exact List.pairwise_lt_range.filter _
 ·exact Zat.1 (ZaM.1 c).1
 show(sync0 l).2.Pairwise _;rw[o.ed];exact Qif (fun j=>⟨Qie (Qej h),fun x c=>(Qev c).1⟩) _
theorem out199(a:Aut)(v:Nat)(h:WfA a)(b:v<=100000):PSpec Tryz.prog 205 [aV a,.int .i64 (v:Int)] (egsN (sOut a.es (fun _=>true) v)):=out58 a v h (by have:=WfA.el1 h;omega) (by omega)
end Go.AM.SO
namespace Go.AM.SO
open Go.Proofs Go.AM.SD Go.AM.SE
theorem state207(a:Aut)(v:Nat)(h:WfA a)(b:v<a.n):PSpec Tryz.prog 204 [aV a,.int .i64 (v:Int)] (.int .i64 0):=by
 refine Zcy 64 TQ.ok204 rfl (by(try simp only[noRefs,Qad,Qaj,Qaf,noRef,noRefs,Zag,Zad])<;>rfl) rfl ?_;have hc:=check112B a h;have g1:¬(v:Int)<0:=by omega
 have g2:¬(a.n:Int)<=(v:Int):=by omega
 unfold TQ.s204;refine Zc0 ?_;refine cp hc ?_;refine Zc1 (Zc6 g1 g2) ?_;exact⟨.inr trivial,_,rfl,rfl⟩
def evO(a:Aut)(v:Nat):List Nat:=(sOut a.es (fun _=>true) v).map (·.2.1)
theorem enabled161(a:Aut)(v:Nat)(h:WfA a)(l:v<a.n):PSpec Tryz.prog 124 [aV a,.int .i64 (v:Int)] (.tup [sliN (evO a v),.int .i64 0]):=by
 have m:=h.n5;have b:noRef (.tup [sliN (evO a v),.int .i64 0])=true:=by rw[noRef,noRefs,Qae];rfl
 refine Zcx 64 TQ.ok124 rfl (by(try simp only[noRefs,Qad,Qaj,Qaf,noRef,noRefs,Zag,Zad])<;>rfl) b ?_;have hc:=state207 a v h l;have ho:=out199 a v h (by omega);have k:(sOut a.es (fun _=>true) v).length<=131072:=Zav (ZaG ..) (WfA.el1 h);unfold evO at b⊢;generalize sOut a.es (fun _=>true) v=o at*;unfold TQ.s124;refine Zc0 ?_;refine cp hc ?_;refine Zc0 ?_;refine cp ho ?_;refine Zc0 ?_;refine Qap 120 (fun i:Nat=>[(7,.sl 60 0 0 i 1),(18,egsN o),(19,.int .i64 o.length),(20,.int .i64 i)]) (fun i=>[(60,.cells 0 (ints (nz ((o.take i).map (·.2.1)))))]) (fun i=>i<=o.length) (fun i=>o.length-i) 0 0 180 (fun _:Unit=>[(7,sliN (o.map (·.2.1)))]) (fun _=>[]) (fun _=>True) ?_ (Zah _) ?_ ?_;·refine⟨[(60,.nil)],rfl,au0,?_,au23⟩;exact ZcG rfl rfl ZcE
 ·rintro i hi;by_cases c:i<o.length
  ·obtain⟨e,he⟩:=Qao c;have d:=QaJ he;have f:3<=((o.flatMap edC).drop (i*3)).length:=by rw[d];simp
   have g:(ints (nz ((o.take i).map (·.2.1)))).length=i:=by simp[ints];omega
   refine Zc1 (Zc8 c d f g) ?_;refine⟨i+1,by omega,by omega,?_⟩;rw[take_succ' he,ZaJ,QaD,Qay];refine⟨[(60,.blk 60 1)],rfl,au0,?_,au23⟩;exact ZcF rfl rfl gg (Zcv (SU.Qau (Qad _) rfl)) ZcE
  have e:i=o.length:=by omega
  subst e;refine Zc3 c ?_;exact⟨(),[],rfl,ZcB,ZcE,ZcD (ZcM (b:=60) (g:=0) gg rfl rfl (by simp) (by simp[ints]) (Zcv (Qad _))) ZcC⟩
 rintro _ _;refine Zc0 ?_;exact⟨.inr trivial,_,rfl,Zct b⟩
theorem ev262(x:Ed)(e:Nat):PSpec Tryz.prog 264 [.agg [.int .i64 (x.1:Int),.int .i64 (x.2.1:Int),.int .i64 (x.2.2:Int)],.fptr [.int .i64 (e:Int)]] (.bool (decide (x.2.1=e))):=by refine Zcy 64 TQ.ok264 rfl rfl rfl ?_;have a:decide ((x.2.1:Int)=(e:Int))=decide (x.2.1=e):=decide_eq_decide.2 (by omega);unfold TQ.s264;refine Zc1 a ?_;exact⟨.inr trivial,_,rfl,rfl⟩
theorem Qgk{α:Type}{q:α->Bool}:∀l:List α,l.find? q=l[l.findIdx q]?|[]=>rfl|x::l=>by rw[List.find?_cons,List.findIdx_cons];cases q x with|true=>rfl|false=>simpa using Qgk l
def nxI(a:Aut)(v e:Nat):Int:=match stepA a.es v e with|some t=>(t:Int)|none=>-1
theorem Qd8(es:List Ed)(v e:Nat):stepA es v e=((sOut es (fun _=>true) v).find? fun x=>decide (x.2.1=e)).map (·.2.2):=by unfold stepA sOut;rw[List.find?_filter];congr 2;funext x;by_cases h:x.2.1=e<;>by_cases a:x.1=v<;>simp[h,a]
theorem next226(a:Aut)(v e:Nat)(h:WfA a)(q:v<a.n):PSpec Tryz.prog 219 [aV a,.int .i64 (v:Int),.int .i64 (e:Int)] (.int .i64 (nxI a v e)):=by
 have r:=h.n5;refine Zcy 64 TQ.ok219 rfl (by(try simp only[noRefs,Qad,Qaj,Qaf,noRef,noRefs,Zag,Zad])<;>rfl) rfl ?_;have ho:=out199 a v h (by omega);have g:(sOut a.es (fun _=>true) v).length<=131072:=Zav (ZaG ..) (WfA.el1 h);have m:=index48 (K:=264) (cap:=[.fptr [.int .i64 (e:Int)]]) (fun x=>decide (x.2.1=e)) (sOut a.es (fun _=>true) v) (by omega) rfl fun x _=>ev262 x e;unfold nxI;rw[Qd8];generalize sOut a.es (fun _=>true) v=o at*;rw[Qgk];have s:=@QcN _ (fun x:Ed=>decide (x.2.1=e)) o;have l:idxQ (fun x:Ed=>decide (x.2.1=e)) o=-1/\o[o.findIdx fun x=>decide (x.2.1=e)]?=none\/∃y,idxQ (fun x:Ed=>decide (x.2.1=e)) o=((o.findIdx fun x=>decide (x.2.1=e):Nat):Int)/\o[o.findIdx fun x=>decide (x.2.1=e)]?=some y:=by
  unfold idxQ;by_cases c:o.any (fun x=>decide (x.2.1=e))=true;·rw[if_pos c];obtain⟨y,p⟩:=Qao (Zbp (p:=fun x:Ed=>decide (x.2.1=e)) (xs:=o) (by simpa using c));exact .inr ⟨y,rfl,p⟩
  rw[if_neg c];refine .inl ⟨rfl,ZaF (Nat.le_of_not_lt fun b=>c ?_)⟩;rw[ZbX];exact⟨_,List.getElem_mem b,Zcf (w:=b)⟩
 generalize(o.findIdx fun x=>decide (x.2.1=e))=k at*;generalize idxQ (fun x:Ed=>decide (x.2.1=e)) o=i at*;unfold TQ.s219;refine Zc0 ?_;refine cp ho ?_;refine Zc0 ?_;refine SU.chc (ZcQ (ZcT (Zcz _) (ZcT (FrzTo.fn ZcS (ZcT (ZcP (g:=0) (cs:=[.int .i64 (e:Int)]) gg (ZcA _)) ZcS)) ZcS)) m rfl) ?_;rcases l with⟨rfl,hk⟩|⟨y,rfl,hk⟩;·refine Zc0 ?_;rw[hk];exact⟨.inr trivial,_,rfl,rfl⟩
 have f:k<o.length:=(Zaf.1 hk).1;have g1:¬(k:Int)<0:=by omega
 have d:=QaJ hk;refine Zc1 (Zc7 g1 f d) ?_;rw[hk];exact⟨.inr trivial,_,rfl,rfl⟩
theorem step208(a:Aut)(v e:Nat)(h:WfA a)(c:v<a.n)(he:e∈a.al):PSpec Tryz.prog 143 [aV a,.int .i64 (v:Int),.int .i64 (e:Int)] (.tup [.int .i64 (((stepA a.es v e).getD 0:Nat):Int),.bool (stepA a.es v e).isSome,.int .i64 0]):=by refine Zcy 64 TQ.ok143 rfl (by(try simp only[noRefs,Qad,Qaj,Qaf,noRef,noRefs,Zag,Zad])<;>rfl) rfl ?_;have f:=QbD h.al h.al5;have hc:=state207 a v h c;have d:=contains62 (nz a.al) (e:Int) (by simp;omega);have hm:decide ((e:Int)∈nz a.al)=true:=decide_eq_true (Zan.2 ⟨e,he,rfl⟩);rw[hm,Qbt]at d;have b:=next226 a v e h c;unfold nxI at b;unfold TQ.s143;refine Zc0 ?_;refine cp hc ?_;refine Zc0 ?_;refine cp d ?_;refine Zc0 ?_;refine cp b ?_;cases i:stepA a.es v e with|none=>refine Zc0 ?_;exact⟨.inr trivial,_,rfl,rfl⟩|some t=>
 have g:(0:Int)<=(t:Int):=by omega
 refine Zc1 g ?_;exact⟨.inr trivial,_,rfl,rfl⟩
end Go.AM.SO
namespace Go.AM.SO
open Go.AM.SD Go.AM.SE
theorem Qnt{a:Aut}(h:WfA a)(s:Nat):evO a s=a.al.filter fun e=>(stepA a.es s e).isSome:=by unfold evO;rw[Qj5 h,List.map_filterMap];induction a.al with|nil=>rfl|cons e l b=>rw[ZbA,Zbz,b];cases he:stepA a.es s e with|none=>rfl|some t=>rfl
def ucE(a:Aut)(u:List Nat)(s:Nat):List Nat:=a.al.filter fun e=>(stepA a.es s e).isSome&&u.contains e
theorem Quj{a:Aut}{u:List Nat}(h:WfA a)(hu:u.Pairwise (·<·))(s:Nat):mrg (fun x y=>x&&y) (evO a s) u=ucE a u s:=by
 have h1:(evO a s).Pairwise (·<·):=by rw[Qnt h];exact h.al.filter _
 have hm:∀x,x∈mrg (fun x y=>x&&y) (evO a s) u↔x∈ucE a u s:=fun x=>by
  rw[QbS h1 hu,Qnt h];unfold ucE;simp only[ZaM,Zaa,decide_eq_true_eq,ZaE];constructor;·rintro⟨⟨⟨d,a2⟩,a3⟩,_⟩;exact⟨d,a2,a3⟩
  rintro⟨d,a2,a3⟩;exact⟨⟨⟨d,a2⟩,a3⟩,.inr a3⟩
 have s1:=Qcq (k:=fun x y=>x&&y) h1 hu;have s2:(ucE a u s).Pairwise (·<·):=h.al.filter _;generalize mrg (fun x y=>x&&y) (evO a s) u=A at*;generalize ucE a u s=B at*;clear h1 hu;induction A generalizing B with
 |nil=>cases B with|nil=>rfl|cons b B=>exact absurd ((hm b).2 (by simp)) (by simp)
 |cons x A i=>cases B with|nil=>exact absurd ((hm x).1 (by simp)) (by simp)|cons y B=>
  rw[Zax]at s1 s2;have f:x=y:=by
   rcases Zas.1 ((hm x).1 (by simp))with e|e;·exact e
   rcases Zas.1 ((hm y).2 (by simp))with g|g;·exact g.symm
   have:=s1.1 y g;have:=s2.1 x e;omega
  subst f;refine congrArg _ (i s1.2 B s2.2 (fun z=>?_));constructor
  ·intro c;have:=s1.1 z c;rcases Zas.1 ((hm z).1 (Zby _ c))with e|e;·omega
   exact e
  intro c;have:=s2.1 z c;rcases Zas.1 ((hm z).2 (Zby _ c))with e|e;·omega
  exact e
structure Vs where
 st:Nat
 bf:Int
 ev:Nat
 run:List Nat
def toA(a:Aut)(s e:Nat):Nat:=(stepA a.es s e).getD 0
def ext1(a:Aut)(i:Nat)(v:Vs)(l:List Vs)(e:Nat):List Vs:=if toA a v.st e∈l.map (·.st)then l else l++[⟨toA a v.st e,i,e,v.run++[e]⟩]
def extL(a:Aut)(i:Nat)(v:Vs)(l:List Vs)(es:List Nat):List Vs:=es.foldl (ext1 a i v) l
def badS(R:List Rm)(s:Nat):Bool:=match remAt R s with|some x=>!Nat.beq x.reason 2|none=>false
def bgo(a:Aut)(u:List Nat)(R:List Rm):Nat->Nat->List Vs->Option (List Nat×Nat)|0,_,_=>none|k+1,i,l=>match l[i]? with|none=>none|some v=>if badS R v.st then some (v.run,v.st)else bgo a u R k (i+1) (extL a i v l (ucE a u v.st))
def v0(s:Nat):Vs:=⟨s,-1,0,[]⟩
def bres(a:Aut)(u:List Nat)(R:List Rm)(s:Nat):Option (List Nat×Nat):=bgo a u R (a.n+1) 0 [v0 s]
structure LOk(n:Nat)(l:List Vs):Prop where
 st:∀v∈l,v.st<n
 nd:(l.map (·.st)).Nodup
 bf:∀(j:Nat)v,l[j]?=some v->(v.bf=-1/\v.run=[])\/∃(b:Nat)(w:Vs),v.bf=(b:Int)/\b<j/\l[b]?=some w/\v.run=w.run++[v.ev]
theorem LOk.len{n:Nat}{l:List Vs}(h:LOk n l):l.length<=n:=by
 have:=QaN n (l.map (·.st)) h.nd fun x b=>by obtain⟨v,a,rfl⟩:=Zan.1 b;exact h.st v a
 simpa using this
theorem LOk.one{n s:Nat}(h:s<n):LOk n [v0 s]:=by
 refine⟨fun v a=>?_,by simp,fun j v a=>?_⟩;·simp only[ZaL]at a;subst a;exact h
 cases j with|zero=>simp at a;subst a;exact .inl ⟨rfl,rfl⟩|succ j=>simp at a
theorem QfG{l r:List Vs}{j:Nat}{v:Vs}(h:l[j]?=some v):(l++r)[j]?=some v:=by rw[ZaH (Zaf.1 h).1];exact h
theorem LOk.ext{n:Nat}{a:Aut}{i:Nat}{v:Vs}{l:List Vs}{e:Nat}(h:LOk n l)(g:l[i]?=some v)(p:toA a v.st e<n):LOk n (ext1 a i v l e)/\∃r,ext1 a i v l e=l++r:=by
 unfold ext1;split;·exact⟨h,[],by simp⟩
 rename_i hm;have hi:=(Zaf.1 g).1;refine⟨⟨fun w hw=>?_,?_,fun j w hw=>?_⟩,_,rfl⟩
 ·rcases Zay.1 hw with hw|hw;·exact h.st w hw
  simp only[ZaL]at hw;subst hw;exact p
 ·rw[ZaJ,ZbR];refine⟨h.nd,by simp,fun x s y f e=>?_⟩;simp only[ZaO,List.map_nil,ZaL]at f;subst f;subst e;exact hm s
 rcases ZbE j l.length with d|d
 ·rw[ZaH d]at hw;rcases h.bf j w hw with q|⟨b,z,q1,q2,k,o⟩;·exact .inl q
  exact .inr ⟨b,z,q1,q2,QfG k,o⟩
 rw[ZbK d]at hw;have c:j-l.length=0:=by cases m:j-l.length with|zero=>rfl|succ q=>rw[m]at hw;simp at hw
 rw[c]at hw;simp only[Zbn,Zab]at hw;subst hw;exact .inr ⟨i,v,rfl,by omega,QfG g,rfl⟩
theorem LOk.exts{n:Nat}{a:Aut}{i:Nat}{v:Vs}:∀{es:List Nat}{l:List Vs},LOk n l->l[i]?=some v->(∀e∈es,toA a v.st e<n)->LOk n (extL a i v l es)/\∃r,extL a i v l es=l++r
 |[],l,h,_,_=>⟨h,[],by simp[extL]⟩|e::es,l,h,f,d=>by
  obtain⟨h1,r,g⟩:=h.ext f (d e (by simp));have c:(ext1 a i v l e)[i]?=some v:=by rw[g];exact QfG f
  obtain⟨o,k,b⟩:=LOk.exts (es:=es) h1 c fun x m=>d x (Zby _ m);refine⟨o,r++k,?_⟩;show extL a i v (ext1 a i v l e) es=_;rw[b,g,ZaR]
theorem Qs6{a:Aut}{i:Nat}{v:Vs}{l:List Vs}{e:Nat}:toA a v.st e∈(ext1 a i v l e).map (·.st):=by
 unfold ext1;split;·assumption
 simp
theorem QiN{a:Aut}{i:Nat}{v:Vs}:∀{es:List Nat}{l:List Vs}{e:Nat},e∈es->toA a v.st e∈(extL a i v l es).map (·.st)
 |x::es,l,e,he=>by
  show _∈(extL a i v (ext1 a i v l x) es).map (·.st);have mono:∀(es:List Nat)(l:List Vs)(s:Nat),s∈l.map (·.st)->s∈(extL a i v l es).map (·.st):=by intro es;induction es with|nil=>intro l s h;exact h|cons y es b=>
   intro l s h;refine b _ s ?_;unfold ext1;split;·exact h
   rw[ZaJ];exact Za9 _ h
  rcases Zas.1 he with rfl|he;·exact mono es _ _ Qs6
  exact QiN he
theorem QjE{a:Aut}{u:List Nat}{s e:Nat}(h:WfA a)(he:e∈ucE a u s):toA a s e<a.n:=by obtain⟨_,b⟩:=ZaM.1 he;rw[Zaa]at b;obtain⟨t,c⟩:=Za6.1 b.1;unfold toA;rw[c];exact Qco h.esn c
theorem Qs7{a:Aut}{u:List Nat}{R:List Rm}(h:WfA a):∀(k i:Nat)(l:List Vs),LOk a.n l->a.n+1<=k+i->(∀(j:Nat)v,j<i->l[j]?=some v->badS R v.st=false/\∀e∈ucE a u v.st,toA a v.st e∈l.map (·.st))->bgo a u R k i l=none->∃S:List Nat,(∀v∈l,v.st∈S)/\∀s∈S,badS R s=false/\∀e∈ucE a u s,toA a s e∈S:=by intro k;induction k with|zero=>intro i l f hk hp _;have A:=f.len;refine⟨l.map (·.st),fun v b=>Zan.2 ⟨v,b,rfl⟩,fun s g=>?_⟩;obtain⟨v,b,rfl⟩:=Zan.1 g;obtain⟨j,c⟩:=Zbk b;exact hp j v (by have:=(Zaf.1 c).1;omega) c|succ k z=>
 intro i l f hk hp d;unfold bgo at d;split at d;·rename_i q;have hi:=Zb0.1 q;refine⟨l.map (·.st),fun v b=>Zan.2 ⟨v,b,rfl⟩,fun s g=>?_⟩;obtain⟨v,b,rfl⟩:=Zan.1 g;obtain⟨j,c⟩:=Zbk b;exact hp j v (by have:=(Zaf.1 c).1;omega) c
 rename_i v b;split at d;·cases d
 rename_i m;obtain⟨h1,r,o⟩:=f.exts (a:=a) (es:=ucE a u v.st) b fun e he=>QjE h he;have key:∀(j:Nat)w,j<i+1->(extL a i v l (ucE a u v.st))[j]?=some w->badS R w.st=false/\∀e∈ucE a u w.st,toA a w.st e∈(extL a i v l (ucE a u v.st)).map (·.st):=fun j w c hw=>by
  have x:=(Zaf.1 b).1;rw[o,ZaH (by omega)]at hw;by_cases p:j=i;·subst p;rw[b]at hw;cases hw;exact⟨by simpa using m,fun e he=>QiN he⟩
  obtain⟨t,y⟩:=hp j w (by omega) hw;refine⟨t,fun e he=>?_⟩;rw[o,ZaJ];exact Za9 _ (y e he)
 obtain⟨S,s1,s2⟩:=z (i+1) _ h1 (by omega) key d;exact⟨S,fun w hw=>s1 w (by rw[o];exact Za9 _ hw),s2⟩
theorem QrV{a:Aut}{u:List Nat}{left:Nat->Bool}{R:List Rm}(h:RemOk a u left R){x:Rm}(b:x∈R):badS R x.st=!Nat.beq x.reason 2:=by unfold badS;rw[Qcp h.nd b]
theorem Qfa{a:Aut}{u:List Nat}{left:Nat->Bool}{R:List Rm}(h:WfA a)(c:RemOk a u left R){x:Rm}(d:x∈R):∃r t,bres a u R x.st=some (r,t):=by cases i:bres a u R x.st with|some p=>exact⟨p.1,p.2,rfl⟩|none=>
 obtain⟨S,s1,s2⟩:=Qs7 h (a.n+1) 0 _ (LOk.one (c.st x d).1) (by omega) (fun j v l=>absurd l (ZaB _)) i;obtain⟨z,k,m,z2⟩:=Qre c d;have f:x.st∈S:=s1 (v0 x.st) (by simp);have key:∀{s t:Nat},Leads a u s t->s∈S->t∈S:=by intro s t q;induction q with|here s=>exact id|@step s t e he h1 hu _ o=>intro g;refine o ?_;have b:=QdL h.es he;rw[h1]at b;have:=(s2 s g).2 e.2.1 (ZaM.2 ⟨h.ev e he,by rw[b];simpa using hu⟩);unfold toA at this;rw[b]at this;exact this
 have:=(s2 z.st (key z2 f)).1;rw[QrV c k]at this;simp only[Bool.not_eq_false',ZbV]at this;exact absurd this m
theorem Qpe{a:Aut}{u:List Nat}{R:List Rm}:∀(k i:Nat)(l:List Vs){r:List Nat}{t:Nat},bgo a u R k i l=some (r,t)->badS R t=true:=by intro k;induction k with|zero=>intro i l r t b;cases b|succ k c=>
 intro i l r t b;unfold bgo at b;split at b;·cases b
 split at b;·cases b;assumption
 exact c _ _ b
end Go.AM.SO
namespace Go.AM.OE
open Go.Proofs
set_option maxHeartbeats 4000000
noncomputable section
def cf:YA.Cf:={most:=.pure,value:=.pure}
def s99:SFn:=by
 refine(?f:YA.Yt Tryz.prog cf 99 [[4,5],[10,11],[12],[0,1,6,13,14],[4,5,6,13,15,16],[1,7,18,19,20,17,21,22],[9,23],[0,8,24],[0,8,24,25,26,27]]) ?s ?h;case h=>exact YA.rr
 exact fun s _=>s
def s177:SFn:=by
 refine(?f:YA.Yt Tryz.prog cf 177 [[0,2],[1,3,4,5]]) ?s ?h;case h=>exact YA.rr
 exact fun s _=>s
def s182:SFn:=by
 refine(?f:YA.Yt Tryz.prog cf 182 [[4],[],[0],[],[11,12,13,14],[7,15,16],[6,17,18,19,20,21],[6,17,22],[1,5,8,9,10,23]]) ?s ?h;case h=>exact YA.rr
 exact fun s _=>s
theorem ok99:okFn Tryz.prog 99 s99=true:=by kernel_rfl
theorem ok177:okFn Tryz.prog 177 s177=true:=by kernel_rfl
theorem ok182:okFn Tryz.prog 182 s182=true:=by kernel_rfl
end
end Go.AM.OE
namespace Go.AM.SO
open Go.Proofs Go.AM.SD Go.AM.SE
def itN(x:List UInt8×Aut):List AV:=[.str x.1,sliN x.2.al,.int .i64 (x.2.n:Int),sliN x.2.ms,egsN x.2.es]
theorem Qd9(l:List (List UInt8×Aut)):noRefs (l.flatMap itN)=true:=Qa3 (fun x=>by simp only[itN,noRefs,noRef,Qad,Qaf];rfl) l
def evl(e:Nat->Evt):List (List UInt8×Evt):=(List.range 5).map fun i=>([UInt8.ofNat (97+i)],e i)
def evN(x:List UInt8×Evt):List AV:=[.str x.1,.bool x.2.c,.bool x.2.o,.bool x.2.f,.int .i64 (x.2.flt:Int)]
abbrev evNV(x:List UInt8×Evt):AV:=.agg [.str x.1,.bool x.2.c,.bool x.2.o,.bool x.2.f,.int .i64 (x.2.flt:Int)]
abbrev evsN(l:List (List UInt8×Evt)):AV:=.fsl (l.flatMap evN) l.length 5
theorem Qpf(e:Nat->Evt):evsV e=evsN (evl e):=rfl
theorem Qgl(l:List (List UInt8×Evt)):noRefs (l.flatMap evN)=true:=Qa3 (fun x=>rfl) l
theorem Qs8{l:List (List UInt8×Evt)}{i:Nat}{x:List UInt8×Evt}(h:l[i]?=some x):(l.flatMap evN).drop (i*5)=.str x.1::.bool x.2.c::.bool x.2.o::.bool x.2.f::.int .i64 (x.2.flt:Int)::(l.drop (i+1)).flatMap evN:=Qa6 (f:=evN) (k:=5) (fun _=>rfl) h
end Go.AM.SO
namespace Go.AM.SO
open Go.Proofs Go.AM.SD Go.AM.SE
def uncL(e:Nat->Evt)(n:Nat):List Nat:=(List.range n).filter fun i=>!(e i).c
theorem Qs9(e:Nat->Evt)(n:Nat):uncL e (n+1)=uncL e n++if(e n).c then[]else[n]:=by unfold uncL;rw[ZaQ,Za7];cases h:(e n).c<;>simp[h]
theorem Quk(e:Nat->Evt)(n:Nat):(uncL e n).length<=n:=by have:=ZaG (fun i=>!(e i).c) (List.range n);rwa[ZbS]at this
theorem QvD(e:Nat->Evt){i:Nat}(h:i<5):(evl e)[i]?=some ([UInt8.ofNat (97+i)],e i):=by unfold evl;rw[ZaD,ZbM h];rfl
theorem unc171(x:List UInt8×Evt):PSpec Tryz.prog 177 [evNV x] (.bool (!x.2.c)):=by refine Zcy 64 OE.ok177 rfl rfl rfl ?_;cases h:x.2.c;all_goals unfold OE.s177;refine Zc5 h ?_;exact⟨.inr trivial,_,rfl,rfl⟩
theorem _root_.Go.AM.au25{p:Prop}(h:p:=by repeat(first|exact ZcC|(refine ZcD ?_ ?_;·(first|exact Rn.any|exact Rn.x1 rfl rfl|exact Rn.x2 rfl rfl|exact Rn.x3 rfl rfl|exact Rn.x4 rfl rfl|exact Rn.x5 rfl|exact Rn.x6 rfl|exact Rn.x7 rfl|(refine Rn.slot ?_ ?_;(first|rfl|(rw[ZaX];rfl));(first|rfl|(simp only[noRef,noRefs,Qag,Zag,Zad,Zai,Qad,Qan,Qae,Qd9,Qgl];done)))|(refine Rn.fn ?_ ?_<;>(repeat'(first|exact ZcK|refine ZcL ?_ ?_|exact Zct rfl|exact Rn.x6 rfl|exact Rn.x2 rfl rfl|exact Rn.x5 rfl|exact Rn.x1 rfl rfl))))))):p:=h
theorem chosen176(e:Nat->Evt):PSpec Tryz.prog 182 [evsV e,.fn 177 [] []] (sliN (uncL e 5)):=by
 have k:=Qgl (evl e);rw[Qpf];refine Zcx 64 OE.ok182 rfl (by simp only[noRefs,noRef,k];rfl) (Qae _) ?_;unfold OE.s182;refine Zc4 ?_;refine Qap 100 (fun i:Nat=>[(1,.fn 177 [] []),(5,.sl 76 0 0 (uncL e i).length 1),(8,evsN (evl e)),(9,.int .i64 5),(10,.int .i64 i)]) (fun i=>[(76,.cells 0 (ints (nz (uncL e i))))]) (fun i=>i<=5) (fun i=>5-i) 0 0 160 (fun _:Unit=>[(5,sliN (uncL e 5))]) (fun _=>[]) (fun _=>True) ?_ (Zah _) ?_ ?_;·refine⟨[(76,.nil)],rfl,au0,?_,au25⟩;exact ZcG rfl rfl ZcE
 ·rintro i hi;have l:=Quk e i;by_cases g:i<5
  ·have c:=Qs8 (QvD e g);have d:5<=(((evl e).flatMap evN).drop (i*5)).length:=by rw[c];simp
   have a:=Qs9 e i;have b:(i:Int)<5:=by omega
   have f:i<(evl e).length:=by simpa[evl]using g
   have hc:=unc171 ([UInt8.ofNat (97+i)],e i);cases h:(e i).c;·rw[h]at a;refine Zc5 (Zc8 b f c d) ?_;refine cp hc ?_;refine Zc5 h ?_;refine⟨i+1,by omega,by omega,?_⟩;rw[a,if_neg (by simp),Zae,QaD,Qay];refine⟨[(76,.blk 76 1)],rfl,au0,?_,au25⟩;exact ZcF rfl rfl gg (Zcv (SU.Qau (Qad _) rfl)) ZcE
   rw[h]at a;refine Zc5 (Zc8 b f c d) ?_;refine cp hc ?_;refine Zc5 h ?_;refine⟨i+1,by omega,by omega,?_⟩;rw[a,if_pos rfl,Zaq];refine⟨[(76,.blk 76 0)],rfl,au0,?_,au25⟩;exact ZcF rfl rfl gg (Zcv (Qad _)) ZcE
  have m:i=5:=by omega
  subst m;refine Zc4 ?_;refine⟨(),?_⟩;exact⟨[],rfl,ZcB,ZcE,ZcD (ZcM (b:=76) (g:=0) gg rfl rfl (by simp) (by simp[ints]) (Zcv (Qad _))) ZcC⟩
 rintro _ _;refine Zc4 ?_;exact⟨.inr trivial,_,rfl,Zct (Qae _)⟩
theorem select86(e:Nat->Evt)(he:∀i,i<5->(e i).Ok):PSpec Tryz.prog 99 [evsV e,.int .i64 2] (.tup [sliN (uncL e 5),.int .i64 0]):=by
 have a:noRef (evsV e)=true:=by rw[Qpf];exact Qgl (evl e)
 refine Zcx 64 OE.ok99 rfl (by simp only[noRefs,a];rfl) (by simp only[noRef,noRefs,Qad];rfl) ?_;have b:=check82 e he;have hH:=chosen176 e;unfold OE.s99;refine Zc4 ?_;refine cp b ?_;refine Zc4 ?_;refine QbR ?_;refine Zc4 ?_;refine QcR (f:=fun _=>.any) (l:=[]) (x:=1) (by simp) (by decide) ?_;refine Zc4 ?_;refine QbR ?_;refine Zc4 ?_;refine QcR (x:=2) (by simp) (by decide) ?_;refine Zc4 ?_;refine QbR ?_;refine Zc4 ?_;refine QcR (x:=3) (by simp) (by decide) ?_;refine Zc4 ?_;refine QbR ?_;refine Zc4 ?_;refine QcR (x:=4) (by simp) (by decide) ?_;refine Zc4 ?_;refine QbR ?_;refine Zc4 ?_;refine QcR (x:=5) (by simp) (by decide) ?_;refine Zc4 ?_;refine QbR ?_;refine Zc4 ?_;refine QcR (x:=6) (by simp) (by decide) ?_;refine Zc4 ?_;refine QdS ?_;refine Zc4 ?_;refine wK_in (x:=2) (by simp) ?_;have hu:updF (updF (updF (updF (updF (updF (fun _=>.any) 1 (.fn 176 [] [])) 2 (.fn 177 [] [])) 3 (.fn 178 [] [])) 4 (.fn 179 [] [])) 5 (.fn 180 [] [])) 6 (.fn 181 [] []) 2=.fn 177 [] []:=rfl;refine Zc5 hu ?_;refine cp hH ?_;refine Zc4 ?_;exact⟨.inr trivial,_,rfl,Zct (by simp only[noRef,noRefs,Qad];rfl)⟩
end Go.AM.SO
namespace Go.AM.SO
open Go.Proofs Go.AM.SD Go.AM.SE
theorem Qea(c:Cel):noRef (.fptr (stC c))=true:=by rw[noRef,stC];exact Qe9 _ _ _ _ _
theorem Qul{t:List Nat}{n:Nat}:(ints (nz t)).take n=ints (nz (t.take n)):=by simp[ints,nz,List.map_take]
theorem Qta{t:List Nat}{n:Nat}:(ints (nz t)).drop n=ints (nz (t.drop n)):=by simp[ints,nz,List.map_drop]
theorem Qoc{cs:List AV}{len sz:Nat}{k k2:IntKind}{b m:Int}(h:0<b):aSliceC (some sz) (.fsl cs len sz) none (some (.int k b)) (some (.int k2 m))=if b<=m/\m<=len then some (.fsl (cs.take (b.toNat*sz)) b.toNat sz)else none:=by
 have e:¬((0:Int)=0/\b=0/\m=0):=by omega
 have a:(0:Int)<=b:=by omega
 simp only[aSliceC,if_true,aSlice,bnd,Int.le_refl,true_and,a,Int.toNat_zero,Nat.zero_mul,Zbo,Nat.sub_zero];rw[if_neg (by omega)]
theorem split71(c:Cel)(t:List Nat)(l:0<c.cs.length)(h:c.cs.length<=t.length):PSpec Tryz.prog 61 [.fptr (stC c),sliN t] (.tup [sliN (t.take c.cs.length),sliN (t.drop c.cs.length)]):=by
 have a:noRef (.tup [sliN (t.take c.cs.length),sliN (t.drop c.cs.length)])=true:=by rw[noRef,noRefs,noRefs,Qae,Qae];rfl
 refine Zcx 64 TQ.ok61 rfl (by rw[noRefs,Qea,noRefs,Qae];rfl) a ?_;have i:=Qea c;rw[stC]at i⊢;generalize syncA (auL c.cs)=p at*;generalize syncA (allA c)=q at*;generalize(sync0 (auL c.cs)).1=P at*;generalize(sync0 (allA c)).1=T at*;have hle:(c.cs.length:Int)<=(t.length:Int):=by omega
 have f:(0:Int)<(c.cs.length:Int):=by omega
 have d:(t.drop c.cs.length).take (t.length-c.cs.length)=t.drop c.cs.length:=Za1 (by rw[Zba];exact ZaN _);have b:min c.cs.length t.length=c.cs.length:=Nat.min_eq_left h;unfold TQ.s61;refine Zc1 (Zc9 hle @Qoc @Qul @Qta d) ?_;refine⟨.inr trivial,_,rfl,?_⟩;have k:sliN (t.take c.cs.length)=.fsl (ints (nz (t.take c.cs.length))) c.cs.length 1:=by rw[sliN,Zaw,b]
 have g:sliN (t.drop c.cs.length)=.fsl (ints (nz (t.drop c.cs.length))) (t.length-c.cs.length) 1:=by rw[sliN,Zba]
 rw[k,g]at a⊢;exact Zct a
def rfQ(c:Cel)(r:List Nat)(e:Nat)(i:Nat):Bool:=match c.rs[i]? with|some y=>y.2.al.contains e&&(stepA y.2.es (r.getD i 0) e).isNone|none=>false
def rfI(c:Cel)(r:List Nat)(e:Nat):Int:=idxQ (rfQ c r e) (List.range c.rs.length)
theorem _root_.Go.AM.au26{p:Prop}(h:p:=by repeat'(first|exact ZcE|(refine Zcv ?_;first|rfl|(simp only[noRef,noRefs,Qag,Zag,Zad,Zai,Qad,Qan,Qae,Qah,QaV,Qaf,SU.Qbz];done))|exact ZcR rfl|exact ZcK|exact(True.intro:RnM _ _ _ [] [])|refine ZcL ?_ ?_|(refine Zct ?_;first|rfl|(simp only[noRef,noRefs,Qag,Zag,Zad,Zai,Qad,Qan,Qae,Qah,QaV,Qaf,SU.Qbz];done))|exact Rn.x1 rfl rfl|exact Rn.x2 rfl rfl|exact Rn.x3 rfl rfl|exact Rn.x4 rfl rfl|exact Rn.x5 rfl|exact Rn.x6 rfl|exact Rn.x7 rfl|refine ZcG rfl rfl ?_|refine ZcF rfl rfl rfl ?_ ?_|refine ZcH rfl rfl rfl ?_ ?_|refine ZcI rfl rfl ?_ ?_|refine ZcJ rfl rfl ?_ ?_)):p:=h
theorem refuser162(c:Cel)(hw:WfCel c)(r:List Nat)(e:Nat)(K:r.length=c.rs.length)(hrn:∀(i:Nat)y,c.rs[i]?=some y->r.getD i 0<y.2.n):PSpec Tryz.prog 125 [.fptr (stC c),sliN r,.int .i64 (e:Int)] (.int .i64 (rfI c r e)):=by
 refine Zcy 64 TQ.ok125 rfl (by rw[noRefs,Qea,noRefs,Qae];rfl) rfl ?_;have H:=hw.r2;rw[stC];generalize syncA (auL c.cs)=p at*;generalize syncA (allA c)=q at*;generalize(sync0 (auL c.cs)).1=P at*;generalize(sync0 (allA c)).1=T at*;have g:=@SU.QaC 114 c.rs;unfold TQ.s125;refine Zc0 ?_;refine Qap 100 (fun i:Nat=>[(1,sliN r),(2,.int .i64 (e:Int)),(16,its 114 c.rs),(17,.int .i64 c.rs.length),(18,.int .i64 i)]) (fun _=>[]) (fun i=>i<=c.rs.length/\∀(j:Nat)y,j<i->(List.range c.rs.length)[j]?=some y->rfQ c r e y=false) (fun i=>c.rs.length-i) 0 0 200 (fun _:Unit=>[]) (fun _=>[]) (fun _=>∀x∈List.range c.rs.length,rfQ c r e x=false) ?_ ⟨Zah _,fun j y G=>absurd G (ZaB _)⟩ ?_ ?_;·exact⟨[],rfl,ZcB,ZcE,ZcD (Zct (Qae _)) (ZcD (Zct rfl) (ZcD (Zct g) au23))⟩
 ·rintro i⟨hi,w⟩;by_cases b:i<c.rs.length
  ·obtain⟨x,k⟩:=Qao b;have f:=hw.ra x (Zac k);have h:=SU.QbM (ch:=114) k;have A:5<=((c.rs.flatMap (itC 114)).drop (i*5)).length:=by rw[h];simp
   have z:i<r.length:=by omega
   obtain⟨v,E⟩:=Qao z;have s:r.getD i 0=v:=by rw[Zak,E];rfl
   have o:=hrn i x k;rw[s]at o;have d:(List.range c.rs.length)[i]?=some i:=by simp[b]
   have B:=has189 x.2.al e f.wf.al (by have:=Qcc f.wf;omega);have a:rfQ c r e i=(x.2.al.contains e&&(stepA x.2.es v e).isNone):=by unfold rfQ;rw[k];dsimp only;rw[s]
   have m:∀q:rfQ c r e i=false,i+1<=c.rs.length/\∀(j:Nat)y,j<i+1->(List.range c.rs.length)[j]?=some y->rfQ c r e y=false:=fun q=>⟨by omega,fun j y G C=>by
    by_cases J:j=i;·subst J;rw[d]at C;cases C;exact q
    exact w j y (by omega) C⟩;cases u:x.2.al.contains e;·rw[u,Zcg]at a;rw[u]at B;refine Zc1 (Zc7 b h A) ?_;refine cp B ?_;refine Zc0 ?_;refine⟨i+1,by omega,m a,?_⟩;exact⟨[],rfl,ZcB,ZcE,ZcD (Zct (Qae _)) (ZcD (Zct rfl) (ZcD (Zct g) au23))⟩
   have I:=step208 x.2 v e f.wf o (ZaE.1 u);rw[u,Zai]at a;rw[u]at B;refine Zc1 (Zc7 b h A) ?_;refine cp B ?_;refine Zc1 (Zc6 z (Qaz E)) ?_;refine cp I ?_;cases l:stepA x.2.es v e with|none=>rw[l]at a;refine Zc0 ?_;refine⟨.inr trivial,_,rfl,?_⟩;unfold rfI;rw[QcS d a w];rfl|some t=>rw[l]at a;refine Zc0 ?_;refine⟨i+1,by omega,m a,?_⟩;exact⟨[],rfl,ZcB,ZcE,ZcD (Zct (Qae _)) (ZcD (Zct rfl) (ZcD (Zct g) au23))⟩
  refine Zc1 b ?_;refine⟨(),fun x k=>?_,⟨[],rfl,au0,au26,au23⟩⟩;have:=Zat.1 k;exact w x x (by omega) (by simp[this])
 rintro _ w;refine Zc0 ?_;refine⟨.inr trivial,_,rfl,?_⟩;unfold rfI;rw[Qb5 w];rfl
def rfF(c:Cel)(k:Nat)(r:List Nat):AV:=.fn 123 [] [.fptr [.fptr (stC c)],.fptr [.int .i64 (k:Int)],.fptr [sliN r]]
theorem Qhm(c:Cel)(k:Nat)(r:List Nat):noRef (rfF c k r)=true:=by have:=Qea c;rw[noRef]at this;simp only[rfF,noRef,noRefs,Qad,this];rfl
theorem refused74(c:Cel)(k:Nat)(r:List Nat):PSpec Tryz.prog 64 [.fptr (stC c),.int .i64 (k:Int),sliN r] (rfF c k r):=by
 have a:=Qea c;refine Zcx 64 TQ.ok64 rfl (by rw[noRefs,a,noRefs,noRefs,Qae];rfl) (Qhm _ _ _) ?_;unfold rfF;have f:(AV.fptr (stC c)).boxable=true:=rfl;have hc:(AV.fptr (stC c)).cells=[.fptr (stC c)]:=rfl;have ho:(AV.fptr (stC c)).one=true:=rfl;generalize AV.fptr (stC c)=S at*;unfold TQ.s64;refine Zc1 (Zc7 f hc ho) ?_;refine⟨.inr trivial,_,rfl,?_⟩;refine Rn.fn ZcK (ZcL (Rn.frzp (b:=64) (g:=0) rfl (Zah _) (fun b d _ e=>by simp[π0]at e) (by simp) (Zcv ?_)) (ZcL (Rn.frzp (b:=65) (g:=0) rfl (Zah _) (fun b d _ e=>by simp[π0]at e) (by simp) (Zcv rfl)) (ZcL (Rn.frzp (b:=66) (g:=0) rfl (Zah _) (fun b d _ e=>by simp[π0]at e) (by simp) (Zcv ?_)) ZcK)));·show noRefs [S]=true;rw[noRefs,a];rfl
 show noRefs [sliN r]=true;rw[noRefs,Qae];rfl
end Go.AM.SO
namespace Go.AM.SO
open Go.Proofs Go.AM.SD Go.AM.SE
theorem Qum{l:List Aut}{Q:List Nat->Prop}{i e:Nat}{t:List Nat}{s:List (List Nat)×List Ed}(a:∀n,stepT l t e=some n->Q n)(h:∀x∈s.1,Q x):∀x∈(pEv l i t s e).1,Q x:=by grind[pEv]
theorem Qnu{l:List Aut}{Q:List Nat->Prop}{i:Nat}{t:List Nat}:∀{ev:List Nat}{s:List (List Nat)×List Ed},(∀e∈ev,∀n,stepT l t e=some n->Q n)->(∀x∈s.1,Q x)->∀x∈(pRow l ev i t s).1,Q x|[],s,_,h=>h|e::ev,s,b,h=>Qnu (ev:=ev) (s:=pEv l i t s e) (fun c a=>b c (by simp[a])) (Qum (fun n=>b e (by simp) n) h)
theorem QrW{l:List Aut}{ev:List Nat}{Q:List Nat->Prop}(a:∀t,Q t->∀e∈ev,∀n,stepT l t e=some n->Q n):∀{k i:Nat}{s:List (List Nat)×List Ed},(∀x∈s.1,Q x)->∀x∈(pQ l ev k i s).1,Q x|0,_,_,h=>h|k+1,i,s,h=>by unfold pQ;cases b:s.1[i]? with|none=>exact h|some t=>exact QrW a (Qnu (a t (h t (Zac b))) h)
theorem QpZ{A B:List Aut}{t n:List Nat}{e:Nat}(b:(A++B).length<=t.length)(h:stepT (A++B) t e=some n):stepT A (t.take A.length) e=some (n.take A.length):=by
 obtain⟨h1,g,c⟩:=(Qgb b).1 h;rw[Zae]at b;refine(Qgb (by grind)).2 ⟨by simp_all,fun i hi=>?_,fun i a hi d=>?_⟩;·grind
 have f:=c i a (by grind) (by grind);simp_all
theorem Qew{l:List Aut}(h:∀a∈l,WfI a){e:Nat}:e∈evA l↔∃a∈l,e∈a.al:=by
 rw[QfD,Qhw (fun y d=>by grind)];constructor;·grind
 rintro⟨a,b,c⟩;exact⟨_,Zan.2 ⟨a,b,rfl⟩,c⟩
theorem Qpg{c:Cel}(h:WfCel c){e:Nat}(he:e∈evA (allA c)):e∈evA (auL c.cs):=by
 have hA:=Qa5 h;obtain⟨a,b,d⟩:=(Qew (Qcd h)).1 he;rcases Zay.1 (show a∈auL c.cs++auL c.rs from b)with b|b;·grind[Qew]
 obtain⟨x,g,rfl⟩:=Zan.1 b;obtain⟨y,i,f⟩:=h.rsub x g e d;exact(Qew hA).2 ⟨y.2,Zan.2 ⟨y,i,rfl⟩,f⟩
theorem QfH{c:Cel}(h:WfCel c):∀t∈(sync0 (allA c)).1,InT (allA c) t/\t.take c.cs.length∈(sync0 (auL c.cs)).1:=by
 have hA:=Qa5 h;have b:=Qcd h;have m:=Qhk (fun a d=>(hA a d).pos) (fun a d=>(hA a d).wf.esn);have g:=Qgd (l:=allA c) (fun a d=>(b a d).pos);show∀t∈(pQ (allA c) (evA (allA c)) (box (allA c)+1) 0 ([List.replicate (allA c).length 0],[])).1,_;refine QrW (Q:=fun t=>InT (allA c) t/\t.take c.cs.length∈(sync0 (auL c.cs)).1) ?_ ?_;·rintro t⟨l,hp⟩e he n k;refine⟨Qgc (fun a d=>(b a d).wf.esn) l k,?_⟩;have f:=QpZ (A:=auL c.cs) (B:=auL c.rs) (Nat.le_of_eq l.1.symm) k;rw[Qa1]at f;exact m.cl _ _ (Qhj hp) (Qhz hp) e (Qpg h he) _ f
 intro x i;have i:x=List.replicate (allA c).length 0:=by simpa using i
 subst i;refine⟨g.inT _ (by simp),?_⟩;have:(List.replicate (allA c).length 0).take c.cs.length=List.replicate (auL c.cs).length 0:=by simp_all[Qb8]
 rw[this];exact sync_pre.subset (by simp)
theorem QjF{β:Type}{R:Nat->List β}{j:Nat}:∀{n:Nat},j<n->(List.range n).flatMap (fun x=>if x=j then R x else[])=R j
 |0,h=>absurd h (ZaB _)|n+1,h=>by
  rw[ZaQ,Zar,ZaA,Zb7,Zaq];by_cases e:n=j
  ·subst e;rw[if_pos rfl];have:∀{m:Nat},m<=n->(List.range m).flatMap (fun x=>if x=n then R x else[])=[]:=fun{m}hm=>by rw[List.flatMap_eq_nil_iff];grind
   grind
  rw[if_neg e,Zaq,QjF (by omega)]
theorem QlA{l:List Aut}(h:∀a∈l,WfI a){j:Nat}{t:List Nat}(f:(sync0 l).1[j]?=some t):sOut (syncA l).es (fun _=>true) j=rowE l (evA l) (sync0 l).1 j t:=by
 have i:=Qhk (fun a c=>(h a c).pos) (fun a c=>(h a c).wf.esn);have b:j<(sync0 l).1.length:=(Zaf.1 f).1;unfold sOut;show(sync0 l).2.filter _=_;rw[i.ed,List.filter_flatMap];have g:(sync0 l).1.getD j []=t:=by simp_all
 rw[<-g,<-QjF (R:=fun x=>rowE l (evA l) (sync0 l).1 x ((sync0 l).1.getD x [])) b];refine flatMap_congr' fun x k=>?_;by_cases e:x=j;·rw[if_pos e];refine ZbU.2 fun y d=>?_;have:=(Qev d).1;simp[this,e]
 rw[if_neg e];refine List.filter_eq_nil_iff.2 fun y d=>?_;have:=(Qev d).1;simp[this,e]
theorem Qnv{A B:List Aut}{t:List Nat}(h:InT (A++B) t):InT A (t.take A.length):=by refine⟨by rw[Zaw,h.1,Zae];omega,fun i a b=>?_⟩;have hi:i<A.length:=(Zaf.1 b).1;have:=h.2 i a (by grind);simp_all
theorem QiO{A B:List Aut}{t:List Nat}(h:InT (A++B) t):InT B (t.drop A.length):=by refine⟨by rw[Zba,h.1,Zae];omega,fun i a b=>?_⟩;have:=h.2 (A.length+i) a (by grind);simp_all
end Go.AM.SO
namespace Go.AM
variable{P:Program}
theorem RSpec.of_wS{b N n:Nat}{T:Tmps}{c:List Nat}{a body:SCode}{args:List AV}{h h':Heap}{v:AV}(f:(noLoop a&&noLoop body)=true)(l:h.get b=some (.loop 0 N T c (.s a) (.s body) .ready))(k:Nat.blt b 1099511627775=true)(hlen:args.length=c.length)(i:(c.all fun p=>Nat.blt p N)=true)(hw:wS P ⟨N,0⟩ a [] n (upsT T c args) h fun e T1 h1 g=>e=.normal/\h1.get b=some (.loop 0 N T c (.s a) (.s body) .ready)/\wS P ⟨N,0⟩ body [] g T1 (h1.set b (.loop 0 N T c (.s a) (.s body) .busy)) fun e T2 d _=>d.get b=some (.loop 0 N T c (.s a) (.s body) .busy)/\v=.bool e.isNormal/\∀x,(d.set b (.loop 0 N T c (.s a) (.s body) (stOf e))).get x=h'.get x):RSpec P b 0 args h v h':=by simp only[Zaa]at f;refine RSpec.of_W l (by simpa[lim]using k) hlen (fun p hp=>by simp_all) ((wpC.toW1 f.1 hw).mono ?_);rintro e B⟨g,rfl,h1,d⟩;refine⟨rfl,N,T,c,.s a,.s body,h1,(wpC.toW1 f.2 d).mono ?_⟩;rintro e C⟨m,k1,k2,k3⟩;grind
section
variable{k m n:Nat}{T:Tmps}{h:Heap}{Q:QC}{fs:List Fr}
theorem QlB{g:Opd}{l:List Nat}{a body:SCode}{f b n':Nat}{first cap:List AV}{v:AV}{p:Heap}{T' T2:Tmps}{L:HL}{N2:Nat}{i:List Nat}{o c:LCode}{st:LSt}(s:Rec m T' L T h)(t:ev T' g=.fn f first cap)(r:(hp L).get b=none)(u:Nat.blt b 1099511627775=true)(q:HSpec P f (first++[.yld b 0]++cap) ((hp L).set b (.loop 0 k T' l (.s a) (.s body) .ready)) v p)(d:p.get b=some (.loop 0 N2 T2 i o c st))(hQ:leftQ (fun e B=>wX P ⟨k,m⟩ e fs n' B.T B.h Q) ⟨T',p.set b (.dead 0)⟩ st):wS P ⟨k,m⟩ (.rfunc g l k a body) fs n T h Q:=by show W2 P ⟨k,m⟩ (.rfunc g l k a body) (fun e B=>∃n,ct P ⟨k,m⟩ fs Q e B.T B.h n) ⟨T,h⟩;refine W2.recL s (W2.of_W (W.rfunc (las:=.s a) (lbody:=.s body) rfl rfl t r (by simpa[lim]using u) q d ?_));cases st with|ready=>exact⟨n',hQ⟩|busy=>exact hQ|done e=>exact⟨hQ.1,n',hQ.2⟩
theorem cy{N:NM}{b g:Nat}{args:List AV}{v:AV}{h1:Heap}{d:Option Nat}{ops:List SOper}{dead:List Nat}(a:RSpec P b g args h v h1)(hk:wR P N ops dead fs (n+1) (putD T d v) h1 Q):wCall P N .heap (.yld b g) args d ops dead fs n T h Q:=⟨_,_,a,hk⟩
theorem W2.weakE{N:NM}{c:SCode}{Q:SX->St->Prop}{T L:Tmps}{h h':Heap}(a:Sub L T)(he:∀b,h.get b=h'.get b)(hw:W2 P N c Q ⟨L,h'⟩):W2 P N c Q ⟨T,h⟩:=W2.weak a (W2.congr hw ⟨fun _=>rfl,he⟩)
def loopI(P:Program)(k m:Nat){α:Type}(env:α->Tmps)(H:α->Heap)(I:α->Prop)(μ:α->Nat)(a:α)(fs:List Fr)(Q:QC):QC:=fun e T h n=>match e with|.normal=>∃c,μ c<μ a/\I c/\Sub (env c) T/\∀b,h.get b=(H c).get b|e=>wX P ⟨k,m⟩ e fs n T h Q
section
variable{α:Type}{env:α->Tmps}{H:α->Heap}{I:α->Prop}{μ:α->Nat}{a:α}
theorem Qbh:loopI P k m env H I μ a fs Q .normal T h n=∃c,μ c<μ a/\I c/\Sub (env c) T/\∀b,h.get b=(H c).get b:=rfl
theorem Qby{i:Nat}:loopI P k m env H I μ a fs Q (.exit i) T h n=wX P ⟨k,m⟩ (.exit i) fs n T h Q:=rfl
theorem QbI:loopI P k m env H I μ a fs Q .ret T h n=wX P ⟨k,m⟩ .ret fs n T h Q:=rfl
theorem Qtc{b:SCode}(s:Nat)(env:α->Tmps)(H:α->Heap)(I:α->Prop)(μ:α->Nat)(a0:α)(p:Sub (env a0) T)(g:∀b,h.get b=(H a0).get b)(l:I a0)(round:∀a,I a->wS P ⟨k,m⟩ b [] s (env a) (H a) (loopI P k m env H I μ a fs Q)):wS P ⟨k,m⟩ (.loop b) fs n T h Q:=by show W2 P ⟨k,m⟩ (.loop b) (fun e B=>∃n,ct P ⟨k,m⟩ fs Q e B.T B.h n) ⟨T,h⟩;refine W2.loop (fun q B=>∃a,μ a=q/\I a/\Sub (env a) B.T/\∀b,B.h.get b=(H a).get b) (μ a0) ⟨a0,rfl,l,p,g⟩ ?_;rintro q B⟨a,rfl,hi,r,he⟩;refine W2.weakE r he ((Zcw (round a hi)).mono ?_);rintro e C⟨d,c⟩;cases e with|normal=>obtain⟨f,h1,t,o⟩:=c;exact⟨μ f,h1,f,rfl,t,o⟩|exit i=>exact⟨d,c⟩|ret=>exact⟨d,c⟩
end
end
theorem HSpec.of_I{f:Nat}{sf:SFn}{args:List AV}{h h':Heap}{v:AV}(m n:Nat)(a:okFn P f sf=true)(r:Nat.ble args.length sf.n=true)(hm:Fresh m h)(hw:wS P ⟨sf.n,m⟩ sf.body [] n (argT 0 args) h fun e T k _=>(e=.normal\/e=.ret)/\∃vs,resV T k sf.res=some vs/\resOf vs=v/\∀b,k.get b=h'.get b):HSpec P f args h v h':=by
 obtain⟨_,_,_,_,_,_,_,hc⟩:=Qch a;refine⟨hc,fun c w d H o=>(Qdk (m:=m) (R:=fun vs k=>resOf vs=v/\∀b,k.get b=h'.get b) a (Zau r) ((Zcw hw).mono fun e B⟨_,h1,vs,i,s⟩=>⟨h1,vs,i,s⟩) H o).mono ?_⟩;rintro e t⟨q,l,vs,k,rfl,E,H',V,rfl,hk⟩;refine⟨q,l,rfl,⟨E.os,E.tape,E.output,E.size,E.shape,E.keep,fun b g p hp=>?_,E.frz,E.frzNew,E.own,E.base⟩,Qb2 hk H',V⟩;rcases ZbE b m with h1|h1;·exact E.rho b g p h1 hp
 rw[H.fresh b (hm b h1) g]at hp;cases hp
end Go.AM
namespace Go.AM.SO
open Go.Proofs Go.AM.SD Go.AM.SE
def ylE(c:Cel)(r:List Nat)(e:Nat):Option (Nat×Int):=if 0<=rfI c r e then some (e,rfI c r e)else none
def yls(c:Cel)(k:Nat)(r:List Nat):List (Nat×Int):=(evO (syncA (auL c.cs)) k).filterMap (ylE c r)
theorem fm_at{α β:Type}{f:α->Option β}{l:List α}{i:Nat}{x:α}{y:β}(b:l[i]?=some x)(c:f x=some y):(l.filterMap f)[((l.take i).filterMap f).length]?=some y:=by
 have hi:i<l.length:=(Zaf.1 b).1;have e:l=l.take i++x::l.drop (i+1):=by have a:l[i]=x:=(Zaf.1 b).2;rw[<-a,List.getElem_cons_drop,List.take_append_drop]
 have d:l.filterMap f=(l.take i).filterMap f++y::(l.drop (i+1)).filterMap f:=by
  conv=>lhs;rw[e]
  rw[List.filterMap_append,ZbA,c]
 rw[d,ZbK (ZaN _),Nat.sub_self,Zbn]
theorem Qun{α β:Type}{f:α->Option β}{l:List α}{i:Nat}{x:α}(a:l[i]?=some x):((l.take (i+1)).filterMap f).length=((l.take i).filterMap f).length+(match f x with|some _=>1|none=>0):=by rw[take_succ' a,List.filterMap_append,Zae,ZbA];cases f x<;>rfl
theorem Quo{c:Cel}{r:List Nat}{e:Nat}:-1<=rfI c r e/\rfI c r e<=c.rs.length:=by have:=@QcN _ (rfQ c r e) (List.range c.rs.length);unfold rfI;rw[ZbS]at this;omega
theorem refused160(c:Cel)(hw:WfCel c){k:Nat}(hk:k<(syncA (auL c.cs)).n)(r:List Nat)(L:r.length=c.rs.length)(hrn:∀(i:Nat)y,c.rs[i]?=some y->r.getD i 0<y.2.n){b m:Nat}(H:Nat->Heap)(H':Heap)(n:Nat)(hf:Fresh m (H 0))(M:n<=(yls c k r).length)(hY:∀(j:Nat)y,j<n->(yls c k r)[j]?=some y->RSpec Tryz.prog b 0 [.int .i64 (y.1:Int),.int .i64 y.2] (H j) (.bool true) (H (j+1)))(E:(n=(yls c k r).length/\H'=H n)\/∃y,(yls c k r)[n]?=some y/\RSpec Tryz.prog b 0 [.int .i64 (y.1:Int),.int .i64 y.2] (H n) (.bool false) H'):HSpec Tryz.prog 123 [.yld b 0,.fptr [.fptr (stC c)],.fptr [.int .i64 (k:Int)],.fptr [sliN r]] (H 0) (.tup []) H':=by
 refine HSpec.of_I m 1099511627000 TR.ok123 rfl hf ?_;have s:=enabled161 (syncA (auL c.cs)) k (QdM (Qa5 hw) (by rw[Qa1];have:=hw.c3;omega)).toWfA hk;have K:=fun e=>refuser162 c hw r e L hrn;have G:=fun e=>@Quo c r e;have J:(evO (syncA (auL c.cs)) k).length<=1220:=by unfold evO;rw[Zaz];exact Zav (ZaG ..) (QdM (Qa5 hw) (by rw[Qa1];have:=hw.c3;omega)).el
 have u:stC c=stC c:=rfl;conv at u=>rhs;rw[stC]
 have N:∃S,S=AV.fptr (stC c):=⟨_,rfl⟩;unfold yls at M hY E;rw[stC]at*;generalize evO (syncA (auL c.cs)) k=o at*;generalize syncA (auL c.cs)=p at*;generalize syncA (allA c)=q at*;generalize(sync0 (auL c.cs)).1=P at*;generalize(sync0 (allA c)).1=T at*;unfold TR.s123;refine Zc5 (Zda @Qaa @Qab @Qac @Qbh @Qby @QbI) ?_;refine cp s ?_;refine Zc5 (Zda @Qaa @Qab @Qac @Qbh @Qby @QbI) ?_;refine Qtc 1099511627100 (fun i:Nat=>[(0,.yld b 0),(1,.fptr [.fptr (stG c p q P T)]),(3,.fptr [sliN r]),(19,sliN o),(20,.int .i64 o.length),(21,.int .i64 i)]) (fun i=>H ((o.take i).filterMap (ylE c r)).length) (fun i=>i<=o.length/\((o.take i).filterMap (ylE c r)).length<=n) (fun i=>o.length-i) 0 ?_ (fun _=>rfl) ⟨Zah _,Zah _⟩ ?_;·repeat(first|exact Sub.nil|refine Sub.cons (by first|rfl|(rw[ZaX];rfl)) ?_)
 rintro i⟨hi,hc⟩;by_cases d:i<o.length
 ·obtain⟨x,B⟩:=Qao d;have a:=Qun (f:=ylE c r) B;have t:=K x;have Q:=G x;by_cases z:0<=rfI c r x
  ·have g:ylE c r x=some (x,rfI c r x):=by unfold ylE;rw[if_pos z]
   have f:=fm_at B g;rw[g]at a;rcases ZbE ((o.take i).filterMap (ylE c r)).length n with A|I;·have l:=hY _ _ A f;dsimp only at l a;rw[<-a]at l;refine Zc5 (Zdc d (Qaz B) @Qaa @Qab @Qac @Qbh @Qby @QbI) ?_;refine cp t ?_;generalize rfI c r x=v at*;refine Zc5 (Zdb z @Qaa @Qab @Qac @Qbh @Qby @QbI) ?_;refine cy l ?_;refine Zc5 (Zda @Qaa @Qab @Qac @Qbh @Qby @QbI) ?_;refine⟨i+1,by omega,⟨by omega,by omega⟩,?_,fun _=>rfl⟩;repeat(first|exact Sub.nil|refine Sub.cons (by first|rfl|(rw[ZaX];rfl)) ?_)
   have h:((o.take i).filterMap (ylE c r)).length=n:=by omega
   rcases E with⟨he,_⟩|⟨y,C,w⟩;·have :=(Zaf.1 f).1;omega
   rw[h]at f⊢;rw[f]at C;cases C;dsimp only at w;refine Zc5 (Zdc d (Qaz B) @Qaa @Qab @Qac @Qbh @Qby @QbI) ?_;refine cp t ?_;generalize rfI c r x=v at*;refine Zc5 (Zdb z @Qaa @Qab @Qac @Qbh @Qby @QbI) ?_;refine cy w ?_;refine Zc5 (Zda @Qaa @Qab @Qac @Qbh @Qby @QbI) ?_;exact⟨.inr trivial,_,rfl,rfl,fun _=>trivial⟩
  have g:ylE c r x=none:=by unfold ylE;rw[if_neg z]
  rw[g]at a;dsimp only at a;refine Zc5 (Zdc d (Qaz B) @Qaa @Qab @Qac @Qbh @Qby @QbI) ?_;refine cp t ?_;generalize rfI c r x=v at*;refine Zc5 (Zdb z @Qaa @Qab @Qac @Qbh @Qby @QbI) ?_;refine⟨i+1,by omega,⟨by omega,by omega⟩,?_,fun _=>by rw[a];rfl⟩;repeat(first|exact Sub.nil|refine Sub.cons (by first|rfl|(rw[ZaX];rfl)) ?_)
 have e:i=o.length:=by omega
 subst e;rw[Zao]at hc⊢;have h:n=(o.filterMap (ylE c r)).length:=by omega
 refine Zc5 (Zdb d @Qaa @Qab @Qac @Qbh @Qby @QbI) ?_;refine⟨.inl trivial,_,rfl,rfl,fun _=>?_⟩;rcases E with⟨_,he⟩|⟨y,C,_⟩;·rw[he,h]
 rw[ZaF (by omega)]at C;cases C
end Go.AM.SO
namespace Go.AM.SO
open Go.Proofs Go.AM.SD Go.AM.SE
theorem clone41(l:List Nat)(a:l.length<=1000000):PSpec Tryz.prog 41 [sliN l] (sliN l):=by
 have h:=(clone56 l a).freeze (b:=83) (g:=0) (ds:=ints (nz l)) gg (by
  have:∀m:List Int,flatVs (ints m)=true:=fun m=>by induction m with|nil=>rfl|cons x m b=>simp only[ints,ZaO,flatVs,Zaa];exact⟨rfl,b⟩
  exact this _) (by simp[ints]) rfl;have e:(ints (nz l)).take (l.length*1)=ints (nz l):=by rw[Za1 (by simp[ints])]
 rw[e]at h;exact⟨by rw[noRefs,Qae];rfl,Qae _,_,h⟩
abbrev lpA:SCode:=(.seq (.region [Zm 16 100 []] [] [99,100]) (.region [Zm 17 101 []] [] [101]))
abbrev lpB:SCode:=(.block 3 (.seq (.region [Zf 102 0 1 [],Zl 103 102 [0],Zm 104 16 [],Zi 105 5 103 104 [1,2],Zf 106 1 105 [3],Zl 107 106 [4],Zz 108 (.un .not (.t 107)) [5]] [] [102,103,104,105,106,107]) (.cond (.t 108) (.seq (.region [Zf 109 7 6 [],Zl 110 109 [0],Zl 111 7 [],Zm 112 17 [],Zm 113 16 [],Zz 114 (.build [(.int .i64 0),(.int .i64 0),(.int .i64 0),(.int .i64 0)] [(0,1,(.t 111)),(1,1,(.c (.int .i64 3))),(2,1,(.t 112)),(3,1,(.t 113))]) [2,3,4],Zz 115 (.bslice false .dyn 4 1 [(.int .i64 0),(.int .i64 0),(.int .i64 0),(.int .i64 0)] [(0,4,(.t 114))]) [5],Zz 116 (.append .dyn 4 32 (.t 110) (.t 115)) [1,6],Zf 117 7 6 (Za [] 8),Zs 1 117 116 (Za [8,7,7] 8)] [] [7,16,17,108,109,110,111,112,113,114,115,116,117]) (.exit 2)) .skip)))
def rsn(c:Cel)(i:Nat)(t:List Nat):Option (Nat×Int×Int×Int):=if(vioV (t.take c.cs.length) c.xs c.ks).2.2=true then some (i,(vioV (t.take c.cs.length) c.xs c.ks).1,(vioV (t.take c.cs.length) c.xs c.ks).2.1,-1)else((yls c (ixT (sync0 (auL c.cs)).1 (t.take c.cs.length)) (t.drop c.cs.length)).find? fun y=>!(c.ev y.1).c).map fun y=>(i,3,y.2,(y.1:Int))
def rsC(x:Nat×Int×Int×Int):List AV:=[.int .i64 (x.1:Int),.int .i64 x.2.1,.int .i64 x.2.2.1,.int .i64 x.2.2.2]
def rsnO(c:Cel)(i:Nat):List (Nat×Int×Int×Int):=(rsn c i ((sync0 (allA c)).1.getD i [])).toList
def forb(c:Cel)(n:Nat):List (Nat×Int×Int×Int):=(List.range n).flatMap (rsnO c)
theorem Qhn(c:Cel)(n:Nat):forb c (n+1)=forb c n++rsnO c n:=by unfold forb;rw[ZaQ,Zar];simp
theorem Qgm(c:Cel):∀n,(forb c n).length<=n
 |0=>by simp[forb]|n+1=>by
  have:=Qgm c n;rw[Qhn,Zae];have:(rsnO c n).length<=1:=by unfold rsnO;cases rsn c n _<;>simp
  omega
abbrev rss(l:List (Nat×Int×Int×Int)):AV:=.fsl (l.flatMap rsC) l.length 4
theorem Qnw(l:List (Nat×Int×Int×Int)):(l.flatMap rsC).length=l.length*4:=Qba (k:=4) (fun _=>rfl) l
theorem Qbo(l:List (Nat×Int×Int×Int)):noRefs (l.flatMap rsC)=true:=by induction l with|nil=>rfl|cons x l a=>rw[ZaA];exact SU.Qau rfl a
def spA(c:Cel)(T:List (List Nat)):List (List Nat):=T.map fun t=>t.take c.cs.length
def spB(c:Cel)(T:List (List Nat)):List (List Nat):=T.map fun t=>t.drop c.cs.length
def spP(c:Cel)(P T:List (List Nat)):List Nat:=T.map fun t=>ixT P (t.take c.cs.length)
abbrev spG(c:Cel)(q:Aut)(P T:List (List Nat)):List AV:=[sliN q.al,.int .i64 (q.n:Int),sliN q.ms,egsN q.es,tuV (spA c T),tuV (spB c T),sliN (spP c P T),rss (forb c T.length)]
def spC(c:Cel):List AV:=spG c (syncA (allA c)) (sync0 (auL c.cs)).1 (sync0 (allA c)).1
theorem QjG(c:Cel)(q:Aut)(P T:List (List Nat)):noRefs (spG c q P T)=true:=by
 have a:noRef (rss (forb c T.length))=true:=by rw[noRef];exact Qbo _
 simp only[noRefs,Qae,Qah,Qa9,a,Zai,Zad];rfl
theorem Qnx{α:Type}{p:α->Bool}:∀{l:List α}{y:α},l.find? p=some y->∃n:Nat,l[n]?=some y/\p y=true/\∀(j:Nat)z,j<n->l[j]?=some z->p z=false|[],y,h=>by simp at h|x::l,y,h=>by rw[List.find?_cons]at h;cases hp:p x with|true=>rw[hp]at h;cases h;exact⟨0,rfl,hp,fun j z b=>absurd b (ZaB _)⟩|false=>rw[hp]at h;obtain⟨n,h1,c,d⟩:=Qnx h;refine⟨n+1,by simpa using h1,c,fun j z b a=>?_⟩;cases j with|zero=>simp at a;subst a;exact hp|succ j=>exact d j z (by omega) (by simpa using a)
theorem QbX{f:Nat->Evt}{e:Nat}(h:e<5):(evsC f).drop (e*5)=evC e (f e)++(evsC f).drop ((e+1)*5):=by
 obtain rfl|rfl|rfl|rfl|rfl:e=0\/e=1\/e=2\/e=3\/e=4:=by omega
 all_goals rfl
theorem QjH{c:Cel}(h:WfCel c){k:Nat}{r:List Nat}{y:Nat×Int}(b:y∈yls c k r):y.1<5:=by
 unfold yls at b;obtain⟨e,he,a⟩:=Zbs.1 b;unfold ylE at a;split at a;·cases a;unfold evO at he;obtain⟨x,d,rfl⟩:=Zan.1 he;have hw:=QdM (Qa5 h) (by rw[Qa1];have:=h.c3;omega);exact hw.a5 _ (hw.ev x (ZaM.1 d).1)
 cases a
theorem Qup{c:Cel}{i:Nat}{t:List Nat}(a:(vioV (t.take c.cs.length) c.xs c.ks).2.2=true):(rsn c i t).toList=[(i,(vioV (t.take c.cs.length) c.xs c.ks).1,(vioV (t.take c.cs.length) c.xs c.ks).2.1,-1)]:=by unfold rsn;rw[if_pos a];rfl
theorem QvE{c:Cel}{i:Nat}{t:List Nat}(a:(vioV (t.take c.cs.length) c.xs c.ks).2.2=false):(rsn c i t).toList=(((yls c (ixT (sync0 (auL c.cs)).1 (t.take c.cs.length)) (t.drop c.cs.length)).find? fun y=>!(c.ev y.1).c).map fun y=>(i,3,y.2,(y.1:Int))).toList:=by unfold rsn;rw[if_neg (by simp[a])]
theorem set3{h:Heap}{k j:Nat}{a b c:Blk}(hk:Nat.blt k 1099511627775=true):(((h.set k a).set k b).set k c).get j=(h.set k c).get j:=by
 have d:k<1099511627775:=by simpa using hk
 by_cases e:j=k;·subst e;rw[QaA d,QaA d]
 rw[QaH d e,QaH d e,QaH d e,QaH d e]
theorem set6{h:Heap}{k k1 k2 k3 j:Nat}{a b u v w d:Blk}(hk:(Nat.blt k 1099511627775&&Nat.blt k1 1099511627775&&Nat.blt k2 1099511627775&&Nat.blt k3 1099511627775)=true):((((((h.set k a).set k b).set k1 u).set k2 v).set k3 w).set k d).get j=((((h.set k1 u).set k2 v).set k3 w).set k d).get j:=by
 simp only[Zaa,Zb4]at hk;obtain⟨⟨⟨h1,c⟩,f⟩,g⟩:=hk;by_cases e:j=k;·subst e;rw[QaA h1,QaA h1]
 rw[QaH h1 e,QaH h1 e];by_cases m:j=k3;·subst m;rw[QaA g,QaA g]
 rw[QaH g m,QaH g m];by_cases l:j=k2;·subst l;rw[QaA f,QaA f]
 rw[QaH f l,QaH f l];by_cases i:j=k1;·subst i;rw[QaA c,QaA c]
 rw[QaH c i,QaH c i,QaH h1 e,QaH h1 e]
theorem _root_.Go.AM.au27{p:Prop}(h:p:=by repeat(first|exact ZcC|(refine ZcD ?_ ?_;·(first|exact Rn.any|exact Rn.x1 rfl rfl|exact Rn.x2 rfl rfl|exact Rn.x3 rfl rfl|exact Rn.x4 rfl rfl|exact Rn.x5 rfl|exact Rn.x6 rfl|exact Rn.x7 rfl|(refine Rn.slot ?_ ?_;(first|rfl|(rw[ZaX];rfl));(first|rfl|(simp only[noRef,noRefs,Qag,Zag,Zad,Zai,Qad,Qan,Qae,Qah,QaV,Qaf,SU.Qbz,Qa9];done)))|(refine Rn.fn ?_ ?_<;>(repeat'(first|exact ZcK|refine ZcL ?_ ?_|exact Zct rfl|exact Rn.x6 rfl|exact Rn.x2 rfl rfl|exact Rn.x5 rfl|exact Rn.x1 rfl rfl))))))):p:=h
theorem specify18(c:Cel)(h:WfCel c):PSpec Tryz.prog 17 [celV c] (.tup [.agg (spC c),.int .i64 0]):=by
 have s:=QaY c;have hns:noRef (.tup [.agg (spC c),.int .i64 0])=true:=by rw[noRef,noRefs,noRef,spC,QjG];rfl
 refine Zcx 64 TQ.ok17 rfl (by rw[noRefs,SU.QaK];rfl) hns ?_;have h0:=h.c0;have h3:=h.c3;have h2:=h.r2;have hO:=open70 c h;have hin:=QfH h;have hPi:=Qfz (fun a ha=>(Qa5 h a ha).pos) fun a ha=>(Qa5 h a ha).wf.esn;have R:=QiM (Qcd h) (by rw[Qb8];omega);have hT243:=R.2.1;clear R;have hPin:∀x∈(sync0 (auL c.cs)).1,InT (auL c.cs) x:=hPi.inT;have hpn:(syncA (auL c.cs)).n=(sync0 (auL c.cs)).1.length:=rfl;have l:=fun t(u:c.cs.length<=t.length)=>split71 c t h0 u;have X:=fun t(u:InT (auL c.cs) t)=>violated73 c h u;have S:=fun k r=>refused74 c k r;have Q:=fun{k:Nat}hk r hr hrn{b m:Nat}H H' n=>@refused160 c h k hk r hr hrn b m H H' n;have hrs:∀i t,(sync0 (allA c)).1[i]?=some t->rsnO c i=(rsn c i t).toList:=fun i t u=>by unfold rsnO;rw[Zak,u];rfl
 have hrv:=fun i t=>@QvE c i t;have hle:=Qgm c;have hsu:=Qhn c;have hst:=Qe9 c (syncA (auL c.cs)) (syncA (allA c)) (sync0 (auL c.cs)).1 (sync0 (allA c)).1;rw[spC]at*;rw[stC]at hO l S;generalize syncA (auL c.cs)=p at*;generalize syncA (allA c)=q at*;generalize(sync0 (auL c.cs)).1=P at*;generalize(sync0 (allA c)).1=T at*;have o:=Qa9 T;have M:noRef (.fptr (stG c p q P T))=true:=by rw[noRef];exact hst
 have hnc:=SU.QaK c;unfold TQ.s17;refine Zc0 ?_;refine cp hO ?_;refine Zc0 ?_;refine Qap 200 (fun i:Nat=>[(1,.ptr 51 0 0),(2,.ptr 53 0 0),(4,.fptr (stG c p q P T)),(6,.ptr 52 0 0),(35,tuV T),(36,.int .i64 T.length),(37,.int .i64 i)]) (fun i=>[(51,.cells 0 [evsV c.ev,its 99 c.cs,its 114 c.rs,exs c.xs,cos c.ks]),(52,.cells 0 [sliN q.al,.int .i64 (q.n:Int),sliN q.ms,egsN q.es,.sl 60 0 0 i 1,.sl 61 0 0 i 1,.sl 62 0 0 i 1,.sl 63 0 0 (forb c i).length 4]),(53,.cells 0 [.nilsl,.int .i64 0,.nilsl,.nilsl,.nilsl,.nilsl,.nilsl,.nilsl]),(60,.cells 0 ((spA c (T.take i)).map sliN)),(61,.cells 0 ((spB c (T.take i)).map sliN)),(62,.cells 0 (ints (nz (spP c P (T.take i))))),(63,.cells 0 ((forb c i).flatMap rsC))]) (fun i=>i<=T.length) (fun i=>T.length-i) 0 0 400 (fun _:Unit=>[(2,.ptr 53 0 0),(6,.ptr 52 0 0)]) (fun _=>[(52,.cells 0 (spG c q P T)),(53,.cells 0 [.nilsl,.int .i64 0,.nilsl,.nilsl,.nilsl,.nilsl,.nilsl,.nilsl])]) (fun _=>True) ?_ (Zah _) ?_ ?_;·refine⟨[(51,.blk 64 0),(52,.blk 81 0),(53,.blk 65 0),(60,.nil),(61,.nil),(62,.nil),(63,.nil)],rfl,ZcB,?_,ZcD (Rn.x2 rfl rfl) (ZcD (Rn.x2 rfl rfl) (ZcD (Zct M) (ZcD (Rn.x2 rfl rfl) (ZcD (Zct o) au27))))⟩;exact ZcF rfl rfl gg (Zcv s) (ZcF rfl rfl gg (ZcL (Zct (Qae _)) (ZcL (Zct rfl) (ZcL (Zct (Qae _)) (ZcL (Zct (Qah _)) (ZcL (Rn.x4 rfl rfl) (ZcL (Rn.x4 rfl rfl) (ZcL (Rn.x4 rfl rfl) (ZcL (Rn.x4 rfl rfl) ZcK)))))))) (ZcF rfl rfl gg (Zcv rfl) (ZcG rfl rfl (ZcG rfl rfl (ZcG rfl rfl (ZcG rfl rfl ZcE))))))
 ·rintro i hi;by_cases V:i<T.length
  ·obtain⟨t,u⟩:=Qao V;obtain⟨hit,hpt⟩:=hin t (Zac u);have htl:c.cs.length<=t.length:=by rw[hit.1,Qb8];omega
   have J:=Qnv (A:=auL c.cs) (B:=auL c.rs) hit;have L:=QiO (A:=auL c.cs) (B:=auL c.rs) hit;rw[Qa1]at J L;have hl1:(t.take c.cs.length).length<=3:=by rw[Zaw];omega
   have hl2:(t.drop c.cs.length).length<=2:=by rw[L.1,Qa1];omega
   have hsp:=l t htl;have hky:=key72 h J;have hv:=X _ J;have hcl1:=clone41 (t.take c.cs.length) (by omega);have hcl2:=clone41 (t.drop c.cs.length) (by omega);have hk:=Qhj hpt;have Y:(spA c (T.take (i+1))).map sliN=(spA c (T.take i)).map sliN++[sliN (t.take c.cs.length)]:=by unfold spA;rw[take_succ' u];simp
   have hib:(spB c (T.take (i+1))).map sliN=(spB c (T.take i)).map sliN++[sliN (t.drop c.cs.length)]:=by unfold spB;rw[take_succ' u];simp
   have Z:spP c P (T.take (i+1))=spP c P (T.take i)++[ixT P (t.take c.cs.length)]:=by unfold spP;rw[take_succ' u];simp
   have hla:((spA c (T.take i)).map sliN).length=i:=by unfold spA;simp;omega
   have hlb:((spB c (T.take i)).map sliN).length=i:=by unfold spB;simp;omega
   have hlp:(ints (nz (spP c P (T.take i)))).length=i:=by unfold spP;simp[ints];omega
   have I:=Qnw (forb c i);have hlf2:=hle i;have B:=hrs i t u;have hsi:=hsu i;have N:=hrv i t;have G:=@Qup c i t;have hk:ixT P (t.take c.cs.length)<p.n:=by rw[hpn];exact hk
   have hr2:(t.drop c.cs.length).length=c.rs.length:=by rw[L.1,Qa1]
   have U:∀(j:Nat)y,c.rs[j]?=some y->(t.drop c.cs.length).getD j 0<y.2.n:=fun j y hy=>L.2 j y.2 (by rw[ZaD,hy];rfl);have hfa:∀z,(forb c i++[z]).flatMap rsC=(forb c i).flatMap rsC++rsC z:=fun z=>by simp
   have A:noRefs [sliN (t.take c.cs.length)]=true:=by rw[noRefs,Qae];rfl
   have C:noRefs [sliN (t.drop c.cs.length)]=true:=by rw[noRefs,Qae];rfl
   generalize spA c (T.take i)=LA at*;generalize spB c (T.take i)=LB at*;generalize spP c P (T.take i)=LP at*;generalize t.take c.cs.length=t1 at*;generalize t.drop c.cs.length=t2 at*;generalize vioV t1 c.xs c.ks=v at*;obtain⟨v1,v2,v3⟩:=v;dsimp only at N G hv;have hrf:=S (ixT P t1) t2;refine Zc1 (Zc6 V (QfF u)) ?_;refine cp hsp ?_;refine Zc0 ?_;refine cp hky ?_;refine Zc0 ?_;refine Qdn (c:=keyC) (f:=ixV P) (x:=t1) (l:=P) (Qhl (fun a ha=>(Qa5 h a ha).j) J hPin) hpt ?_;simp(disch:=first|omega|exact PairsOK.mk rfl|(simp only[lenW]<;>omega))only[ixV,Qaa,Qab,Qac,wW,wV,simprocAttr];refine Qbj [(56,[60]),(62,[61]),(68,[62])] rfl rfl ?_;refine Zc0 ?_;refine cp hcl1 ?_;refine Zc0 ?_;refine cp hcl2 ?_;refine Zc1 (Zc7 hla hlb hlp) ?_;refine⟨⟨⟨_,rfl,fun b hb=>hb⟩,⟨_,rfl,fun b hb=>hb⟩,⟨_,rfl,fun b hb=>hb⟩,trivial⟩,?_⟩;refine cp hv ?_;cases v3 with|true=>have d:=G rfl;refine Zc1 I ?_;refine⟨i+1,by omega,by omega,?_⟩;rw[Y,hib,Z,hsi,B,d,hfa,Zae,QaD,Qay];refine⟨[(51,.blk 51 0),(52,.blk 52 0),(53,.blk 53 0),(60,.blk 60 1),(61,.blk 61 1),(62,.blk 62 1),(63,.blk 63 1)],rfl,ZcB,?_,ZcD (Rn.x2 rfl rfl) (ZcD (Rn.x2 rfl rfl) (ZcD (Zct M) (ZcD (Rn.x2 rfl rfl) (ZcD (Zct o) au27))))⟩;exact ZcF rfl rfl gg (Zcv s) (ZcF rfl rfl gg (ZcL (Zct (Qae _)) (ZcL (Zct rfl) (ZcL (Zct (Qae _)) (ZcL (Zct (Qah _)) (ZcL (Rn.x1 rfl rfl) (ZcL (Rn.x1 rfl rfl) (ZcL (Rn.x1 rfl rfl) (ZcL (Rn.x1 rfl rfl) ZcK)))))))) (ZcF rfl rfl gg (Zcv rfl) (ZcF rfl rfl gg (Zcv (SU.Qau (Qaw Qae _) A)) (ZcF rfl rfl gg (Zcv (SU.Qau (Qaw Qae _) C)) (ZcF rfl rfl gg (Zcv (SU.Qau (Qad _) rfl)) (ZcF rfl rfl gg (Zcv (SU.Qau (Qbo _) rfl)) ZcE))))))|false=>
    have d:=N rfl;refine Zc0 ?_;refine cp hrf ?_;refine Zc0 ?_;have E:∀{x1 x2 x3 x4 x5 x6 x7 x8:Blk},(hp [(51,x1),(52,x2),(53,x3),(54,x4),(60,x5),(61,x6),(62,x7),(63,x8)]).get 150=none:=fun{x1 x2 x3 x4 x5 x6 x7 x8}=>by simp(disch:=omega)only[QaU,QmM,QaH,get_e]
    cases K:(yls c (ixT P t1) t2).find? fun y=>!(c.ev y.1).c with|none=>
     rw[K]at d;replace d:(rsn c i t).toList=[]:=d;refine QlB (n':=700) (b:=150) (T':=[(1,.ptr 51 0 0),(2,.ptr 53 0 0),(4,.fptr (stG c p q P T)),(6,.ptr 52 0 0),(7,.ptr 54 0 0),(35,tuV T),(36,.int .i64 T.length),(37,.int .i64 i),(99,rfF c (ixT P t1) t2)]) (L:=[(51,.cells 0 [evsV c.ev,its 99 c.cs,its 114 c.rs,exs c.xs,cos c.ks]),(52,.cells 0 [sliN q.al,.int .i64 (q.n:Int),sliN q.ms,egsN q.es,.sl 60 0 0 (i+1) 1,.sl 61 0 0 (i+1) 1,.sl 62 0 0 (i+1) 1,.sl 63 0 0 (forb c i).length 4]),(53,.cells 0 [.nilsl,.int .i64 0,.nilsl,.nilsl,.nilsl,.nilsl,.nilsl,.nilsl]),(54,.cells 0 [.int .i64 (i:Int)]),(60,.cells 0 (LA.map sliN++[sliN t1])),(61,.cells 0 (LB.map sliN++[sliN t2])),(62,.cells 0 (ints (nz LP)++[.int .i64 (ixT P t1:Int)])),(63,.cells 0 ((forb c i).flatMap rsC))]) ?_ rfl E rfl (Q (m:=1000) hk t2 hr2 U (fun _=>_) _ (yls c (ixT P t1) t2).length ?_ (ZaN _) ?_ (.inl ⟨rfl,rfl⟩)) gg ?_;·refine⟨[(51,.blk 51 0),(52,.blk 52 0),(53,.blk 53 0),(54,.blk 204 0),(60,.blk 60 1),(61,.blk 61 1),(62,.blk 62 1),(63,.blk 63 0)],rfl,ZcB,?_,ZcD (Rn.x2 rfl rfl) (ZcD (Rn.x2 rfl rfl) (ZcD (Zct M) (ZcD (Rn.x2 rfl rfl) (ZcD (Rn.x2 rfl rfl) (ZcD (Zct o) (ZcD (Zct rfl) (ZcD (Zct rfl) (ZcD (Zct (Qhm _ _ _)) ZcC))))))))⟩;exact ZcF rfl rfl gg (Zcv s) (ZcF rfl rfl gg (ZcL (Zct (Qae _)) (ZcL (Zct rfl) (ZcL (Zct (Qae _)) (ZcL (Zct (Qah _)) (ZcL (Rn.x1 rfl rfl) (ZcL (Rn.x1 rfl rfl) (ZcL (Rn.x1 rfl rfl) (ZcL (Rn.x1 rfl rfl) ZcK)))))))) (ZcF rfl rfl gg (Zcv rfl) (ZcF rfl rfl gg (Zcv rfl) (ZcF rfl rfl gg (Zcv (SU.Qau (Qaw Qae _) A)) (ZcF rfl rfl gg (Zcv (SU.Qau (Qaw Qae _) C)) (ZcF rfl rfl gg (Zcv (SU.Qau (Qad _) rfl)) (ZcF rfl rfl gg (Zcv (Qbo _)) ZcE)))))))
     ·exact(by repeat(first|exact Fresh.e|exact Fresh.le (by assumption) (by omega)|refine Fresh.set ?_ (by omega) (by omega)))
     ·intro j y hj hy;have g:=QjH h (Zac hy);have f:(c.ev y.1).c=true:=by simpa using Zbb.1 K y (Zac hy)
      refine RSpec.of_wS (n:=300) rfl gg rfl rfl rfl ?_;simp(disch:=first|omega|exact PairsOK.mk rfl|(simp only[lenW]<;>omega))only[upsT,f,g,Qb0,QbX,evC,Qaa,Qab,Qac,wW,wV,simprocAttr];exact⟨rfl,fun x=>set3 rfl⟩
     unfold leftQ;refine Zc0 ?_;refine⟨i+1,by omega,by omega,?_⟩;rw[Y,hib,Z,hsi,B,d,Zaq,QaD,Qay];refine⟨[(51,.blk 51 0),(52,.blk 52 0),(53,.blk 53 0),(60,.blk 60 0),(61,.blk 61 0),(62,.blk 62 0),(63,.blk 63 0)],rfl,ZcB,?_,ZcD (Rn.x2 rfl rfl) (ZcD (Rn.x2 rfl rfl) (ZcD (Zct M) (ZcD (Rn.x2 rfl rfl) (ZcD (Zct o) au27))))⟩;exact ZcF rfl rfl gg (Zcv s) (ZcF rfl rfl gg (ZcL (Zct (Qae _)) (ZcL (Zct rfl) (ZcL (Zct (Qae _)) (ZcL (Zct (Qah _)) (ZcL (Rn.x1 rfl rfl) (ZcL (Rn.x1 rfl rfl) (ZcL (Rn.x1 rfl rfl) (ZcL (Rn.x1 rfl rfl) ZcK)))))))) (ZcF rfl rfl gg (Zcv rfl) (ZcF rfl rfl gg (Zcv (SU.Qau (Qaw Qae _) A)) (ZcF rfl rfl gg (Zcv (SU.Qau (Qaw Qae _) C)) (ZcF rfl rfl gg (Zcv (SU.Qau (Qad _) rfl)) (ZcF rfl rfl gg (Zcv (Qbo _)) ZcE))))))|some y=>
     rw[K]at d;replace d:(rsn c i t).toList=[(i,3,y.2,(y.1:Int))]:=d;obtain⟨n,w,hn2',hn3'⟩:=Qnx K;have hlen:n<(yls c (ixT P t1) t2).length:=(Zaf.1 w).1;have g:=QjH h (Zac w);have f:(c.ev y.1).c=false:=by simpa using hn2'
     refine QlB (n':=700) (b:=150) (T':=[(1,.ptr 51 0 0),(2,.ptr 53 0 0),(4,.fptr (stG c p q P T)),(6,.ptr 52 0 0),(7,.ptr 54 0 0),(35,tuV T),(36,.int .i64 T.length),(37,.int .i64 i),(99,rfF c (ixT P t1) t2)]) (L:=[(51,.cells 0 [evsV c.ev,its 99 c.cs,its 114 c.rs,exs c.xs,cos c.ks]),(52,.cells 0 [sliN q.al,.int .i64 (q.n:Int),sliN q.ms,egsN q.es,.sl 60 0 0 (i+1) 1,.sl 61 0 0 (i+1) 1,.sl 62 0 0 (i+1) 1,.sl 63 0 0 (forb c i).length 4]),(53,.cells 0 [.nilsl,.int .i64 0,.nilsl,.nilsl,.nilsl,.nilsl,.nilsl,.nilsl]),(54,.cells 0 [.int .i64 (i:Int)]),(60,.cells 0 (LA.map sliN++[sliN t1])),(61,.cells 0 (LB.map sliN++[sliN t2])),(62,.cells 0 (ints (nz LP)++[.int .i64 (ixT P t1:Int)])),(63,.cells 0 ((forb c i).flatMap rsC))]) (st:=.done (.exit 2)) ?hrec rfl E rfl (Q (m:=1000) hk t2 hr2 U (fun _=>_) (((((hp [(51,.cells 0 [evsV c.ev,its 99 c.cs,its 114 c.rs,exs c.xs,cos c.ks]),(52,.cells 0 [sliN q.al,.int .i64 (q.n:Int),sliN q.ms,egsN q.es,.sl 60 0 0 (i+1) 1,.sl 61 0 0 (i+1) 1,.sl 62 0 0 (i+1) 1,.sl 63 0 0 (forb c i).length 4]),(53,.cells 0 [.nilsl,.int .i64 0,.nilsl,.nilsl,.nilsl,.nilsl,.nilsl,.nilsl]),(54,.cells 0 [.int .i64 (i:Int)]),(60,.cells 0 (LA.map sliN++[sliN t1])),(61,.cells 0 (LB.map sliN++[sliN t2])),(62,.cells 0 (ints (nz LP)++[.int .i64 (ixT P t1:Int)])),(63,.cells 0 ((forb c i).flatMap rsC))]).set 315 (.cells 0 (rsC (i,3,y.2,(y.1:Int))))).set 63 (.cells 1 ((forb c i).flatMap rsC++rsC (i,3,y.2,(y.1:Int))))).set 52 (.cells 0 [sliN q.al,.int .i64 (q.n:Int),sliN q.ms,egsN q.es,.sl 60 0 0 (i+1) 1,.sl 61 0 0 (i+1) 1,.sl 62 0 0 (i+1) 1,.sl 63 1 0 ((forb c i).length+1) 4])).set 150 (.loop 0 120 [(1,.ptr 51 0 0),(2,.ptr 53 0 0),(4,.fptr (stG c p q P T)),(6,.ptr 52 0 0),(7,.ptr 54 0 0),(35,tuV T),(36,.int .i64 T.length),(37,.int .i64 i),(99,rfF c (ixT P t1) t2)] [100,101] (.s lpA) (.s lpB) (.done (.exit 2)))) n ?hfr (Nat.le_of_lt hlen) ?hY (.inr ⟨y,w,?M⟩)) gg ?hQ;case hrec=>refine⟨[(51,.blk 51 0),(52,.blk 52 0),(53,.blk 53 0),(54,.blk 204 0),(60,.blk 60 1),(61,.blk 61 1),(62,.blk 62 1),(63,.blk 63 0)],rfl,ZcB,?_,ZcD (Rn.x2 rfl rfl) (ZcD (Rn.x2 rfl rfl) (ZcD (Zct M) (ZcD (Rn.x2 rfl rfl) (ZcD (Rn.x2 rfl rfl) (ZcD (Zct o) (ZcD (Zct rfl) (ZcD (Zct rfl) (ZcD (Zct (Qhm _ _ _)) ZcC))))))))⟩;exact ZcF rfl rfl gg (Zcv s) (ZcF rfl rfl gg (ZcL (Zct (Qae _)) (ZcL (Zct rfl) (ZcL (Zct (Qae _)) (ZcL (Zct (Qah _)) (ZcL (Rn.x1 rfl rfl) (ZcL (Rn.x1 rfl rfl) (ZcL (Rn.x1 rfl rfl) (ZcL (Rn.x1 rfl rfl) ZcK)))))))) (ZcF rfl rfl gg (Zcv rfl) (ZcF rfl rfl gg (Zcv rfl) (ZcF rfl rfl gg (Zcv (SU.Qau (Qaw Qae _) A)) (ZcF rfl rfl gg (Zcv (SU.Qau (Qaw Qae _) C)) (ZcF rfl rfl gg (Zcv (SU.Qau (Qad _) rfl)) (ZcF rfl rfl gg (Zcv (Qbo _)) ZcE)))))))
     case hfr=>exact(by repeat(first|exact Fresh.e|exact Fresh.le (by assumption) (by omega)|refine Fresh.set ?_ (by omega) (by omega)))
     case hY=>
      intro j z hj hz;have g:=QjH h (Zac hz);have f:(c.ev z.1).c=true:=by simpa using hn3' j z hj hz
      refine RSpec.of_wS (n:=300) rfl gg rfl rfl rfl ?_;simp(disch:=first|omega|exact PairsOK.mk rfl|(simp only[lenW]<;>omega))only[upsT,f,g,Qb0,QbX,evC,Qaa,Qab,Qac,wW,wV,simprocAttr];exact⟨rfl,fun x=>set3 rfl⟩
     case M=>refine RSpec.of_wS (n:=300) rfl gg rfl rfl rfl ?_;simp(disch:=first|omega|exact PairsOK.mk rfl|(simp only[lenW]<;>omega))only[upsT,f,g,Qb0,QbX,evC,I,Qaa,Qab,Qac,wW,wV,simprocAttr];exact⟨rfl,fun x=>set6 rfl⟩
     case hQ=>unfold leftQ;refine⟨rfl,?_⟩;refine Zc0 ?_;refine⟨i+1,by omega,by omega,?_⟩;rw[Y,hib,Z,hsi,B,d,hfa,Zae,QaD,Qay];refine⟨[(51,.blk 51 0),(52,.blk 52 0),(53,.blk 53 0),(60,.blk 60 0),(61,.blk 61 0),(62,.blk 62 0),(63,.blk 63 1)],rfl,ZcB,?_,ZcD (Rn.x2 rfl rfl) (ZcD (Rn.x2 rfl rfl) (ZcD (Zct M) (ZcD (Rn.x2 rfl rfl) (ZcD (Zct o) au27))))⟩;exact ZcF rfl rfl gg (Zcv s) (ZcF rfl rfl gg (ZcL (Zct (Qae _)) (ZcL (Zct rfl) (ZcL (Zct (Qae _)) (ZcL (Zct (Qah _)) (ZcL (Rn.x1 rfl rfl) (ZcL (Rn.x1 rfl rfl) (ZcL (Rn.x1 rfl rfl) (ZcL (Rn.x1 rfl rfl) ZcK)))))))) (ZcF rfl rfl gg (Zcv rfl) (ZcF rfl rfl gg (Zcv (SU.Qau (Qaw Qae _) A)) (ZcF rfl rfl gg (Zcv (SU.Qau (Qaw Qae _) C)) (ZcF rfl rfl gg (Zcv (SU.Qau (Qad _) rfl)) (ZcF rfl rfl gg (Zcv (SU.Qau (Qbo _) rfl)) ZcE))))))
  have e:i=T.length:=by omega
  subst e;have hla:((spA c T).map sliN).length=T.length:=by unfold spA;simp
  have hlb:((spB c T).map sliN).length=T.length:=by unfold spB;simp
  have hlp:(ints (nz (spP c P T))).length=T.length:=by unfold spP;simp[ints]
  have I:=Qnw (forb c T.length);refine Zc3 V ?_;refine⟨(),[(52,.blk 52 0),(53,.blk 53 0)],rfl,ZcB,?_,ZcD (Rn.x2 rfl rfl) (ZcD (Rn.x2 rfl rfl) ZcC)⟩;exact ZcF rfl rfl gg (ZcL (Zct (Qae _)) (ZcL (Zct rfl) (ZcL (Zct (Qae _)) (ZcL (Zct (Qah _)) (ZcL (ZcM (b:=60) (g:=0) gg rfl rfl (by simp[spA]) (by simpa using hla) (Zcv (Qaw Qae _))) (ZcL (ZcM (b:=61) (g:=0) gg rfl rfl (by simp[spB]) (by simpa using hlb) (Zcv (Qaw Qae _))) (ZcL (ZcM (b:=62) (g:=0) gg rfl rfl (by simp[spP]) (by simpa using hlp) (Zcv (Qad _))) (ZcL (ZcM (b:=63) (g:=0) gg rfl rfl rfl I (Zcv (Qbo _))) ZcK)))))))) (ZcF rfl rfl gg (Zcv rfl) ZcE)
 rintro _ _;refine Zc0 ?_;exact⟨.inr trivial,_,rfl,Zct hns⟩
end Go.AM.SO
namespace Go.AM.TY
open Go.Proofs
set_option maxHeartbeats 4000000
noncomputable section
def cf:YA.Cf:={most:=.pure}
def s89:SFn:=by
 refine(?f:YA.Yt Tryz.prog cf 89 [[0,4],[12,13,11,14,15],[16],[1,5,6,17,18,19,20],[4,6,17],[21],[],[25,26,27],[9,28,29,30,31,32],[33],[1,22,23,24,35,36,37,34,38,39],[40],[5,7,10,6,41,42,43,44],[5,7,10,6,41,45,46,47,48,49,50]]) ?s ?h;case h=>exact YA.rr
 exact fun s _=>s
theorem ok89:okFn Tryz.prog 89 s89=true:=by kernel_rfl
end
end Go.AM.TY
namespace Go.AM.SO
open Go.Proofs Go.AM.SD Go.AM.SE
def fbs(l:List (Nat×Int×Int×Int)):List Nat:=l.map (·.1)
abbrev fbd(c:Cel):List Nat:=fbs (forb c (sync0 (allA c)).1.length)
theorem Qny{c:Cel}{i:Nat}{x:Nat×Int×Int×Int}(h:x∈rsnO c i):x.1=i:=by
 unfold rsnO rsn at h;split at h;·simp at h;rw[h]
 simp at h;obtain⟨a,b,_,rfl⟩:=h;rfl
theorem QjI(c:Cel):∀n,(fbs (forb c n)).Pairwise (·<·)/\∀x∈fbs (forb c n),x<n
 |0=>by simp[forb,fbs]|n+1=>by
  obtain⟨h1,d⟩:=QjI c n;rw[Qhn];unfold fbs at h1 d⊢;rw[ZaJ];have hm:∀x∈(rsnO c n).map (·.1),x=n:=fun x a=>by obtain⟨y,b,rfl⟩:=Zan.1 a;exact Qny b
  have f:((rsnO c n).map (·.1)).Pairwise (·<·):=by unfold rsnO;cases rsn c n _<;>simp
  refine⟨Zbl.2 ⟨h1,f,fun x a y b=>?_⟩,fun x a=>?_⟩;·rw[hm y b];exact d x a
  rcases Zay.1 a with a|a;·have:=d x a;omega
  rw[hm x a];omega
theorem Qkf(e:Nat->Evt):(uncL e 5).Pairwise (·<·)/\∀x∈uncL e 5,x<32:=by refine⟨List.pairwise_lt_range.filter _,fun x a=>?_⟩;have:=Zat.1 (ZaM.1 a).1;omega
theorem qok_c(c:Cel):QOk (syncA (allA c)) (fbd c) (uncL c.ev 5):=⟨(QjI c _).1,(QjI c _).2,(Qkf _).1,(Qkf _).2⟩
theorem wfA_c(c:Cel)(h:WfCel c):WfA (syncA (allA c)):=(QdM (Qcd h) (by rw[Qb8];have:=h.c3;have:=h.r2;omega)).toWfA
def resC(c:Cel):Res:=pRes (syncA (allA c)) (fbd c) (uncL c.ev 5) true
theorem Qgn{l:List (Nat×Int×Int×Int)}{i:Nat}{x:Nat×Int×Int×Int}(h:l[i]?=some x):(l.flatMap rsC).drop (i*4)=.int .i64 (x.1:Int)::.int .i64 x.2.1::.int .i64 x.2.2.1::.int .i64 x.2.2.2::(l.drop (i+1)).flatMap rsC:=Qa6 (f:=rsC) (k:=4) (fun _=>rfl) h
theorem Qtd{l:List (Nat×Int×Int×Int)}{i:Nat}{x:Nat×Int×Int×Int}(h:l[i]?=some x):fbs (l.take (i+1))=fbs (l.take i)++[x.1]:=by unfold fbs;rw[take_succ' h,ZaJ];rfl
theorem Quq{l:List (Nat×Int×Int×Int)}{i:Nat}(h:i<=l.length):(fbs (l.take i)).length=i:=by unfold fbs;rw[Zaz,Zaw];omega
abbrev ni9:List AV:=[.nilsl,.nilsl,.nilsl,.int .i64 0,.nilsl,.int .i64 0,.nilsl,.nilsl,.nilsl]
abbrev ni8:List AV:=[.nilsl,.int .i64 0,.nilsl,.nilsl,.nilsl,.nilsl,.nilsl,.nilsl]
theorem _root_.Go.AM.au28{p:Prop}(h:p:=by repeat(first|exact ZcC|(refine ZcD ?_ ?_;·(first|exact Rn.any|exact Rn.x1 rfl rfl|exact Rn.x2 rfl rfl|exact Rn.x3 rfl rfl|exact Rn.x4 rfl rfl|exact Rn.x5 rfl|exact Rn.x6 rfl|exact Rn.x7 rfl|(refine Rn.slot ?_ ?_;(first|rfl|(rw[ZaX];rfl));(first|rfl|(simp only[noRef,noRefs,Qag,Zag,Zad,Zai,Qad,Qan,Qae,Qah,QaV,Qaf,Qd9,Qbo];done)))|(refine Rn.fn ?_ ?_<;>(repeat'(first|exact ZcK|refine ZcL ?_ ?_|exact Zct rfl|exact Rn.x6 rfl|exact Rn.x2 rfl rfl|exact Rn.x5 rfl|exact Rn.x1 rfl rfl))))))):p:=h
theorem cell22(c:Cel)(h:WfCel c):PSpec Tryz.prog 89 [celV c] (.tup [.agg (spC c),SE.rsV (resC c),.int .i64 0]):=by
 have d:=QaY c;have a:noRefs (spC c)=true:=QjG _ _ _ _;refine Zcx 64 TY.ok89 rfl (by rw[noRefs,SU.QaK];rfl) (by rw[noRef,noRefs,noRef,a,noRefs,Qd4];rfl) ?_;have hO:=specify18 c h;have o:=select86 c.ev h.ev;have hw:=wfA_c c h;have t:=WfA.el1 hw;have p:=result39 (syncA (allA c)) (fbd c) (uncL c.ev 5) true hw (qok_c c) (by omega);have k:=Qd4 (pRes (syncA (allA c)) (fbd c) (uncL c.ev 5) true);have hle:=Qgm c (sync0 (allA c)).1.length;have v:(sync0 (allA c)).1.length<=4096:=hw.n5;have r:(syncA (allA c)).n=(sync0 (allA c)).1.length:=rfl;unfold resC;rw[spC,spG]at hO a⊢;unfold fbd at*;generalize forb c (sync0 (allA c)).1.length=L at*;generalize pRes (syncA (allA c)) (fbs L) (uncL c.ev 5) true=R at*;generalize syncA (allA c)=q at*;generalize(sync0 (auL c.cs)).1=P at*;generalize(sync0 (allA c)).1=T at*;have s:(spA c T).length=T.length:=by simp[spA]
 have u:(spB c T).length=T.length:=by simp[spB]
 unfold TY.s89;refine Zc0 ?_;refine cp hO ?_;refine Zc0 ?_;refine Qap 140 (fun i:Nat=>[(1,.ptr 51 0 0),(2,.ptr 53 0 0),(3,.ptr 54 0 0),(5,.ptr 52 0 0),(7,.sl 76 0 0 i 1),(22,rss L),(23,.int .i64 L.length),(24,.int .i64 i)]) (fun i=>[(51,.cells 0 [evsV c.ev,its 99 c.cs,its 114 c.rs,exs c.xs,cos c.ks]),(52,.cells 0 [sliN q.al,.int .i64 (q.n:Int),sliN q.ms,egsN q.es,tuV (spA c T),tuV (spB c T),sliN (spP c P T),rss L]),(53,.cells 0 ni8),(54,.cells 0 ni9),(76,.cells 0 (ints (nz (fbs (L.take i)))))]) (fun i=>i<=L.length) (fun i=>L.length-i) 0 0 200 (fun _:Unit=>[(1,.ptr 51 0 0),(2,.ptr 53 0 0),(3,.ptr 54 0 0),(5,.ptr 52 0 0),(7,sliN (fbs L))]) (fun _=>[(51,.cells 0 [evsV c.ev,its 99 c.cs,its 114 c.rs,exs c.xs,cos c.ks]),(52,.cells 0 [sliN q.al,.int .i64 (q.n:Int),sliN q.ms,egsN q.es,tuV (spA c T),tuV (spB c T),sliN (spP c P T),rss L]),(53,.cells 0 ni8),(54,.cells 0 ni9)]) (fun _=>True) ?_ (Zah _) ?_ ?_;·refine⟨[(51,.blk 64 0),(52,.blk 73 0),(53,.blk 65 0),(54,.blk 66 0),(76,.nil)],rfl,au0,?_,au28⟩;exact ZcF rfl rfl gg (Zcv d) (ZcF rfl rfl gg (Zcv a) (ZcF rfl rfl gg (Zcv rfl) (ZcF rfl rfl gg (Zcv rfl) (ZcG rfl rfl ZcE))))
 ·rintro i hi;by_cases b:i<L.length
  ·obtain⟨x,m⟩:=Qao b;have f:=Qgn m;have g:4<=((L.flatMap rsC).drop (i*4)).length:=by rw[f];simp
   have l:(ints (nz (fbs (L.take i)))).length=i:=by simp[ints,Quq (show i<=L.length by omega)]
   refine Zc1 (Zc8 b f g l) ?_;refine⟨i+1,by omega,by omega,?_⟩;rw[Qtd m,QaD,Qay];refine⟨[(51,.blk 51 0),(52,.blk 52 0),(53,.blk 53 0),(54,.blk 54 0),(76,.blk 76 1)],rfl,au0,?_,au28⟩;exact ZcF rfl rfl gg (Zcv d) (ZcF rfl rfl gg (Zcv a) (ZcF rfl rfl gg (Zcv rfl) (ZcF rfl rfl gg (Zcv rfl) (ZcF rfl rfl gg (Zcv (SU.Qau (Qad _) rfl)) ZcE))))
  have e:i=L.length:=by omega
  subst e;refine Zc3 b ?_;refine⟨(),?_⟩;exact⟨[(51,.blk 51 0),(52,.blk 52 0),(53,.blk 53 0),(54,.blk 54 0)],rfl,ZcB,ZcF rfl rfl gg (Zcv d) (ZcF rfl rfl gg (Zcv a) (ZcF rfl rfl gg (Zcv rfl) (ZcF rfl rfl gg (Zcv rfl) ZcE))),ZcD (Rn.x2 rfl rfl) (ZcD (Rn.x2 rfl rfl) (ZcD (Rn.x2 rfl rfl) (ZcD (Rn.x2 rfl rfl) (ZcD (ZcM (b:=76) (g:=0) gg rfl rfl (by simp[fbs]) (by simp[ints,fbs]) (Zcv (Qad _))) ZcC))))⟩
 rintro _ _;refine Zc0 ?_;refine cp o ?_;refine Zc0 ?_;refine cp p ?_;refine Zc0 ?_;refine⟨.inr trivial,_,rfl,Zct ?_⟩;rw[noRef,noRefs,noRef,a,noRefs,k];rfl
end Go.AM.SO
namespace Go.AM.SO
open Go.Proofs Go.AM.SD Go.AM.SE
def kI(s:Nat):AV:=.int .i64 (s:Int)
def rmF(R:List Rm)(s:Nat):AV:=.agg (rmC ((remAt R s).getD ⟨0,0,0,0⟩))
theorem Qbb{x:Nat}{l:List Nat}:KeyG false [.i] kI x l:=⟨by simp[keyOK,kI,keyEq,eqCells,eqCell],fun y _=>QgZ⟩
def remM(R:List Rm):AV:=fmapG kI (rmF R) (R.map (·.st))
abbrev stdP(c:Cel)(p q:Aut)(A B X F:AV)(r:Res):List AV:=[evsV c.ev,its 99 c.cs,its 114 c.rs,exs c.xs,cos c.ks,sliN p.al,.int .i64 (p.n:Int),sliN p.ms,egsN p.es,sliN q.al,.int .i64 (q.n:Int),sliN q.ms,egsN q.es,A,B,X,F,sliN r.kept,sli r.dist,rms r.rem,.int .i64 (r.rounds:Int),sliN r.sup.al,.int .i64 (r.sup.n:Int),sliN r.sup.ms,egsN r.sup.es,sliN r.orig]
abbrev stdX(c:Cel)(p q:Aut)(A B X F:AV)(r:Res)(m u:AV):List AV:=[evsV c.ev,its 99 c.cs,its 114 c.rs,exs c.xs,cos c.ks,sliN p.al,.int .i64 (p.n:Int),sliN p.ms,egsN p.es,sliN q.al,.int .i64 (q.n:Int),sliN q.ms,egsN q.es,A,B,X,F,sliN r.kept,sli r.dist,rms r.rem,.int .i64 (r.rounds:Int),sliN r.sup.al,.int .i64 (r.sup.n:Int),sliN r.sup.ms,egsN r.sup.es,sliN r.orig,m,u]
abbrev plA(c:Cel):Aut:=syncA (auL c.cs)
abbrev spQ(c:Cel):Aut:=syncA (allA c)
def stdC(c:Cel):List AV:=stdX c (plA c) (spQ c) (tuV (spA c (sync0 (allA c)).1)) (tuV (spB c (sync0 (allA c)).1)) (sliN (spP c (sync0 (auL c.cs)).1 (sync0 (allA c)).1)) (rss (forb c (sync0 (allA c)).1.length)) (resC c) (remM (resC c).rem) (sliN (uncL c.ev 5))
theorem QrX(R:List Rm)(x:Nat):noRef (kI x)=true/\noRef (rmF R x)=true:=⟨rfl,rfl⟩
theorem QjJ(R:List Rm):noRef (remM R)=true:=by rw[remM,fmapG,noRef,Qaw (fun _=>rfl),Qaw (fun _=>rfl)];rfl
theorem QfI{l:List Rm}{i:Nat}{x:Rm}(h:l[i]?=some x):(l.flatMap rmC).drop (i*4)=.int .i64 (x.st:Int)::.int .i64 x.rank::.int .i64 (x.reason:Int)::.int .i64 x.ev::(l.drop (i+1)).flatMap rmC:=Qa6 (f:=rmC) (k:=4) (fun _=>rfl) h
theorem QlC{a:Aut}{u:List Nat}{left:Nat->Bool}{R:List Rm}(h:RemOk a u left R):R.length<=a.n:=by
 have:=QaN a.n (R.map (·.st)) (by rw[ZaP,ZbC];exact h.nd) fun x b=>by obtain⟨y,c,rfl⟩:=Zan.1 b;exact(h.st y c).1
 simpa using this
theorem rem_c(c:Cel)(h:WfCel c):RemOk (spQ c) (uncL c.ev 5) (lf (fin (spQ c).n (spQ c).es (spQ c).ms (fbd c) (uncL c.ev 5) true).1) (resC c).rem:=Qrc (wfA_c c h) (qok_c c).fS (qok_c c).fn
theorem Qfl{c:Cel}{p q:Aut}{A B X F:AV}{r:Res}(d:noRef A=true)(b:noRef B=true)(f:noRef X=true)(hf:noRef F=true):noRefs (stdP c p q A B X F r)=true:=by have h1:=SU.QaK c;rw[celV,noRef]at h1;simp only[noRefs,Zaa,Zad]at h1;obtain⟨g,a2,a3,a4,a5⟩:=h1;have a:=Qd4 r;rw[noRef]at a;simp only[noRefs,Zaa,Zad]at a;simp only[noRefs,g,a2,a3,a4,a5,Qae,Qah,d,b,f,hf,a];rfl
theorem Qig{c:Cel}{p q:Aut}{A B X F m u:AV}{r:Res}(h:noRefs (stdP c p q A B X F r)=true)(hm:noRef m=true)(hu:noRef u=true):noRefs (stdX c p q A B X F r m u)=true:=SU.Qau (x:=stdP c p q A B X F r) (y:=[m,u]) h (by rw[noRefs,hm,noRefs,hu];rfl)
theorem QjK(c:Cel):noRefs (stdC c)=true:=Qig (Qfl (Qa9 _) (Qa9 _) (Qae _) (by rw[noRef];exact Qbo _)) (QjJ _) (Qae _)
theorem _root_.Go.AM.au29{p:Prop}(h:p:=by repeat(first|exact ZcC|(refine ZcD ?_ ?_;·(first|exact Rn.any|exact Rn.x1 rfl rfl|exact Rn.x2 rfl rfl|exact Rn.x3 rfl rfl|exact Rn.x4 rfl rfl|exact Rn.x5 rfl|exact Rn.x6 rfl|exact Rn.x7 rfl|(refine Rn.slot ?_ ?_;(first|rfl|(rw[ZaX];rfl));(first|rfl|(simp only[noRef,noRefs,Qag,Zag,Zad,Zai,QaG,Qad,Qan,Qae,Qah,QaV,Qaf,Qd9,Qbo];done)))|(refine Rn.fn ?_ ?_<;>(repeat'(first|exact ZcK|refine ZcL ?_ ?_|exact Zct rfl|exact Rn.x6 rfl|exact Rn.x2 rfl rfl|exact Rn.x5 rfl|exact Rn.x1 rfl rfl))))))):p:=h
theorem open80(c:Cel)(h:WfCel c):PSpec Tryz.prog 80 [celV c] (.tup [.fptr (stdC c),.int .i64 0]):=by
 have J:=QaY c;have b:=QjK c;refine Zcx 64 XA.ok80 rfl (by rw[noRefs,SU.QaK];rfl) (by rw[noRef,noRefs,noRef,b];rfl) ?_;have hO:=cell22 c h;have H:=plant17 c h;have M:=select86 c.ev h.ev;have t:=rem_c c h;have K:=QlC t;have I:(spQ c).n<=4096:=(wfA_c c h).n5;have N:=Qa9 (sync0 (auL c.cs)).1;have C:noRef (rss (forb c (sync0 (allA c)).1.length))=true:=by rw[noRef];exact Qbo _
 have a:=Qfl (c:=c) (p:=plA c) (q:=spQ c) (A:=tuV (spA c (sync0 (allA c)).1)) (B:=tuV (spB c (sync0 (allA c)).1)) (X:=sliN (spP c (sync0 (auL c.cs)).1 (sync0 (allA c)).1)) (F:=rss (forb c (sync0 (allA c)).1.length)) (r:=resC c) (Qa9 _) (Qa9 _) (Qae _) C;rw[stdC]at b⊢;rw[spC,spG]at hO;generalize resC c=r at*;generalize spA c (sync0 (allA c)).1=A at*;generalize spB c (sync0 (allA c)).1=B at*;generalize spP c (sync0 (auL c.cs)).1 (sync0 (allA c)).1=X at*;generalize forb c (sync0 (allA c)).1.length=F at*;generalize(sync0 (auL c.cs)).1=PT at*;have d:noRef (rms r.rem)=true:=by simp only[noRef,Qak]
 have g:=Qae (uncL c.ev 5);change PSpec Tryz.prog 89 [celV c] (.tup [.agg [sliN (spQ c).al,.int .i64 ((spQ c).n:Int),sliN (spQ c).ms,egsN (spQ c).es,tuV A,tuV B,sliN X,rss F],rsV r,.int .i64 0])at hO;change PSpec Tryz.prog 16 [celV c] (.tup [aV (plA c),tuV PT,.int .i64 0])at H;generalize spQ c=q at*;generalize plA c=p at*;generalize uncL c.ev 5=u at*;unfold XA.s80;refine Zc0 ?_;refine cp hO ?_;refine Zc0 ?_;refine cp H ?_;refine Zc0 ?_;refine cp M ?_;refine Zc0 ?_;refine Qap 200 (fun i:Nat=>[(9,.ptr 52 0 0),(48,rms r.rem),(49,.int .i64 r.rem.length),(50,.int .i64 i)]) (fun i=>[(52,.cells 0 (stdX c p q (tuV A) (tuV B) (sliN X) (rss F) r (.map 53 0) (sliN u))),(53,.map 0 (mapG kI (rmF r.rem) ((r.rem.take i).map (·.st))))]) (fun i=>i<=r.rem.length) (fun i=>r.rem.length-i) 0 0 300 (fun _:Unit=>[(9,.ptr 52 0 0)]) (fun _=>[(52,.cells 0 (stdX c p q (tuV A) (tuV B) (sliN X) (rss F) r (remM r.rem) (sliN u)))]) (fun _=>True) ?_ (Zah _) ?_ ?_;·refine⟨[(52,.blk 98 0),(53,.blk 96 0)],rfl,RO.set rfl (RO.set rfl ZcB),?_,ZcD (Rn.x2 rfl rfl) (ZcD (Zct d) au29)⟩;exact ZcF rfl rfl gg (RnL.append (xs:=stdP c p q (tuV A) (tuV B) (sliN X) (rss F) r) (ys:=stdP c p q (tuV A) (tuV B) (sliN X) (rss F) r) (Zcv a) (ZcL (Rn.x3 rfl rfl) (ZcL (Zct g) ZcK))) (ZcH rfl rfl gg (ZcV (l:=[]) fun _ h=>absurd h (by simp)) ZcE)
 ·rintro i hi;by_cases f:i<r.rem.length
  ·obtain⟨x,l⟩:=Qao f;have s:=Zac l;have k:x.st∉(r.rem.take i).map (·.st):=fun hm=>by obtain⟨y,L,v⟩:=Zan.1 hm;obtain⟨j,o⟩:=Zbk L;have E:=(Zaf.1 o).1;rw[Zaw]at E;rw[List.getElem?_take_of_lt (by omega)]at o;have h1:=(Zaf.1 o);have G:=(Zaf.1 l);have:=Zbh.1 t.nd j i h1.1 G.1 (by omega);rw[h1.2,G.2]at this;exact this v
   have hf:rmF r.rem x.st=.agg (rmC x):=by rw[rmF,Qcp t.nd s];rfl
   have m:updG (rmF r.rem) x.st (.agg (rmC x))=rmF r.rem:=by
    funext y;unfold updG;split;·rename_i e;subst e;exact hf.symm
    rfl
   have w:=QfI l;refine Zc1 (Zc6 f w) ?_;refine Qbf (c:=kI) (f:=rmF r.rem) (x:=x.st) (l:=(r.rem.take i).map (·.st)) (v:=.agg (rmC x)) (g:=0) gg Qbb k (by omega) ?_;rw[m,show(r.rem.take i).map (·.st)++[x.st]=(r.rem.take (i+1)).map (·.st)by rw[take_succ' l,ZaJ];rfl];refine Zc0 ?_;refine⟨i+1,by omega,by omega,?_⟩;refine⟨[(52,.blk 52 0),(53,.blk 53 0)],rfl,ZcB,?_,ZcD (Rn.x2 rfl rfl) (ZcD (Zct d) au29)⟩;exact ZcF rfl rfl gg (RnL.append (xs:=stdP c p q (tuV A) (tuV B) (sliN X) (rss F) r) (ys:=stdP c p q (tuV A) (tuV B) (sliN X) (rss F) r) (Zcv a) (ZcL (Rn.x3 rfl rfl) (ZcL (Zct g) ZcK))) (ZcH rfl rfl gg (ZcV fun z _=>QrX r.rem z) ZcE)
  have e:i=r.rem.length:=by omega
  subst e;refine Zc3 f ?_;refine⟨(),[(52,.blk 52 0)],rfl,ZcB,?_,ZcD (Rn.x2 rfl rfl) ZcC⟩;exact ZcF rfl rfl gg (RnL.append (xs:=stdP c p q (tuV A) (tuV B) (sliN X) (rss F) r) (ys:=stdP c p q (tuV A) (tuV B) (sliN X) (rss F) r) (Zcv a) (ZcL (Rn.fzM (b:=53) (g:=0) gg rfl rfl fun z _=>QrX r.rem z) (ZcL (Zct g) ZcK))) ZcE
 rintro _ _;refine Zc0 ?_;refine⟨.inr trivial,_,rfl,?_⟩;refine Rn.tup (ZcL ?_ (Zcv rfl));exact Rn.frzp (b:=52) (g:=0) rfl (Zah _) (fun P Q _ e=>by simp[π0]at e) (by simp) (Zcv b)
end Go.AM.SO
namespace Go.AM.SO
open Go.AM.SD Go.AM.SE
inductive Pth(a:Aut)(u:List Nat)(R:List Rm)(s:Nat):List Nat->Nat->Prop|nil:Pth a u R s [] s|snoc{r:List Nat}{m e:Nat}(h:Pth a u R s r m)(hb:badS R m=false)(he:e∈ucE a u m):Pth a u R s (r++[e]) (toA a m e)
def rchK(a:Aut)(u:List Nat):Nat->Nat->Nat->Prop|0,s,t=>s=t|k+1,s,t=>∃m,rchK a u k s m/\∃e∈ucE a u m,toA a m e=t
structure BQ(a:Aut)(u:List Nat)(R:List Rm)(s i:Nat)(l:List Vs):Prop where
 first:l[0]?=some (v0 s)mono:∀(j j':Nat)v v',j<=j'->l[j]?=some v->l[j']?=some v'->v.run.length<=v'.run.length
 near:∀(j:Nat)v w,l[j]?=some v->l[i]?=some w->v.run.length<=w.run.length+1
 done:∀(j:Nat)v,j<i->l[j]?=some v->badS R v.st=false/\∀e∈ucE a u v.st,∃w∈l,w.st=toA a v.st e/\w.run.length<=v.run.length+1
 path:∀v∈l,Pth a u R s v.run v.st
theorem BQ.one{a:Aut}{u:List Nat}{R:List Rm}{s:Nat}:BQ a u R s 0 [v0 s]:=by
 have key:∀(j:Nat)v,([v0 s]:List Vs)[j]?=some v->v=v0 s:=fun j v h=>by have:=Zac h;simpa using this
 refine⟨rfl,fun j d v g _ h c=>?_,fun j v w h c=>?_,fun j v f=>absurd f (ZaB _),fun v b=>?_⟩;·rw[key j v h,key d g c];exact ZaN _
 ·rw[key j v h];simp[v0]
 simp only[ZaL]at b;subst b;exact .nil
theorem Qgo{l:List Vs}{x v:Vs}{j:Nat}(h:(l++[x])[j]?=some v):l[j]?=some v\/(j=l.length/\v=x):=by
 rcases ZbE j l.length with a|a;·rw[ZaH a]at h;exact .inl h
 rw[ZbK a]at h;cases b:j-l.length with|zero=>rw[b]at h;simp at h;exact .inr ⟨by omega,h.symm⟩|succ q=>rw[b]at h;simp at h
theorem BQ.ext{a:Aut}{u:List Nat}{R:List Rm}{s i e:Nat}{l:List Vs}{v:Vs}(h:BQ a u R s i l)(d:l[i]?=some v)(r:badS R v.st=false)(he:e∈ucE a u v.st):BQ a u R s i (ext1 a i v l e):=by
 unfold ext1;split;·exact h
 have hi:=(Zaf.1 d).1;have g:=(Zaf.1 h.first).1;have m:∀w,(l++[(⟨toA a v.st e,i,e,v.run++[e]⟩:Vs)])[i]?=some w->w=v:=fun w hw=>by rw[ZaH hi,d]at hw;exact(Option.some.inj hw).symm
 refine⟨by rw[ZaH g];exact h.first,fun j y x t k b c=>?_,fun j x w b hw=>?_,fun j x k b=>?_,fun x b=>?_⟩
 ·rcases Qgo b with b|⟨q,rfl⟩
  ·rcases Qgo c with c|⟨p,rfl⟩;·exact h.mono j y x t k b c
   have :=h.near j x v b d;simpa using this
  rcases Qgo c with c|⟨p,rfl⟩;·have:=(Zaf.1 c).1;omega
  exact ZaN _
 ·rw[m w hw];rcases Qgo b with b|⟨q,rfl⟩;·exact h.near j x v b d
  simp
 ·rw[ZaH (by omega)]at b;obtain⟨d1,d2⟩:=h.done j x k b;refine⟨d1,fun o f=>?_⟩;obtain⟨w,hw,w1⟩:=d2 o f;exact⟨w,Za9 _ hw,w1⟩
 rcases Zay.1 b with b|b;·exact h.path x b
 simp only[ZaL]at b;subst b;exact .snoc (h.path v (Zac d)) r he
theorem Qnz{a:Aut}{i:Nat}{v:Vs}{l:List Vs}{e:Nat}:∃r,ext1 a i v l e=l++r:=by
 unfold ext1;split;·exact⟨[],by simp⟩
 exact⟨_,rfl⟩
theorem BQ.exts{a:Aut}{u:List Nat}{R:List Rm}{s i:Nat}{v:Vs}(c:badS R v.st=false):∀{es:List Nat}{l:List Vs},BQ a u R s i l->l[i]?=some v->(∀e∈es,e∈ucE a u v.st)->BQ a u R s i (extL a i v l es)/\(extL a i v l es)[i]?=some v|[],l,h,b,_=>⟨h,b⟩|e::es,l,h,b,he=>by obtain⟨r,f⟩:=Qnz (a:=a) (i:=i) (v:=v) (l:=l) (e:=e);exact BQ.exts c (es:=es) (h.ext b c (he e (by simp))) (by rw[f];exact QfG b) fun x d=>he x (Zby _ d)
theorem BQ.next{a:Aut}{u:List Nat}{R:List Rm}{s i:Nat}{l:List Vs}{v:Vs}(h:BQ a u R s i l)(m:l[i]?=some v)(g:badS R v.st=false):BQ a u R s (i+1) (extL a i v l (ucE a u v.st)):=by
 obtain⟨h1,c⟩:=h.exts g (es:=ucE a u v.st) m fun e he=>he;refine⟨h1.first,h1.mono,fun j x w b hw=>?_,fun j x o b=>?_,h1.path⟩;·have :=h1.near j x v b c;have:=h1.mono i (i+1) v w (by omega) c hw;omega
 by_cases f:j=i;·subst f;rw[c]at b;cases b;refine⟨g,fun e he=>?_⟩;obtain⟨w,hw,d⟩:=Zan.1 (QiN (a:=a) (i:=j) (v:=v) (l:=l) he);obtain⟨k,hk⟩:=Zbk hw;exact⟨w,hw,d,h1.near k w v hk c⟩
 exact h1.done j x (by omega) b
theorem Qte{a:Aut}{u:List Nat}{R:List Rm}{s:Nat}:∀(k i:Nat)(l:List Vs){r:List Nat}{t:Nat},BQ a u R s i l->bgo a u R k i l=some (r,t)->Pth a u R s r t/\badS R t=true/\∀k,k<r.length->∀b,rchK a u k s b->badS R b=false:=by intro k;induction k with|zero=>intro i l r t _ c;cases c|succ k G=>
 intro i l r t h c;unfold bgo at c;split at c;·cases c
 rename_i v g;split at c
 ·rename_i o;cases c;refine⟨h.path v (Zac g),o,?_⟩;have key:∀k,k<v.run.length->∀b,rchK a u k s b->∃(j:Nat)(w:Vs),j<i/\l[j]?=some w/\w.st=b/\w.run.length<=k:=by intro k;induction k with
  |zero=>
   intro hk b f;cases f;refine⟨0,v0 s,?_,h.first,rfl,by simp[v0]⟩;rcases Nat.eq_zero_or_pos i with e|e;·subst e;rw[h.first]at g;cases g;simp[v0]at hk
   exact e|succ k y=>
   rintro hk b⟨m,hm,e,he,rfl⟩;obtain⟨j,w,p,A,rfl,H⟩:=y (by omega) m hm;obtain⟨_,d2⟩:=h.done j w p A;obtain⟨z,C,E,z2⟩:=d2 e he;obtain⟨q,B⟩:=Zbk C;refine⟨q,z,?_,B,E,by omega⟩;rcases ZbE q i with d|d;·exact d
   have :=h.mono i q v z d g B;omega
  intro k hk b f;obtain⟨j,w,p,A,rfl,_⟩:=key k hk b f;exact(h.done j w p A).1
 rename_i x;exact G _ _ (h.next g (by simpa using x)) c
def runE(a:Aut)(s:Nat)(r:List Nat):Nat:=r.foldl (toA a) s
theorem QlD{a:Aut}{s e:Nat}{r:List Nat}:runE a s (r++[e])=toA a (runE a s r) e:=by simp[runE,Za5]
theorem Pth.run{a:Aut}{u:List Nat}{R:List Rm}{s t:Nat}{r:List Nat}(h:Pth a u R s r t):runE a s r=t:=by induction h with|nil=>rfl|snoc h c he b=>rw[QlD,b]
theorem QnA{a:Aut}{u:List Nat}{m e:Nat}(he:e∈ucE a u m):stepA a.es m e=some (toA a m e)/\e∈u/\e∈a.al:=by obtain⟨h1,b⟩:=ZaM.1 he;rw[Zaa]at b;obtain⟨t,c⟩:=Za6.1 b.1;unfold toA;rw[c];exact⟨rfl,by simpa using b.2,h1⟩
theorem QeY{es:List Ed}{s ev t:Nat}(h:stepA es s ev=some t):∃e∈es,e.1=s/\e.2.1=ev/\e.2.2=t:=by unfold stepA at h;cases hf:es.find? fun e=>e.1==s&&e.2.1==ev with|none=>rw[hf]at h;cases h|some e=>rw[hf]at h;have h1:=ZbT hf;simp at h1 h;exact⟨e,Za3 hf,h1.1,h1.2,h⟩
theorem Pth.mid{a:Aut}{u:List Nat}{left:Nat->Bool}{R:List Rm}{s t:Nat}{r:List Nat}(hw:WfA a)(f:RemOk a u left R)(c:∀e∈a.es,left e.1=true->e.2.1∈u->left e.2.2=true)(B:s<a.n)(h:Pth a u R s r t)(y:left t=false):t<a.n/\∀i,i<r.length->∃x e,remAt R (runE a s (r.take i))=some x/\x.reason=2/\r[i]?=some e/\e∈u/\e∈a.al/\stepA a.es (runE a s (r.take i)) e=some (runE a s (r.take (i+1))):=by induction h with|nil=>exact⟨B,fun i hi=>absurd hi (ZaB _)⟩|@snoc r m e hp p he z=>
 obtain⟨s1,s2,E⟩:=QnA he;have hm:left m=false:=by cases A:left m with|false=>rfl|true=>obtain⟨x,d,x1,x2,x3⟩:=QeY s1;have:=c x d (by rw[x1];exact A) (by rw[x2];exact s2);rw[x3,y]at this;cases this
 obtain⟨k,hi⟩:=z hm;refine⟨Qco hw.esn s1,fun i l=>?_⟩;rw[Zae,Zbg]at l;by_cases b:i<r.length;·obtain⟨x,q,q1,q2,C,w⟩:=hi i b;rw[ZbG (by omega),ZbG (by omega)];exact⟨x,q,q1,q2,by rw[ZaH b];exact C,w⟩
 have v:i=r.length:=by omega
 subst v;rw[ZbG (by omega),Zao,hp.run];obtain⟨x,d,g⟩:=f.all m k hm;subst g;have o:=Qcp f.nd d;refine⟨x,e,o,?_,by simp,s2,E,?_⟩;·rw[QrV f d]at p;simpa using p
 rw[Za1 (by simp),QlD,hp.run];exact s1
theorem QlE{a:Aut}{u f:List Nat}{R:List Rm}{x:Rm}(hw:WfA a)(c:RemOk a u (lf (fin a.n a.es a.ms f u true).1) R)(m:x∈R){r:List Nat}{t:Nat}(o:bres a u R x.st=some (r,t)):(∃z∈R,z.st=t/\(z.reason=1\/z.reason=3))/\runE a x.st r=t/\(∀i,i<r.length->∃y e,remAt R (runE a x.st (r.take i))=some y/\y.reason=2/\r[i]?=some e/\e∈u/\e∈a.al/\stepA a.es (runE a x.st (r.take i)) e=some (runE a x.st (r.take (i+1))))/\∀k,k<r.length->∀g,rchK a u k x.st g->badS R g=false:=by
 obtain⟨h1,b,h⟩:=Qte (a.n+1) 0 _ BQ.one o;have p:∃z∈R,z.st=t/\(z.reason=1\/z.reason=3):=by unfold badS at b;cases d:remAt R t with|none=>rw[d]at b;cases b|some z=>
  rw[d]at b;obtain⟨q1,q2⟩:=QbF d;refine⟨z,q1,q2,?_⟩;have:=c.re z q1;replace b:(!Nat.beq z.reason 2)=true:=b;have h:z.reason≠2:=fun e=>by rw[e]at b;exact absurd b (by decide)
  omega
 obtain⟨z,l,z2,z3⟩:=p;have hk:=QjY (forb:=f) (unc:=u) hw.inN hw.nd hw.srt;exact⟨⟨z,l,z2,z3⟩,h1.run,(h1.mid hw c hk.ctl (c.st x m).1 (by rw[<-z2];exact(c.st z l).2)).2,h⟩
def blkTo(R:List Rm)(r:Int)(s:Nat):Bool:=match remAt R s with|some x=>Nat.beq x.reason 3&&decide (x.rank=r)|none=>false
inductive RchB(es:List Ed)(R:List Rm)(r:Int)(s:Nat):Nat->Prop|here:RchB es R r s s|step{e:Ed}(h:RchB es R r s e.1)(he:e∈es)(hb:blkTo R r e.2.2=true):RchB es R r s e.2.2
theorem RchB.ok{a:Aut}{u:List Nat}{left:Nat->Bool}{R:List Rm}{r:Int}{s t:Nat}(hw:WfA a)(g:RemOk a u left R)(d:blkTo R r s=true)(h:RchB a.es R r s t):t<a.n/\blkTo R r t=true:=by
 have key:∀t,blkTo R r t=true->t<a.n:=fun t b=>by unfold blkTo at b;cases f:remAt R t with|none=>rw[f]at b;cases b|some x=>obtain⟨h1,rfl⟩:=QbF f;exact(g.st x h1).1
 induction h with|here=>exact⟨key s d,d⟩|step h he c i=>exact⟨key _ c,c⟩
open Classical in noncomputable def inB(es:List Ed)(R:List Rm)(r:Int)(s t:Nat):Bool:=decide (RchB es R r s t)
open Classical in theorem Qex{es:List Ed}{R:List Rm}{r:Int}{s t:Nat}:inB es R r s t=true↔RchB es R r s t:=by unfold inB;exact decide_eq_true_iff
structure KOk(a:Aut)(R:List Rm)(r:Int)(s:Nat)(K:List Nat):Prop where
 has:s∈K
 nd:K.Nodup
 rch:∀t∈K,RchB a.es R r s t
theorem KOk.len{a:Aut}{u:List Nat}{left:Nat->Bool}{R:List Rm}{r:Int}{s:Nat}{K:List Nat}(h:KOk a R r s K)(hw:WfA a)(b:RemOk a u left R)(d:blkTo R r s=true):K.length<=a.n:=QaN a.n K h.nd fun t c=>((h.rch t c).ok hw b d).1
theorem KOk.all{a:Aut}{R:List Rm}{r:Int}{s:Nat}{K:List Nat}(h:KOk a R r s K)(hc:∀e∈a.es,e.1∈K->blkTo R r e.2.2=true->e.2.2∈K)(t:Nat):K.contains t=inB a.es R r s t:=by rw[Zbu,Qex,ZaE];refine⟨h.rch t,fun d=>?_⟩;induction d with|here=>exact h.has|step hp he b c=>exact hc _ he c b
end Go.AM.SO
namespace Go.AM.SO
open Go.Proofs Go.AM.SD Go.AM.SE
end Go.AM.SO
namespace Go.AM.SO
open Go.Proofs Go.AM.SD Go.AM.SE
theorem QnB{l:List Aut}{t:List Nat}{e:Nat}:∀{k:Nat},k<=l.length->((stp l t e k).isSome=true↔∀(i:Nat)a,i<k->l[i]?=some a->e∈a.al->(stepA a.es (t.getD i 0) e).isSome=true)|0,_=>by simp[stp]|k+1,hk=>by have b:=QnB (l:=l) (t:=t) (e:=e) (k:=k) (by omega);obtain⟨a,c⟩:=Qao (l:=l) (i:=k) (by omega);unfold stp;grind
theorem Qgp{l:List Aut}{t:List Nat}{e:Nat}:(stepT l t e).isSome=true↔∀(i:Nat)a,l[i]?=some a->e∈a.al->(stepA a.es (t.getD i 0) e).isSome=true:=by simp_all[stepT,QnB,Zaf]
theorem Qur{c:Cel}{r:List Nat}{e:Nat}:rfI c r e<0↔∀(i:Nat)y,c.rs[i]?=some y->e∈y.2.al->(stepA y.2.es (r.getD i 0) e).isSome=true:=by
 have a:=@QcN _ (rfQ c r e) (List.range c.rs.length);have b:rfI c r e<0↔(List.range c.rs.length).any (rfQ c r e)=false:=by grind[Qhu,rfI]
 simp_all[Zaf,rfQ,stepA]
theorem QlG{c:Cel}{t:List Nat}{e:Nat}(d:c.cs.length<=t.length):(stepT (allA c) t e).isSome=true↔(stepT (auL c.cs) (t.take c.cs.length) e).isSome=true/\rfI c (t.drop c.cs.length) e<0:=by
 rw[Qgp,Qgp,Qur];constructor
 ·intro h;refine⟨fun i a b he=>?_,fun i y f he=>?_⟩
  ·have hi:i<c.cs.length:=by grind
   have:=h i a (by simp_all[allA,ZaH]) he;grind
  simp_all[allA,ZbK]
 grind[allA]
theorem Qp0{a b:List Nat}(c:a.Pairwise (·<·))(d:b.Pairwise (·<·))(h:∀x,x∈a↔x∈b):a=b:=by refine List.Perm.eq_of_pairwise (le:=fun x y=>x<y) (fun x y _ _ h1 f=>by omega) c d ?_;exact(List.perm_ext_iff_of_nodup (c.imp fun h=>by omega) (d.imp fun h=>by omega)).2 h
theorem QvF{c:Cel}(h:WfCel c):evA (allA c)=evA (auL c.cs):=by refine Qp0 (Qej (Qcd h)) (Qej (Qa5 h)) fun e=>⟨Qpg h,fun he=>?_⟩;obtain⟨a,d,b⟩:=(Qew (Qa5 h)).1 he;exact(Qew (Qcd h)).2 ⟨a,Zay.2 (.inl d),b⟩
end Go.AM.SO
namespace Go.AM.SO
open Go.Proofs Go.AM.SD Go.AM.SE
def runA(es:List Ed):Nat->List Nat->Option Nat|s,[]=>some s|s,x::w=>match stepA es s x with|some n=>runA es n w|none=>none
theorem QnC{l:List Aut}{T:List (List Nat)}{j:Nat}{t:List Nat}{e:Nat}:∀{ev:List Nat},e∈ev->((rowE l ev T j t).find? fun x=>decide (x.2.1=e)).map (·.2.2)=(stepT l t e).map (ixT T)
 |[],h=>by cases h|y::ev,h=>by
  unfold rowE;rw[ZbA];by_cases b:y=e;·subst b;cases d:stepT l t y with|some n=>simp|none=>show(((rowE l ev T j t).find? fun x=>decide (x.2.1=y)).map (·.2.2))=none;rw[Option.map_eq_none_iff,Zbb];intro x g he;obtain⟨_,_,n,c,_⟩:=Qev g;rw[of_decide_eq_true he,d]at c;cases c
  have a:=QnC (l:=l) (T:=T) (j:=j) (t:=t) ((Zas.1 h).resolve_left fun f=>b f.symm);unfold rowE at a;cases d:stepT l t y with|some n=>simpa[b]using a|none=>simpa using a
theorem Qgq{l:List Aut}(h:∀a∈l,WfI a){j:Nat}{t:List Nat}(b:(sync0 l).1[j]?=some t){e:Nat}(he:e∈evA l):stepA (syncA l).es j e=(stepT l t e).map (ixT (sync0 l).1):=by rw[Qd8,QlA h b,QnC he]
end Go.AM.SO
namespace Go.AM.SO
open Go.Proofs Go.AM.SD Go.AM.SE
end Go.AM.SO
namespace Go.AM.SO
open Go.AM.SD Go.AM.SE
structure Exp where
 kind:Int
 st:Int
 nx:Int
 req:Int
 run:List Nat
 en:Int
 rm:Rm
 rs:Nat×Int×Int×Int
abbrev rm00:Rm:=⟨0,0,0,0⟩
abbrev rs00:Nat×Int×Int×Int:=(0,0,0,0)
abbrev x00:Exp:=⟨0,0,0,0,[],0,rm00,rs00⟩
def rsnAt(F:List (Nat×Int×Int×Int))(t:Nat):Nat×Int×Int×Int:=(F.find? fun y=>y.1==t).getD rs00
def rmD(R:List Rm)(t:Nat):Rm:=(remAt R t).getD rm00
def ldx(R:List Rm)(F:List (Nat×Int×Int×Int))(s n:Nat)(r:List Nat)(t:Nat):Exp:=⟨4,s,n,-1,r,t,rmD R t,if(rmD R t).reason=1 then rsnAt F t else rs00⟩
def leadsG(q:Aut)(u:List Nat)(R:List Rm)(F:List (Nat×Int×Int×Int))(s n:Nat):Exp:=match bres q u R n with|some (r,t)=>ldx R F s n r t|none=>x00
def eventG(q:Aut)(u:List Nat)(R:List Rm)(F:List (Nat×Int×Int×Int))(p:Bool)(f:Int)(v e:Nat):Exp:=if p then if 0<=f then⟨3,v,-1,f,[],-1,rm00,rs00⟩else if(remAt R ((stepA q.es v e).getD 0)).isSome then leadsG q u R F v ((stepA q.es v e).getD 0)else⟨1,v,(stepA q.es v e).getD 0,-1,[],-1,rm00,rs00⟩else⟨2,v,-1,-1,[],-1,rm00,rs00⟩
def tup(c:Cel)(v:Nat):List Nat:=(sync0 (allA c)).1.getD v []
abbrev forbC(c:Cel):List (Nat×Int×Int×Int):=forb c (sync0 (allA c)).1.length
def pOk(c:Cel)(v e:Nat):Bool:=(evA (auL c.cs)).contains e&&(stepT (auL c.cs) ((tup c v).take c.cs.length) e).isSome
def rfX(c:Cel)(v e:Nat):Int:=rfI c ((tup c v).drop c.cs.length) e
def leadsX(c:Cel)(s n:Nat):Exp:=leadsG (syncA (allA c)) (uncL c.ev 5) (resC c).rem (forbC c) s n
def eventX(c:Cel)(v e:Nat):Exp:=eventG (syncA (allA c)) (uncL c.ev 5) (resC c).rem (forbC c) (pOk c v e) (rfX c v e) v e
theorem Qp1{n:Nat}{es:List Ed}{mk:List Nat}{unc:List Nat}{all:Bool}{P:Rm->Prop}(b:∀left rank x,x∈pNext n es mk left unc rank all->P x):∀(f rank:Nat)(l:LB)(rs:List Rm)(k:Nat),(∀x∈rs,P x)->∀x∈(pRounds n es mk unc all f rank l rs k).2.1,P x:=by intro f;induction f with|zero=>intro rank l rs k h;exact h|succ f c=>
 intro rank l rs k h;unfold pRounds;split;·exact h
 refine c _ _ _ _ fun x a=>?_;rcases Zay.1 a with a|a;·exact h x a
 exact b _ _ x a
theorem Qr1{a:Aut}{f u:List Nat}{all:Bool}(h:WfA a):∀x∈(pRes a f u all).rem,x.reason=1->x.st∈f:=by intro x g;have hp:=Qg4 (fin a.n a.es a.ms f u all).2.1;have c:x∈(fin a.n a.es a.ms f u all).2.1:=hp.mem_iff.1 g;exact Qp1 (P:=fun x=>x.reason=1->x.st∈f) (fun left d y b h1=>by have:=(Qlg h.inN h.srt b).2.1;omega) _ _ _ _ _ (fun y b _=>by obtain⟨i,hi,rfl⟩:=Zan.1 b;exact hi) x c
theorem Qpi{F:List (Nat×Int×Int×Int)}{t:Nat}(h:t∈fbs F):∃y∈F,y.1=t/\(F.find? fun y=>y.1==t)=some y:=by cases hf:F.find? fun y=>y.1==t with|none=>obtain⟨y,a,rfl⟩:=Zan.1 h;have:=Zbb.1 hf y a;simp at this|some y=>have h1:=ZbT hf;exact⟨y,Za3 hf,by simpa using h1,rfl⟩
theorem QhB{c:Cel}{v:Nat}(b:v<(syncA (allA c)).n):(sync0 (allA c)).1[v]?=some (tup c v):=by have a:v<(sync0 (allA c)).1.length:=b;unfold tup;rw[Zak,Zal a];rfl
theorem QjL{c:Cel}(h:WfCel c){v e:Nat}(k:v<(syncA (allA c)).n):(stepA (syncA (allA c)).es v e).isSome=true↔pOk c v e=true/\rfX c v e<0:=by
 have a:=QhB k;have d:=(QfH h _ (Zac a)).1;have g:c.cs.length<=(tup c v).length:=by rw[d.1,Qb8];omega
 unfold pOk rfX;rw[Zaa,ZaE,<-QvF h];constructor
 ·intro f;obtain⟨t,b⟩:=Za6.1 f;obtain⟨x,i,x1,x2,x3⟩:=QeY b;have he:e∈evA (allA c):=by rw[<-x2];exact(wfA_c c h).ev x i
  rw[Qgq (Qcd h) a he,Option.isSome_map]at f;obtain⟨q1,q2⟩:=(QlG g).1 f;exact⟨⟨he,q1⟩,q2⟩
 rintro⟨⟨he,q1⟩,q2⟩;rw[Qgq (Qcd h) a he,Option.isSome_map];exact(QlG g).2 ⟨q1,q2⟩
abbrev leftC(c:Cel):Nat->Bool:=lf (fin (syncA (allA c)).n (syncA (allA c)).es (syncA (allA c)).ms (fbd c) (uncL c.ev 5) true).1
theorem Qct(c:Cel)(h:WfCel c):RemOk (syncA (allA c)) (uncL c.ev 5) (leftC c) (resC c).rem:=Qrc (wfA_c c h) (qok_c c).fS (qok_c c).fn
theorem QfJ{c:Cel}(h:WfCel c){i v:Nat}(d:(resC c).orig[i]?=some v):v<(syncA (allA c)).n/\leftC c v=true:=by have b:=(QdD (left:=leftC c) (wfA_c c h)).1;have a:=b.lft v (Zac d);have hk:=QjY (forb:=fbd c) (unc:=uncL c.ev 5) (wfA_c c h).inN (wfA_c c h).nd (wfA_c c h).srt;exact⟨hk.lt v a,a⟩
def wlk(S:Aut):List Nat->Nat->List Nat×Nat|[],s=>([],s)|n::w,s=>match(sOut S.es (fun _=>true) s)[n%(sOut S.es (fun _=>true) s).length]? with|none=>([],s)|some x=>(x.2.1::(wlk S w x.2.2).1,(wlk S w x.2.2).2)
theorem QnE{S:Aut}(h:WfA S):∀(w:List Nat)(s:Nat),s<S.n->runA S.es s (wlk S w s).1=some (wlk S w s).2/\(wlk S w s).1.length<=w.length/\(wlk S w s).2<S.n/\∀x∈(wlk S w s).1,x∈S.al|[],s,d=>⟨rfl,ZaN _,d,fun x b=>by cases b⟩|n::w,s,d=>by unfold wlk;cases b:(sOut S.es (fun _=>true) s)[n%(sOut S.es (fun _=>true) s).length]? with|none=>exact⟨rfl,Zah _,d,fun x b=>by cases b⟩|some x=>
 obtain⟨m1,m2,_⟩:=Qa4.1 (Zac b);have a:=QdL h.es m1;rw[m2]at a;obtain⟨q1,q2,g,f⟩:=QnE h w x.2.2 (h.esn x m1).2;refine⟨?_,by simp;omega,g,fun y c=>?_⟩;·unfold runA;rw[a];exact q1
 rcases Zas.1 c with rfl|c;·exact h.ev x m1
 exact f y c
end Go.AM.SO
